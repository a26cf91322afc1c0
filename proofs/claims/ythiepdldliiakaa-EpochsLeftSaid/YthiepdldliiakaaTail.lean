/- A region that draws its order, reads, and stores once at its end: the kit's law for it, its reads by the cheap step. No conditions. -/
import Derived.Test.YthiepdldliiakaaRound
import Derived.StillTailTactics
namespace Go.Proofs.Ythiepdldliiakaa
open Go Go.RowKit Go.Shelf

theorem still_of_quiet {n : Nat} {P : Program} {ops : Array Oper} {w : World} {Q : Act → Prop} : ∀ (l : List Oper) (a : Act), wpQuietIn Fence.wide n P ops (fun w' => w' = w) Q l a → wpStill P ops w Q l a := by
  intro l
  induction l with
  | nil => exact fun _ h => h
  | cons o rest ih =>
    intro a h
    have h2 := h.2
    show ite _ _ _
    split
    · rename_i hw
      rw [if_pos hw] at h2
      obtain ⟨v, hv, hk⟩ := h2
      have hv := hv w rfl
      have hk := ih _ hk
      unfold Oper.quietAtIn at hv
      unfold Oper.still
      revert hv
      cases (execOp a.eval o).run P w with
      | ok x w' =>
        cases x with
        | value u => rintro ⟨rfl, rfl⟩; exact ⟨rfl, hk⟩
        | skip => rintro ⟨rfl, rfl⟩; exact ⟨rfl, hk⟩
        | enter f args => rintro ⟨rfl, -, hc⟩; exact ⟨rfl, v, callsIn_wide.1 hc, hk⟩
        | _ => exact fun h => h.elim
      | _ => exact fun h => h.elim
    · rename_i hw
      rw [if_neg hw] at h2
      exact ih _ h2

theorem tail_quiet {id d : Nat} {P : Program} {Q : Exit → Act → World → Prop} {a : Act} {w : World} {l : List Oper} (n : Nat) (hm : P.follows .mixedOrders = true) (hB : Region.lexTailB .any l.toArray n = true)
    (h : wpQuietIn Fence.wide d P l.toArray (fun w' => w' = w.drew) (fun a' => wpList P l.toArray Q (l.drop n) a' w.drew) (l.take n) a) : (Code.region id l.toArray true).wpIn Fence.wide d P Q a w :=
  wpIn_wide.2 (wp_region_still_tail n hm hB (still_of_quiet _ _ h))

end Go.Proofs.Ythiepdldliiakaa

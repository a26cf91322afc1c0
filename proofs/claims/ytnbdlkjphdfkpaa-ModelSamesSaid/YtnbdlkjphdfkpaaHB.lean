/- awake: what it computes. No conditions. -/
import Derived.Test.YtnbdlkjphdfkpaaHA
namespace Go.Proofs.Ytnbdlkjphdfkpaa
open Go Go.RowKit H Go.Proofs.YtnbdlkjphdfkpaaW.PrintWords

theorem aw_row {w : World} {base : Nat} {ok : Nat → Prop} {v : Value} (h : Kd.R k37 37 w base ok v [⟨0, 5, ⟨#[97]⟩⟩]) : ∃ (ad : Addr) (c : Nat), v = .slice (some ad) 1 c ∧ w.cell? ad = some (.int .i64 0) ∧ w.cell? ⟨ad.block, ad.off + 1, none⟩ = some (.int .u64 5) ∧ w.cell? ⟨ad.block, ad.off + 2, none⟩ = some (.string ⟨#[97]⟩) := by
  obtain ⟨A, c, rfl, hl, hr⟩ := Kd.R_reads h
  obtain ⟨ad, rfl, h0, h1, h2⟩ := at_T37 hr 0 (by decide) (by decide)
  have ha : ad.add ((0 : Int).toNat * 3) = ad := by simp [Addr.add]
  rw [ha] at h0 h1 h2
  exact ⟨ad, c, rfl, h0, h1, h2⟩

set_option maxRecDepth 100000 in
set_option maxHeartbeats 4000000 in
theorem awake_walk (w : World) : Calls Try.prog 8 #[] w fun e w' => e = .returned (.bool true) ∧ Below w.heap.size w w' := by
  have kc := fun (w : World) (C : Array Value) (n c : Nat) => Lib.run_convert_bytes_const (P := Try.prog) w 47 5 C n c Try.underlying47 Try.underlying5
  have hw := Lib.hid (aw_world w)
  have ha3 := Lib.hid aw3
  go_enter Try.func8, Try.ntmps8
  go_wp2_with (first
    | (go_at_call 12; (obtain ⟨hB3, hC⟩ := hw.out _ rfl); clear hw kc; refine (model_Committed.calls 0 _ _ awl 1 [] _ hC (Nat.le_refl 2) aw1).mono ?_; rintro e w4 ⟨v4, rfl, ho4, hB4⟩; obtain ⟨Ao4, co4, rfl⟩ := Kd.R_slice ho4; clear ho4; replace hB3 := below_step hB3 hB4; replace hC := Kd.C_below hC hB4; clear hB4)
    | (go_at_call 12; refine (model_Committed.calls 0 _ _ awl 2 _ _ hC (Nat.le_refl 2) aw2).mono ?_; rintro e w5 ⟨v5, rfl, ho5, hB5⟩; obtain ⟨ad5, co5, rfl, x0, x1, x2⟩ := aw_row ho5; clear ho5; replace hB3 := below_step hB3 hB5; replace hC := Kd.C_below hC hB5; clear hB5)
    | (go_at_call 15; have ha := ha3.out; clear ha3; refine (model_Stable.calls 0 _ _ awl 1 _ _ hC (Nat.le_refl 2) ha).mono ?_; clear ha; rintro e w6 ⟨rfl, hB6⟩; replace hB3 := below_step hB3 hB6; replace hC := Kd.C_below hC hB6; clear hB6)
    | (go_at_call 15; refine (model_Stable.calls 0 _ _ awl 2 _ _ hC (Nat.le_refl 2) aw4).mono ?_; rintro e w7 ⟨rfl, hB7⟩; replace hB3 := below_step hB3 hB7; clear hB7 hC)
    | go_in)
  go_ret
  exact ⟨rfl, hB3⟩

namespace H
def penstocklaw21_awake.f (_k : Nat) : Option Bool := some true
theorem penstocklaw21_awake.mono : ∀ k, LeO (penstocklaw21_awake.f k) (penstocklaw21_awake.f (k + 1)) := fun _ => LeO.refl _
theorem penstocklaw21_awake.calls (k : Nat) (r : Bool) (w : World) (h : penstocklaw21_awake.f k = some r) :
    Calls Try.prog 8 #[] w fun e w' => e = .returned (.bool r) ∧ Below w.heap.size w w' := by
  obtain rfl := Option.some.inj h
  exact awake_walk w
end H
end Go.Proofs.Ytnbdlkjphdfkpaa

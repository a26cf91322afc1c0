/- The program's Cache at known answers; awake is true. No conditions. -/
import Derived.Test.YthiepdldliiakaaAssign
namespace Go.Proofs.Ythiepdldliiakaa
open Go Go.RowKit

theorem assign_at (g : Nat) (v : Value) (xs ys : List (Int × Int)) (epoch at_ r : Int) (w : World) (h : IsCache w g v xs) (hlen : xs.length < 8796093022200) (hr : assign xs epoch at_ = (r, ys)) :
    Calls Try.prog 11 #[.pointer (some ⟨g, 0, none⟩), .int .i64 epoch, .int .i64 at_] w fun e w' => e = .returned (.int .i64 r) ∧ ∃ v', IsCache w' g v' ys ∧ Moved g v v' w w' := by
  refine (assign_calls g v xs epoch at_ w h hlen).mono ?_
  rintro e w' ⟨rfl, v', h1, h2⟩
  rw [hr] at h1 ⊢
  exact ⟨rfl, v', h1, h2⟩

theorem new_cache (w : World) : IsCache (w.alloc (.cells #[.slice none 0 0] 50)) w.heap.size (.slice none 0 0) [] :=
  ⟨heap_alloc_new w _, World.ownsRow_nil _ _ _ _⟩

/-- New, in the words of the cache. -/
theorem new_at (w : World) : Calls Try.prog 9 #[] w fun e w' => ∃ g, e = .returned (.pointer (some ⟨g, 0, none⟩)) ∧ IsCache w' g (.slice none 0 0) [] ∧ Fr (fun _ => False) w w' ∧ w.heap.size ≤ g := by
  refine (new_calls w).mono ?_
  rintro e w' ⟨rfl, rfl⟩
  exact ⟨_, rfl, new_cache w, (Fr.refl _ _).alloc _, Nat.le_refl _⟩

/-- What a call that works on a new cache alone leaves. -/
theorem Moved.fr_new {w0 w w' : World} {g : Nat} {v v' : Value} (h : Moved g v v' w w') (h0 : Fr (fun _ => False) w0 w) (hg : w0.heap.size ≤ g) (hv : ∀ k, v.ownBlock = some k → w0.heap.size ≤ k) :
    Fr (fun _ => False) w0 w' ∧ ∀ k, v'.ownBlock = some k → w0.heap.size ≤ k :=
  ⟨h0.trans' h.fr (fun i hi hs => by rcases hs with rfl | hs; exact absurd hg (by omega); exact absurd (hv i hs) (by omega)), fun k hk => (h.own k hk).elim (hv k) (fun hl => Nat.le_trans h0.size hl)⟩

theorem awake_calls (w : World) : Calls Try.prog 10 #[] w fun e w' => e = .returned (.bool true) ∧ Fr (fun _ => False) w w' := by
  go_enter Try.func10, Try.ntmps10
  go_wp2_with fail
  refine (new_at w).mono ?_
  rintro e w1 ⟨g, rfl, hc1, hf1, hg⟩
  go_wp2_with fail
  refine (assign_at g _ _ [(1, 0)] 1 0 0 _ hc1 (by decide) (by decide)).mono ?_
  rintro e w2 ⟨rfl, v2, hc2, hm2⟩
  obtain ⟨hf2, hv2⟩ := hm2.fr_new hf1 hg (by intro k hk; cases hk)
  go_wp2_with fail
  refine (assign_at g _ _ [(1, 0), (3, 5)] 3 5 0 _ hc2 (by decide) (by decide)).mono ?_
  rintro e w3 ⟨rfl, v3, hc3, hm3⟩
  obtain ⟨hf3, hv3⟩ := hm3.fr_new hf2 hg hv2
  go_wp2_with fail
  refine (end_some g v3 _ 2 9 _ hc3 (1, 5, true) (by decide)).mono ?_
  rintro e w4 ⟨rfl, rfl⟩
  go_wp2_with fail
  go_ret
  exact ⟨rfl, hf3⟩
end Go.Proofs.Ythiepdldliiakaa

/- The pairs that are cut, in plain words. No conditions. -/
import Derived.Test.YtalaghkpbdaonaaNetF
import Derived.Maps.Views
namespace Go.Proofs.Ytalaghkpbdaonaa
open Go Go.RowKit H Go.Proofs.YtalaghkpbdaonaaW.PrintWords

/-- Two pairs of ends are one and the same, either way. -/
def samePair (i j x y : Int) : Bool := (i == x && j == y) || (i == y && j == x)

theorem pkey_eq {i j x y : Int} (wi : (Lit.int .i64 i).wf = true) (wj : (Lit.int .i64 j).wf = true) (wx : (Lit.int .i64 x).wf = true) (wy : (Lit.int .i64 y).wf = true) :
    pkey i j = pkey x y ↔ samePair i j x y = true := by
  unfold samePair
  simp only [Bool.or_eq_true, Bool.and_eq_true, beq_iff_eq]
  have mm : ∀ (a b : Int), (Lit.int .i64 a).wf = true → (Lit.int .i64 b).wf = true → (Lit.int .i64 (min a b)).wf = true ∧ (Lit.int .i64 (max a b)).wf = true := fun a b ha hb => by
    rcases Int.le_total a b with h | h
    · rw [Int.min_eq_left h, Int.max_eq_right h]; exact ⟨ha, hb⟩
    · rw [Int.min_eq_right h, Int.max_eq_left h]; exact ⟨hb, ha⟩
  constructor
  · intro h
    unfold pkey at h
    injection h with h
    have e := keyBytes_inj (l := [.int .i64 (min i j), .int .i64 (max i j)]) (l' := [.int .i64 (min x y), .int .i64 (max x y)]) ⟨rfl, rfl, trivial⟩
      (fun a ha => by simp at ha; rcases ha with rfl | rfl; exact (mm i j wi wj).1; exact (mm i j wi wj).2)
      (fun a ha => by simp at ha; rcases ha with rfl | rfl; exact (mm x y wx wy).1; exact (mm x y wx wy).2) h
    simp at e
    omega
  · intro h
    have h1 : min i j = min x y := by omega
    have h2 : max i j = max x y := by omega
    unfold pkey
    rw [h1, h2]

theorem isCut_put {D : DataW Unit} (hD : Maps.IsMap D) {i j x y : Int} (wi : (Lit.int .i64 i).wf = true) (wj : (Lit.int .i64 j).wf = true) (wx : (Lit.int .i64 x).wf = true) (wy : (Lit.int .i64 y).wf = true) :
    isCut (D.put (pkey i j) (.lit (.bool true))) x y = (samePair i j x y || isCut D x y) := by
  unfold isCut
  by_cases h : pkey i j = pkey x y
  · rw [(pkey_eq wi wj wx wy).1 h, ← h, Maps.atKey_put_same hD (by trivial)]
    rfl
  · rw [Maps.atKey_put_other (fun e => h e.symm), show samePair i j x y = false from by simpa using fun e => h ((pkey_eq wi wj wx wy).2 e)]
    rfl
end Go.Proofs.Ytalaghkpbdaonaa

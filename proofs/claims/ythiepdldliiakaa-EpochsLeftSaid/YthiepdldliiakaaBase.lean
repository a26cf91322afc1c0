/- The words for memory of layer 10 (a cache, a row of pairs), and plain lemmas on them. No conditions. -/
import Derived.Test.YthiepdldliiakaaProg
import Derived.WalkKit
import Derived.OwnWalk
import Derived.Below
import Derived.OneCell
import Derived.Lib.Hide
import Derived.Deep.Draws
import Derived.Laws.AppendOwn
import Derived.Laws.OwnMore
import Derived.KernelRfl
namespace Go.Proofs.Ythiepdldliiakaa
open Go Go.RowKit

/-- The cells of a list of pairs. -/
def cellsOf : List (Int × Int) → List Value
  | [] => []
  | x :: r => .int .i64 x.1 :: .int .i64 x.2 :: cellsOf r

theorem cellsOf_length (xs : List (Int × Int)) : (cellsOf xs).length = xs.length * 2 := by
  induction xs with
  | nil => rfl
  | cons x r ih => simp [cellsOf, ih]; omega

theorem cellsOf_append (xs ys : List (Int × Int)) : cellsOf (xs ++ ys) = cellsOf xs ++ cellsOf ys := by
  induction xs with
  | nil => rfl
  | cons x r ih => simp [cellsOf, ih]

theorem cellsOf_take (xs : List (Int × Int)) (k : Nat) : cellsOf (xs.take k) = (cellsOf xs).take (k * 2) := by
  induction xs generalizing k with
  | nil => simp [cellsOf]
  | cons x r ih =>
    cases k with
    | zero => simp [cellsOf]
    | succ k => rw [List.take_succ_cons, cellsOf, cellsOf, ih, show (k + 1) * 2 = k * 2 + 1 + 1 by omega]; rfl

theorem cellsOf_even (xs : List (Int × Int)) (i : Nat) (h : i < xs.length) : (cellsOf xs)[i * 2]? = some (.int .i64 (xs.getD i (0, 0)).1) := by
  induction xs generalizing i with
  | nil => simp at h
  | cons x r ih =>
    cases i with
    | zero => rfl
    | succ i =>
      rw [cellsOf, show (i + 1) * 2 = i * 2 + 1 + 1 by omega, List.getElem?_cons_succ, List.getElem?_cons_succ, ih i (by simpa using h)]
      rfl

theorem cellsOf_odd (xs : List (Int × Int)) (i : Nat) (h : i < xs.length) : (cellsOf xs)[i * 2 + 1]? = some (.int .i64 (xs.getD i (0, 0)).2) := by
  induction xs generalizing i with
  | nil => simp at h
  | cons x r ih =>
    cases i with
    | zero => rfl
    | succ i =>
      rw [cellsOf, show (i + 1) * 2 + 1 = i * 2 + 1 + 1 + 1 by omega, List.getElem?_cons_succ, List.getElem?_cons_succ, ih i (by simpa using h)]
      rfl

/-- All but some blocks of w stand in w' as they were. -/
structure Fr (S : Nat → Prop) (w w' : World) : Prop where
  os : w'.os = w.os
  tape : w'.tape = w.tape
  output : w'.output = w.output
  size : w.heap.size ≤ w'.heap.size
  block : ∀ k, k < w.heap.size → ¬ S k → w'.heap[k]? = w.heap[k]?

namespace Fr
variable {S T : Nat → Prop} {a b c : World}
theorem refl (S : Nat → Prop) (w : World) : Fr S w w := ⟨rfl, rfl, rfl, Nat.le_refl _, fun _ _ _ => rfl⟩
theorem trans (h : Fr S a b) (k : Fr S b c) : Fr S a c :=
  ⟨k.os.trans h.os, k.tape.trans h.tape, k.output.trans h.output, Nat.le_trans h.size k.size, fun i hi hs => (k.block i (Nat.lt_of_lt_of_le hi h.size) hs).trans (h.block i hi hs)⟩
theorem weak (h : Fr S a b) (hst : ∀ k, k < a.heap.size → S k → T k) : Fr T a b := ⟨h.os, h.tape, h.output, h.size, fun k hk ht => h.block k hk (fun hs => ht (hst k hk hs))⟩
/-- A second step may also touch what the first one has made. -/
theorem trans' (h : Fr S a b) (k : Fr T b c) (hst : ∀ i, i < a.heap.size → T i → S i) : Fr S a c :=
  ⟨k.os.trans h.os, k.tape.trans h.tape, k.output.trans h.output, Nat.le_trans h.size k.size, fun i hi hs => (k.block i (Nat.lt_of_lt_of_le hi h.size) (fun ht => hs (hst i hi ht))).trans (h.block i hi hs)⟩
theorem drew (h : Fr S a b) : Fr S a b.drew := ⟨h.os, h.tape, h.output, h.size, h.block⟩
theorem drewN (h : Fr S a b) (n : Nat) : Fr S a (b.drewN n) := ⟨h.os, h.tape, h.output, h.size, h.block⟩
theorem alloc (h : Fr S a b) (o : Obj) : Fr S a (b.alloc o) :=
  h.trans ⟨rfl, rfl, rfl, by simp, fun k hk _ => Below.heap_alloc _ _ _ hk⟩
theorem setCell (h : Fr S a b) {p : Addr} (hp : p.block < a.heap.size → S p.block) (u : Value) : Fr S a (b.setCell p u) :=
  ⟨h.os, h.tape, h.output, by simpa [World.setCell] using h.size, fun k hk hs => (Below.heap_setCell _ _ _ _ (by rintro rfl; exact hs (hp hk))).trans (h.block k hk hs)⟩
theorem grown {row : Option Nat} (h : Fr S a b) (hg : b.grownBy c row) (hr : ∀ k, row = some k → k < a.heap.size → S k) : Fr S a c :=
  ⟨hg.os.trans h.os, hg.tape.trans h.tape, hg.output.trans h.output, Nat.le_trans h.size hg.size, fun k hk hs => (hg.block k (Nat.lt_of_lt_of_le hk h.size) (fun e => hs (hr k e.symm hk))).trans (h.block k hk hs)⟩
theorem heap (h : Fr S a b) {k : Nat} {o : Obj} (hk : a.heap[k]? = some o) (hs : ¬ S k) : b.heap[k]? = some o := by
  rw [h.block k (lt_of_block hk) hs]; exact hk
theorem below (h : Fr S a b) (hs : ∀ k, k < a.heap.size → ¬ S k) : Below a.heap.size a b := ⟨h.os, h.tape, h.output, h.size, fun k hk => h.block k hk (hs k hk)⟩
theorem row (h : Fr S a b) {base : Nat} {e : TypeId} {size : Nat} {v : Value} {n : Nat} {xs : List Value} (hv : a.ownsRow base e size v n xs) (hs : ∀ k, v.ownBlock = some k → ¬ S k) : b.ownsRow base e size v n xs := by
  refine ⟨hv.1, ?_⟩
  rcases hv.2 with hn | ⟨g, cap, cur, rfl, hb, hgg, rest⟩
  · exact .inl hn
  · exact .inr ⟨g, cap, cur, rfl, hb, h.heap hgg (hs g rfl), rest⟩
end Fr

/-- The cache at block g, its slice value v, reads as xs. -/
def IsCache (w : World) (g : Nat) (v : Value) (xs : List (Int × Int)) : Prop :=
  w.heap[g]? = some (.cells #[v] 50 (0, 0)) ∧ w.ownsRow 0 52 2 v xs.length (cellsOf xs)

theorem row_cases {w : World} {base : Nat} {e : TypeId} {size n : Nat} {v : Value} {xs : List Value} (h : w.ownsRow base e size v n xs) :
    (v = .slice none 0 0 ∧ n = 0) ∨ ∃ r c, v = .slice (some ⟨r, 0, none⟩) n c ∧ n ≤ c ∧ c ≤ maxLen ∧ r < w.heap.size := by
  rcases h.2 with h2 | ⟨g, cap, cur, rfl, hb, hg, h1, h3, _⟩
  · exact .inl h2
  · exact .inr ⟨g, cap, rfl, h1, h3, lt_of_block hg⟩

theorem row_cell {w : World} {base : Nat} {e : TypeId} {size n r c : Nat} {xs : List Value} (h : w.ownsRow base e size (.slice (some ⟨r, 0, none⟩) n c) n xs) {j : Nat} {u : Value} (hj : xs[j]? = some u) : w.cell? ⟨r, j, none⟩ = some u := by
  have := h.cells (g := r) rfl j u hj
  rwa [show (⟨r, 0, none⟩ : Addr).add j = ⟨r, j, none⟩ by unfold Addr.add; split <;> simp_all] at this

theorem row_take {w : World} {base : Nat} {e : TypeId} {size n r c : Nat} {xs : List Value} (h : w.ownsRow base e size (.slice (some ⟨r, 0, none⟩) n c) n xs) {k : Nat} (hk : k ≤ n) :
    w.ownsRow base e size (.slice (some ⟨r, 0, none⟩) k c) k (xs.take (k * size)) := by
  obtain ⟨hl, h2⟩ := h
  have hks : k * size ≤ n * size := Nat.mul_le_mul_right _ hk
  refine ⟨by rw [List.length_take, hl]; omega, .inr ?_⟩
  rcases h2 with ⟨h0, _⟩ | ⟨g, cap, cur, e1, hb, hg, h1, h3, h4, h5⟩
  · cases h0
  · injection e1 with e1 e2 e3
    injection e1 with e1
    injection e1 with e1
    subst e1 e3
    exact ⟨r, c, cur, rfl, hb, hg, by omega, h3, h4, by rw [← h5, List.take_take, Nat.min_eq_left hks]⟩

end Go.Proofs.Ythiepdldliiakaa

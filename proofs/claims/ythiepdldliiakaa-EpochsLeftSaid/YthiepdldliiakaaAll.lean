/- The iterator over the program's Cache, by contract: it yields the pairs in order. No conditions. -/
import Derived.RangeFuncNested
import Derived.RangeFuncBound
import Derived.RangeFuncCalls
import Derived.RangeFuncLeaves
import Derived.RangeFuncBox
import Derived.Shelf.Abstract
import Derived.OwnWalkIn
import Derived.TacticsInMore
import Derived.LoopNIn
import Derived.LoopIn
import Derived.Test.YthiepdldliiakaaAwake
namespace Go.Proofs.Ythiepdldliiakaa
open Go Go.RowKit Go.Shelf

attribute [local go_sem] Oper.semAt_some

/-- What a pair is handed on as. -/
abbrev encs (x : Int × Int) : Array Value := #[.int .i64 x.1, .int .i64 x.2]

/-- The pointer p is nil and there are no pairs, or it leads to a cache below n₀ that holds xs. -/
def Held (n₀ : Nat) (w : World) (p : Option Addr) (xs : List (Int × Int)) : Prop :=
  (p = none ∧ xs = []) ∨ ∃ g v, p = some ⟨g, 0, none⟩ ∧ IsCache w g v xs ∧ g < n₀ ∧ ∀ k, v.ownBlock = some k → k < n₀

theorem Held.below {n₀ : Nat} {a b : World} {p : Option Addr} {xs : List (Int × Int)} (h : Held n₀ a p xs) (hb : Below n₀ a b) : Held n₀ b p xs := by
  rcases h with h | ⟨g, v, rfl, hc, hg, hv⟩
  · exact .inl h
  · refine .inr ⟨g, v, rfl, ⟨by rw [hb.block g hg]; exact hc.1, hc.2.1, ?_⟩, hg, hv⟩
    rcases hc.2.2 with hn | ⟨r, cap, cur, rfl, h1, h2, rest⟩
    · exact .inl hn
    · exact .inr ⟨r, cap, cur, rfl, h1, by rw [hb.block r (hv r rfl)]; exact h2, rest⟩

theorem all_in (F : Fence) (n : Nat) (h5 : F.fn 18) (hro : F.round = none) (p0 : Option Addr) (w : World) :
    CallsIn F n Try.prog 18 #[.pointer p0] w fun e w' => e = .returned (.func (.func 21) #[] #[.pointer (some ⟨w.heap.size, 0, none⟩)]) ∧ w' = w.alloc (.cells #[.pointer p0] 23) := by
  refine callsIn_of_wp Try.func18 rfl h5 ?_ hro
  simp only [Try.ntmps18, List.size_toArray, List.length_cons, List.length_nil, Nat.reduceAdd, Nat.reduceSub, Array.replicate_succ, Array.replicate_zero, List.push_toArray, List.append_toArray, List.nil_append, List.cons_append]
  gi_wp2
  go_ret
  exact ⟨rfl, rfl⟩

set_option maxRecDepth 100000 in
set_option maxHeartbeats 2000000 in
theorem all1_nil (F : Fence) (n : Nat) (h7 : F.fn 21) (hro : F.round = none) (l Bs : Nat) (J : List (Int × Int) → World → Prop) (W : World) (hBs : W.cell? ⟨Bs, 0, none⟩ = some (.pointer none)) (h0 : J [] W) :
    CallsIn F n Try.prog 21 #[.func (.yield l) #[] #[], .pointer (some ⟨Bs, 0, none⟩)] W fun e W' => (∃ v, e = .returned v) ∧ J [] W' := by
  refine callsIn_of_wp Try.func21 rfl h7 ?_ hro
  simp only [Try.ntmps21, List.size_toArray, List.length_cons, List.length_nil, Nat.reduceAdd, Nat.reduceSub, Array.replicate_succ, Array.replicate_zero, List.push_toArray, List.append_toArray, List.nil_append, List.cons_append]
  gi_wp2
  refine bodyPost_ret (results_none rfl _ _ _) rfl ?_
  exact ⟨⟨_, rfl⟩, h0⟩

set_option maxRecDepth 100000 in
set_option maxHeartbeats 2000000 in
theorem all1_in (F : Fence) (n : Nat) (h7 : F.fn 21) (hro : F.round = none) (hn : 1 ≤ n) (l Bs n₀ g : Nat) (v : Value) (xs : List (Int × Int)) (J Jx : List (Int × Int) → World → Prop)
    (hg : g < n₀) (hv : ∀ k, v.ownBlock = some k → k < n₀) (W : World) (hn₀ : n₀ ≤ W.heap.size) (hJ : AbidesFrom W.heap.size J)
    (hY : ∀ pre x W, J pre W → pre.length < xs.length → YieldAt F (n - 1) Try.prog l (encs x) W fun e W' =>
      (e = .returned (.bool true) ∧ J (pre ++ [x]) W' ∧ Below n₀ W W') ∨ (e = .returned (.bool false) ∧ Jx (pre ++ [x]) W'))
    (hBs : W.cell? ⟨Bs, 0, none⟩ = some (.pointer (some ⟨g, 0, none⟩))) (hc : IsCache W g v xs) (h0 : J [] W) :
    CallsIn F n Try.prog 21 #[.func (.yield l) #[] #[], .pointer (some ⟨Bs, 0, none⟩)] W fun e W' => (∃ v, e = .returned v) ∧
      ((∃ ys, ys = xs ∧ J ys W') ∨ (∃ pre, pre <+: xs ∧ Jx pre W')) := by
  obtain ⟨hg0, hr⟩ := hc
  have hcell := cell_of_one hg0
  rcases row_cases hr with ⟨rfl, hn0⟩ | ⟨A, c, rfl, hnc, hcm, hrl⟩
  · have hxs : xs = [] := List.eq_nil_of_length_eq_zero hn0
    subst hxs
    clear hY
    refine callsIn_of_wp Try.func21 rfl h7 ?_ hro
    simp only [Try.ntmps21, List.size_toArray, List.length_cons, List.length_nil, Nat.reduceAdd, Nat.reduceSub, Array.replicate_succ, Array.replicate_zero, List.push_toArray, List.append_toArray, List.nil_append, List.cons_append]
    gi_wp2
    gi_loopw [12] (fun i wr => i = .int .i64 0 ∧ J [] wr) (fun _ _ => 0)
    case atStart => exact ⟨rfl, h0⟩
    case round =>
      obtain ⟨rfl, hJs⟩ := hrel
      gi_wp2
      go_end0
      exact ⟨⟨_, rfl⟩, .inl ⟨_, rfl, hJs⟩⟩
  · have hA : A < n₀ := hv A rfl
    unfold maxLen at hcm
    refine callsIn_of_wp Try.func21 rfl h7 ?_ hro
    simp only [Try.ntmps21, List.size_toArray, List.length_cons, List.length_nil, Nat.reduceAdd, Nat.reduceSub, Array.replicate_succ, Array.replicate_zero, List.push_toArray, List.append_toArray, List.nil_append, List.cons_append]
    gi_wp2
    gi_loopw [12] (fun i wr => ∃ k : Nat, k ≤ xs.length ∧ i = .int .i64 k ∧ J (xs.take k) wr ∧ Below n₀ W wr) (fun i _ => xs.length - (intOf i).toNat)
    case atStart => exact ⟨0, Nat.zero_le _, rfl, by simpa using h0, Below.refl _ _⟩
    case round =>
      obtain ⟨k, hk, rfl, hJs, hnx⟩ := hrel
      by_cases hlt : k < xs.length
      · have c0 := (hnx.cell (p := ⟨A, k * 2, none⟩) hA).trans (row_cell hr (cellsOf_even xs k hlt))
        have c1 := (hnx.cell (p := ⟨A, k * 2 + 1, none⟩) hA).trans (row_cell hr (cellsOf_odd xs k hlt))
        have ht : xs.take (k + 1) = xs.take k ++ [xs.getD k (0, 0)] := by
          rw [List.take_succ_eq_append_getElem hlt]; simp [List.getD, hlt]
        generalize hx : xs.getD k (0, 0) = x at c0 c1 ht
        clear hx
        have HT := Lib.hid ht
        clear ht
        have hJa : J (xs.take k) (wr.alloc (.cells #[.int .i64 x.1, .int .i64 x.2] 52)) := by
          exact hJ _ _ _ none hJs (World.grownBy_alloc _ _ none) (fun r e => by cases e)
        obtain ⟨fn, tmps, assign, body, hy, hR⟩ := hY _ x _ hJa (by rw [List.length_take]; omega)
        dsimp only [encs] at hy
        clear hY
        gi_wp2
        refine hR.mono ?_
        rintro e W3 (⟨rfl, hJ3, hk3⟩ | ⟨rfl, hJx3⟩)
        · gi_wp2
          go_roundw
          case rel => exact ⟨k + 1, by omega, by go_num, by rw [HT.out]; exact hJ3, (hnx.alloc (by have := hnx.size; omega) _).trans hk3⟩
          case measure => simp [intOf]; omega
        · gi_wp2
          refine bodyPost_ret (results_none rfl _ _ _) rfl ?_
          exact ⟨⟨_, rfl⟩, .inr ⟨_, by rw [← HT.out]; exact List.take_prefix _ _, hJx3⟩⟩
      · obtain rfl : k = xs.length := by omega
        clear hY
        gi_wp2
        go_end0
        exact ⟨⟨_, rfl⟩, .inl ⟨_, rfl, by rw [List.take_length] at hJs; exact hJs⟩⟩

/-- All's value yields the pairs that the cache holds, in order: all of them, or a first part. -/
theorem all_stops (F : Fence) (n : Nat) (h7 : F.fn 21) (hro : F.round = none) (hn : 1 ≤ n) (Bn n₀ : Nat) (p0 : Option Addr) (xs : List (Int × Int)) (w : World) (hBn : Bn < w.heap.size) (hn₀ : n₀ ≤ w.heap.size)
    (hc : w.cell? ⟨Bn, 0, none⟩ = some (.pointer p0)) (hI : Held n₀ w p0 xs) :
    SeqStopsK F n Try.prog 21 #[.pointer (some ⟨Bn, 0, none⟩)] encs (Below n₀) (fun ys => ys = xs) (fun pre => pre <+: xs) xs.length w := fun l J Jx W hW hJ _ hY h0 => by
  have hc' := (hW.cell (p := ⟨Bn, 0, none⟩) hBn).trans hc
  rcases hI.below (hW.mono hn₀) with ⟨rfl, rfl⟩ | ⟨g, v, rfl, hcs, hg, hv⟩
  · exact (all1_nil F n h7 hro l Bn J W hc' h0).mono fun e W' ⟨he, hj⟩ => ⟨he, .inl ⟨_, rfl, hj⟩⟩
  · exact all1_in F n h7 hro hn l Bn n₀ g v xs J Jx hg hv W (by have := hW.size; omega) hJ hY hc' hcs h0

end Go.Proofs.Ythiepdldliiakaa

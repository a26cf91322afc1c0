/- Net.at, Count and the pair of two ends: what they compute. No conditions. -/
import Derived.Test.YtalaghkpbdaonaaNetC
namespace Go.Proofs.Ytalaghkpbdaonaa
open Go Go.RowKit H Go.Proofs.YtalaghkpbdaonaaW.PrintWords

/-- The place that a number names. -/
def atF (n : Nat) (i : Int) : Int := if n = 0 then -1 else i % n

theorem at_math (i : Int) (n : Nat) (h0 : 0 < n) (hn : n ≤ 1000000) : Int.tmod (wrap64 (Int.tmod i n + n)) n = i % n := by
  have h1 : -(n : Int) < Int.tmod i n ∧ Int.tmod i n < n := by
    constructor
    · have := Int.lt_tmod_of_pos i (show (0 : Int) < n by omega); omega
    · exact Int.tmod_lt_of_pos i (by omega)
  have h2 : wrap64 (Int.tmod i n + n) = Int.tmod i n + n := by unfold wrap64; omega
  rw [h2, Int.tmod_eq_emod_of_nonneg (by omega), Int.add_emod_right]
  rcases Int.le_total 0 i with h | h
  · rw [Int.tmod_eq_emod_of_nonneg h, Int.emod_emod]
  · rw [Int.tmod_eq_emod]
    split
    · simp
    · have : (n : Int).natAbs = n := by omega
      rw [show (((n : Int).natAbs : Nat) : Int) = n by omega, Int.sub_emod_right, Int.emod_emod]

theorem atF_mem {n : Nat} {i : Int} (h : 0 < n) : 0 ≤ atF n i ∧ atF n i < n := by
  unfold atF
  rw [if_neg (by omega)]
  exact ⟨Int.emod_nonneg _ (by omega), Int.emod_lt_of_pos _ (by omega)⟩

set_option maxRecDepth 100000 in
set_option maxHeartbeats 4000000 in
theorem at_nil (i : Int) (w : World) : Calls Try.prog 27 #[.pointer none, .int .i64 i] w fun e w' => e = .returned (.int .i64 (-1)) ∧ w' = w := by
  go_enter Try.func27, Try.ntmps27
  go_wp2
  go_ret
  exact ⟨rfl, rfl⟩

set_option maxRecDepth 100000 in
set_option maxHeartbeats 4000000 in
theorem at_calls {w : World} {base N M : Nat} {v : Value} {ps : List S28} {D : DataW Unit} {m : Nat} (h : NetIn w base N M v ps D m) (hp : ps.length ≤ 256) (i : Int) :
    Calls Try.prog 27 #[.pointer (some ⟨N, 0, none⟩), .int .i64 i] w fun e w' => e = .returned (.int .i64 (atF ps.length i)) ∧ w' = w := by
  obtain ⟨A1, c1, hv, hc1, hC1⟩ := h.reads
  have hcell := h.cell
  rw [hv] at hcell
  have q := blk_cell hcell
  clear hC1 h hv
  rcases Nat.eq_zero_or_pos ps.length with h0 | h0
  · rw [h0] at q ⊢
    clear hp hc1
    go_enter Try.func27, Try.ntmps27
    go_wp2
    go_ret
    exact ⟨rfl, rfl⟩
  · have hm := at_math i ps.length h0 (by omega)
    have e : atF ps.length i = Int.tmod (wrap64 (Int.tmod i ps.length + ps.length)) ps.length := by rw [hm]; unfold atF; rw [if_neg (by omega)]
    rw [e]
    clear hm e
    have hz : ¬ (ps.length : Int) = 0 := by omega
    go_enter Try.func27, Try.ntmps27
    go_wp2
    go_ret
    exact ⟨rfl, rfl⟩

set_option maxRecDepth 100000 in
theorem count_nil (w : World) : Calls Try.prog 16 #[.pointer none] w fun e w' => e = .returned (.int .i64 0) ∧ w' = w := by
  go_enter Try.func16, Try.ntmps16
  go_wp2
  go_ret
  exact ⟨rfl, rfl⟩

set_option maxRecDepth 100000 in
theorem count_calls {w : World} {base N M : Nat} {v : Value} {ps : List S28} {D : DataW Unit} {m : Nat} (h : NetIn w base N M v ps D m) : Calls Try.prog 16 #[.pointer (some ⟨N, 0, none⟩)] w fun e w' => e = .returned (.int .i64 ps.length) ∧ w' = w := by
  obtain ⟨A1, c1, hv, hc1, hC1⟩ := h.reads
  have hcell := h.cell
  rw [hv] at hcell
  have q := blk_cell hcell
  clear hC1 h hv
  go_enter Try.func16, Try.ntmps16
  go_wp2
  go_ret
  exact ⟨rfl, rfl⟩

set_option maxRecDepth 100000 in
theorem pair_calls (x y : Int) (w : World) : Calls Try.prog 29 #[.int .i64 x, .int .i64 y] w fun e w' => e = .returned (.agg #[.int .i64 (min x y), .int .i64 (max x y)]) ∧ Below w.heap.size w w' := by
  go_enter Try.func29, Try.ntmps29
  go_wp2
  all_goals
    refine bodyPost_ret (results_cell_row rfl _ _ w.heap.size 37 _ (0, 0) _ rfl (heap_alloc_new w _) Try.underlying37 rfl (by kernel_rfl)) rfl ?_
    exact ⟨by simp; omega, (Below.refl _ _).alloc (Nat.le_refl _) _⟩
end Go.Proofs.Ytalaghkpbdaonaa

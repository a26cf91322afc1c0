/- The program's Cache: New, Cut, Last, End by contract. No conditions. -/
import Derived.Test.YthiepdldliiakaaBase
import Derived.Outline
import Derived.IntWalk
import Derived.RegionTactic
import Derived.BigQuiet
import Derived.Deep.QuietTactic
namespace Go.Proofs.Ythiepdldliiakaa
open Go.RowKit

/-- How many of the first k pairs stay, if those at the end go that begin at an offset or behind it. -/
def cutTo (xs : List (Int × Int)) (at_ : Int) : Nat → Nat
  | 0 => 0
  | k + 1 => if at_ ≤ (xs.getD k (0, 0)).2 then cutTo xs at_ k else k + 1

theorem cutTo_le (xs : List (Int × Int)) (at_ : Int) (k : Nat) : cutTo xs at_ k ≤ k := by
  induction k with
  | zero => simp [cutTo]
  | succ k ih => unfold cutTo; split <;> omega

set_option maxHeartbeats 400000 in
theorem new_calls (w : World) : Calls Try.prog 9 #[] w fun e w' => e = .returned (.pointer (some ⟨w.heap.size, 0, none⟩)) ∧ w' = w.alloc (.cells #[.slice none 0 0] 50) := by
  go_enter Try.func9, Try.ntmps9
  go_wp2
  go_ret
  exact ⟨rfl, rfl⟩

set_option maxHeartbeats 400000 in
theorem cut_nil (at_ : Int) (w : World) : Calls Try.prog 13 #[.pointer none, .int .i64 at_] w fun e w' => e = .returned (.tuple #[]) ∧ w' = w := by
  go_enter Try.func13, Try.ntmps13
  go_wp2
  refine bodyPost_ret (results_none rfl _ _ _) rfl ?_
  exact ⟨rfl, rfl⟩

/-- What Cut leaves of a cache's slice value. -/
def cutV (v : Value) (k : Nat) : Value :=
  match v with
  | .slice A _ c => .slice A k c
  | x => x

set_option maxHeartbeats 400000 in
theorem cut_some (g : Nat) (v : Value) (xs : List (Int × Int)) (at_ : Int) (w : World) (h : IsCache w g v xs) :
   Calls Try.prog 13 #[.pointer (some ⟨g, 0, none⟩), .int .i64 at_] w fun e w' => e = .returned (.tuple #[]) ∧ w' = w.setCell ⟨g, 0, none⟩ (cutV v (cutTo xs at_ xs.length)) := by
  obtain ⟨hg, hr⟩ := h
  have hc := cell_of_one hg
  have hf := free_of_one hg
  rcases row_cases hr with ⟨rfl, hn⟩ | ⟨r, c, rfl, hnc, hcm, hrl⟩
  · have hk : cutTo xs at_ xs.length = 0 := by rw [hn]; rfl
    have HK := Lib.hid hk
    have HN := Lib.hid hn
    clear hk hn
    go_enter Try.func13, Try.ntmps13
    go_wp2
    go_loop [4] (fun k => k = .int .i64 0) (fun _ => 0)
    case atStart => rfl
    case round =>
      subst hrel
      go_wp2
      go_end0
      exact ⟨rfl, by rw [HK.out]; rfl⟩
  · unfold maxLen at hcm
    go_enter Try.func13, Try.ntmps13
    go_wp2
    go_loop [4] (fun s => ∃ k : Nat, k ≤ xs.length ∧ s = .int .i64 k ∧ cutTo xs at_ k = cutTo xs at_ xs.length) (fun s => (intOf s).toNat)
    case atStart => exact ⟨xs.length, Nat.le_refl _, rfl, rfl⟩
    case round =>
      obtain ⟨k, hk, rfl, hck⟩ := hrel
      have HCK := Lib.hid hck
      clear hck
      by_cases h0 : k = 0
      · subst h0
        go_wp2
        go_end0
        exact ⟨rfl, by rw [← HCK.out]; rfl⟩
      · obtain ⟨j, rfl⟩ : ∃ j, k = j + 1 := ⟨k - 1, by omega⟩
        have hcell := row_cell hr (cellsOf_odd xs j (by omega))
        generalize hx : (xs.getD j (0, 0)).2 = x at hcell
        have HX := Lib.hid hx
        clear hx
        by_cases hle : at_ ≤ x
        · go_wp2
          go_round
          case rel => exact ⟨j, by omega, by go_num, by rw [← HCK.out]; conv => { rhs; unfold cutTo }; rw [if_pos (by rw [HX.out]; exact hle)]⟩
          case measure => simp [intOf]
        · go_wp2
          go_end0
          refine ⟨rfl, ?_⟩
          rw [← HCK.out, cutTo, if_neg (by rw [HX.out]; omega)]
          rfl

theorem last_nil (w : World) : Calls Try.prog 19 #[.pointer none] w fun e w' => e = .returned (.tuple #[.int .i64 0, .int .i64 0, .bool false]) ∧ w' = w := by
  go_enter Try.func19, Try.ntmps19
  go_wp2
  go_ret3
  exact ⟨rfl, rfl⟩

theorem last_none (g : Nat) (v : Value) (w : World) (h : IsCache w g v []) : Calls Try.prog 19 #[.pointer (some ⟨g, 0, none⟩)] w fun e w' => e = .returned (.tuple #[.int .i64 0, .int .i64 0, .bool false]) ∧ w' = w := by
  obtain ⟨hg, hr⟩ := h
  have hc := cell_of_one hg
  have hf := free_of_one hg
  rcases row_cases hr with ⟨rfl, hn⟩ | ⟨r, c, rfl, hnc, hcm, hrl⟩
  all_goals
    simp only [List.length_nil] at *
    go_enter Try.func19, Try.ntmps19
    go_wp2
    go_ret3
    exact ⟨rfl, rfl⟩

set_option maxHeartbeats 800000 in
theorem last_some (g : Nat) (v : Value) (xs : List (Int × Int)) (e a : Int) (w : World) (h : IsCache w g v (xs ++ [(e, a)])) :
    Calls Try.prog 19 #[.pointer (some ⟨g, 0, none⟩)] w fun en w' => en = .returned (.tuple #[.int .i64 e, .int .i64 a, .bool true]) ∧ Fr (fun _ => False) w w' := by
  obtain ⟨hg, hr⟩ := h
  have hc := cell_of_one hg
  have hf := free_of_one hg
  rcases row_cases hr with ⟨rfl, hn⟩ | ⟨r, c, rfl, hnc, hcm, hrl⟩
  · simp at hn
  · have c0 := row_cell hr (cellsOf_even (xs ++ [(e, a)]) xs.length (by simp))
    have c1 := row_cell hr (cellsOf_odd (xs ++ [(e, a)]) xs.length (by simp))
    have hd : (xs ++ [(e, a)]).getD xs.length (0, 0) = (e, a) := by simp [List.getD]
    rw [hd] at c0 c1
    clear hd
    unfold maxLen at hcm
    simp only [List.length_append, List.length_cons, List.length_nil, Nat.zero_add] at *
    have hgl := lt_of_block hg
    have hca : ∀ o, (w.alloc o).cell? ⟨g, 0, none⟩ = some (.slice (some ⟨r, 0, none⟩) (xs.length + 1) c) := fun o => (World.cell?_alloc_lt w o ⟨g, 0, none⟩ hgl).trans hc
    have ha0 : ∀ o, (w.alloc o).cell? ⟨r, xs.length * 2, none⟩ = some (.int .i64 e) := fun o => (World.cell?_alloc_lt w o ⟨r, _, none⟩ hrl).trans c0
    have ha1 : ∀ o, (w.alloc o).cell? ⟨r, xs.length * 2 + 1, none⟩ = some (.int .i64 a) := fun o => (World.cell?_alloc_lt w o ⟨r, _, none⟩ hrl).trans c1
    have hw : IntKind.i64.wrap (xs.length : Int) = xs.length := IntWalk.i64_in _ (by omega)
    go_enter Try.func19, Try.ntmps19
    go_wp2
    go_region
    all_goals go_wp2
    all_goals go_quiet (fail)
    all_goals go_wp2
    all_goals go_ret3
    all_goals exact ⟨rfl, by repeat (first | exact Fr.refl _ _ | apply Fr.drewN | apply Fr.drew | apply Fr.alloc)⟩

/-- The greatest of the first k pairs that does not begin above an epoch, and where it ends. -/
def endTo (xs : List (Int × Int)) (epoch : Int) : Int → Nat → Int × Int × Bool
  | _, 0 => (0, 0, false)
  | e, k + 1 => if epoch < (xs.getD k (0, 0)).1 then endTo xs epoch (xs.getD k (0, 0)).2 k else ((xs.getD k (0, 0)).1, e, true)

theorem end_nil (epoch e : Int) (w : World) : Calls Try.prog 15 #[.pointer none, .int .i64 epoch, .int .i64 e] w fun en w' => en = .returned (.tuple #[.int .i64 0, .int .i64 0, .bool false]) ∧ w' = w := by
  go_enter Try.func15, Try.ntmps15
  go_wp2
  go_ret3
  exact ⟨rfl, rfl⟩

set_option maxHeartbeats 800000 in
theorem end_some (g : Nat) (v : Value) (xs : List (Int × Int)) (epoch e : Int) (w : World) (h : IsCache w g v xs) (r : Int × Int × Bool) (hres : endTo xs epoch e xs.length = r) :
    Calls Try.prog 15 #[.pointer (some ⟨g, 0, none⟩), .int .i64 epoch, .int .i64 e] w fun en w' => en = .returned (.tuple #[.int .i64 r.1, .int .i64 r.2.1, .bool r.2.2]) ∧ w' = w := by
  obtain ⟨hg, hr⟩ := h
  have hc := cell_of_one hg
  have hf := free_of_one hg
  have HR := Lib.hid hres
  clear hres
  rcases row_cases hr with ⟨rfl, hn⟩ | ⟨A, c, rfl, hnc, hcm, hrl⟩
  · have HN := Lib.hid hn
    clear hn
    go_enter Try.func15, Try.ntmps15
    go_wp2
    go_loop [2, 9] (fun e' i => e' = .int .i64 e ∧ i = .int .i64 (-1)) (fun _ _ => 0)
    case atStart => exact ⟨rfl, rfl⟩
    case round =>
      obtain ⟨rfl, rfl⟩ := hrel
      go_wp2
      go_ret3
      exact ⟨by rw [← HR.out, HN.out]; rfl, rfl⟩
  · unfold maxLen at hcm
    go_enter Try.func15, Try.ntmps15
    go_wp2
    go_loop [2, 9] (fun e' i => ∃ (k : Nat) (f : Int), k ≤ xs.length ∧ e' = .int .i64 f ∧ i = .int .i64 ((k : Int) - 1) ∧ endTo xs epoch f k = endTo xs epoch e xs.length) (fun _ i => (intOf i + 1).toNat)
    case atStart => exact ⟨xs.length, e, Nat.le_refl _, rfl, rfl, rfl⟩
    case round =>
      obtain ⟨k, f, hk, rfl, rfl, hck⟩ := hrel
      have HCK := Lib.hid hck
      clear hck
      by_cases h0 : k = 0
      · subst h0
        go_wp2
        go_ret3
        exact ⟨by rw [← HR.out, ← HCK.out]; rfl, rfl⟩
      · obtain ⟨j, rfl⟩ : ∃ j, k = j + 1 := ⟨k - 1, by omega⟩
        have c0 := row_cell hr (cellsOf_even xs j (by omega))
        have c1 := row_cell hr (cellsOf_odd xs j (by omega))
        generalize hx : (xs.getD j (0, 0)).1 = x at c0
        generalize hy : (xs.getD j (0, 0)).2 = y at c1
        have HX := Lib.hid hx
        have HY := Lib.hid hy
        clear hx hy
        by_cases hle : epoch < x
        · go_wp2
          go_round
          case rel => exact ⟨j, y, by omega, rfl, by go_num, by rw [← HCK.out]; conv => { rhs; unfold endTo }; rw [if_pos (by rw [HX.out]; omega), HY.out]⟩
          case measure => simp [intOf]
        · go_wp2
          go_ret3
          refine ⟨?_, rfl⟩
          rw [← HR.out, ← HCK.out, endTo, if_neg (by rw [HX.out]; omega), HX.out]
          rfl
end Go.Proofs.Ythiepdldliiakaa

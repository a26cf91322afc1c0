/- The reference's Cache by contract: Last, End, Assign; it tells what the program's tells. No conditions. -/
import Derived.Test.YthiepdldliiakaaRef
namespace Go.Proofs.Ythiepdldliiakaa
open Go Go.RowKit

set_option maxHeartbeats 1000000 in
theorem rlast_calls (g : Nat) (va vb : Value) (xs : List (Int × Int)) (w : World) (h : IsRef w g va vb xs) :
    Calls Try.prog 20 #[.pointer (some ⟨g, 0, none⟩)] w fun en w' => en = .returned (.tuple #[.int .i64 (lastOf xs).1, .int .i64 (lastOf xs).2.1, .bool (lastOf xs).2.2]) ∧ Fr (fun _ => False) w w' := by
  have f0 := cell_of_two0 h.blk
  have f1 := cell_of_two1 h.blk
  obtain ⟨Aa, ca, rfl, hca, hcma⟩ := row_form h.ra
  obtain ⟨Ab, cb, rfl, hcb, hcmb⟩ := row_form h.rb
  rcases Nat.eq_zero_or_pos xs.length with h0 | hpos
  · obtain rfl : xs = [] := List.eq_nil_of_length_eq_zero h0
    simp only [List.length_nil] at *
    go_enter Try.func20, Try.ntmps20
    go_wp2
    go_ret3
    exact ⟨rfl, Fr.refl _ _⟩
  · obtain ⟨ra, ca', e2, _, _, _, x0⟩ := row_at h.ra (k := xs.length - 1) (by omega) (fsts_get xs _ (by omega))
    obtain ⟨rb, cb', e3, _, _, _, x1⟩ := row_at h.rb (k := xs.length - 1) (by omega) (snds_get xs _ (by omega))
    injection e2 with e2 _ _
    injection e3 with e3 _ _
    subst e2 e3
    have hl := lastOf_some (xs := xs) (by rintro rfl; simp at hpos)
    generalize xs.getD (xs.length - 1) (0, 0) = x at x0 x1 hl
    have HL := Lib.hid hl
    clear hl h
    obtain ⟨n, hn⟩ : ∃ n, xs.length = n + 1 := ⟨xs.length - 1, by omega⟩
    rw [hn] at f0 f1 x0 x1 hca hcb
    simp only [Nat.add_sub_cancel] at x0 x1
    clear hpos hn
    have q0 : IntKind.i64.wrap ((n : Int) + 1 - 1) = (n : Int) := by rw [show (n : Int) + 1 - 1 = n by omega]; exact IntWalk.i64_in _ (by omega)
    have q1 : IntKind.i64.wrap (n : Int) = (n : Int) := IntWalk.i64_in _ (by omega)
    go_enter Try.func20, Try.ntmps20
    go_wp2
    go_quiet (fail)
    go_wp2
    go_ret3
    exact ⟨by rw [HL.out]; rfl, Fr.drewN (Fr.refl _ _) _⟩

/-- The last of the first k epochs that is not above one; -1: there is none. -/
def bestTo (xs : List (Int × Int)) (E : Int) : Nat → Int
  | 0 => -1
  | k + 1 => if (xs.getD k (0, 0)).1 ≤ E then k else bestTo xs E k

theorem bestTo_tells (xs : List (Int × Int)) (E : Int) (k : Nat) : -1 ≤ bestTo xs E k ∧ bestTo xs E k < k ∧ (0 ≤ bestTo xs E k → (xs.getD (bestTo xs E k).toNat (0, 0)).1 ≤ E) ∧ ∀ i : Nat, bestTo xs E k < i → i < k → E < (xs.getD i (0, 0)).1 := by
  induction k with
  | zero => exact ⟨Int.le_refl _, by simp [bestTo], fun h => by simp [bestTo] at h, fun i _ h => by omega⟩
  | succ k ih =>
    obtain ⟨h1, h2, h3, h4⟩ := ih
    unfold bestTo
    split
    · rename_i hle
      exact ⟨by omega, by omega, fun _ => by simpa using hle, fun i hi hk => by omega⟩
    · rename_i hgt
      refine ⟨h1, by omega, h3, fun i hi hk => ?_⟩
      rcases Nat.lt_or_ge i k with h5 | h5
      · exact h4 i hi h5
      · rw [show i = k by omega]; omega

/-- What the reference's End answers. -/
def rendOf (xs : List (Int × Int)) (E e : Int) : Int × Int × Bool :=
  if bestTo xs E xs.length < 0 then (0, 0, false)
  else ((xs.getD (bestTo xs E xs.length).toNat (0, 0)).1, (if (bestTo xs E xs.length).toNat + 1 < xs.length then (xs.getD ((bestTo xs E xs.length).toNat + 1) (0, 0)).2 else e), true)

theorem rendOf_eq {xs : List (Int × Int)} (h : Rise xs) (E e : Int) : rendOf xs E e = endTo xs E e xs.length := by
  obtain ⟨h1, h2, h3, h4⟩ := bestTo_tells xs E xs.length
  unfold rendOf
  generalize bestTo xs E xs.length = b at *
  split
  · rw [endTo_none h E e (fun hp => h4 0 (by omega) hp)]
  · rename_i hb
    rw [endTo_at h E e b.toNat (by omega) (h3 (by omega)) (fun hl => h4 _ (by omega) hl)]

set_option maxHeartbeats 1000000 in
theorem rend_calls (g : Nat) (va vb : Value) (xs : List (Int × Int)) (E e : Int) (w : World) (h : IsRef w g va vb xs) (r : Int × Int × Bool) (hres : rendOf xs E e = r) :
    Calls Try.prog 16 #[.pointer (some ⟨g, 0, none⟩), .int .i64 E, .int .i64 e] w fun en w' => en = .returned (.tuple #[.int .i64 r.1, .int .i64 r.2.1, .bool r.2.2]) ∧ w' = w := by
  have f0 := cell_of_two0 h.blk
  have f1 := cell_of_two1 h.blk
  obtain ⟨Aa, ca, rfl, hca, hcma⟩ := row_form h.ra
  obtain ⟨Ab, cb, rfl, hcb, hcmb⟩ := row_form h.rb
  have H := Lib.hid h
  have HR := Lib.hid hres
  clear h hres
  go_enter Try.func16, Try.ntmps16
  go_wp2
  go_loop [9, 10] (fun b i => ∃ k : Nat, k ≤ xs.length ∧ i = .int .i64 k ∧ b = .int .i64 (bestTo xs E k)) (fun _ i => xs.length - (intOf i).toNat)
  case atStart => exact ⟨0, Nat.zero_le _, rfl, rfl⟩
  case round =>
    obtain ⟨k, hk, rfl, rfl⟩ := hrel
    by_cases hlt : k < xs.length
    · obtain ⟨ra, ca', e2, _, _, _, x0⟩ := row_at H.out.ra hlt (fsts_get xs k hlt)
      injection e2 with e2 _ _
      subst e2
      have hbt : bestTo xs E (k + 1) = if (xs.getD k (0, 0)).1 ≤ E then (k : Int) else bestTo xs E k := rfl
      generalize (xs.getD k (0, 0)).1 = x at x0 hbt
      have HB := Lib.hid hbt
      clear hbt
      by_cases hx : x ≤ E
      · go_wp2
        go_round
        case rel => exact ⟨k + 1, by omega, by go_num, by rw [HB.out, if_pos hx]⟩
        case measure => simp [intOf]; omega
      · go_wp2
        go_round
        case rel => exact ⟨k + 1, by omega, by go_num, by rw [HB.out, if_neg (by omega)]⟩
        case measure => simp [intOf]; omega
    · obtain rfl : k = xs.length := by omega
      have hr := HR.out
      unfold rendOf at hr
      obtain ⟨t1, t2, _, _⟩ := bestTo_tells xs E xs.length
      generalize bestTo xs E xs.length = b at *
      by_cases hb : b < 0
      · rw [if_pos hb] at hr
        have HR2 := Lib.hid hr
        clear hr
        go_wp2
        go_ret3
        exact ⟨by rw [← HR2.out]; rfl, rfl⟩
      · rw [if_neg hb] at hr
        obtain ⟨j, rfl⟩ : ∃ j : Nat, b = j := ⟨b.toNat, by omega⟩
        simp only [Int.toNat_natCast] at hr
        obtain ⟨ra, ca', e2, _, _, _, x0⟩ := row_at H.out.ra (k := j) (by omega) (fsts_get xs j (by omega))
        injection e2 with e2 _ _
        subst e2
        by_cases hj : j + 1 < xs.length
        · obtain ⟨rb, cb', e3, _, _, _, x1⟩ := row_at H.out.rb hj (snds_get xs _ hj)
          injection e3 with e3 _ _
          subst e3
          rw [if_pos hj] at hr
          generalize (xs.getD j (0, 0)).1 = x at x0 hr
          generalize (xs.getD (j + 1) (0, 0)).2 = y at x1 hr
          have HR2 := Lib.hid hr
          clear hr
          go_wp2
          go_ret3
          exact ⟨by rw [← HR2.out]; rfl, rfl⟩
        · rw [if_neg hj] at hr
          generalize (xs.getD j (0, 0)).1 = x at x0 hr
          have HR2 := Lib.hid hr
          clear hr
          go_wp2
          go_ret3
          exact ⟨by rw [← HR2.out]; rfl, rfl⟩
end Go.Proofs.Ythiepdldliiakaa

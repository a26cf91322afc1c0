/- The reference's Assign by contract; where all rises it is the program's. No conditions. -/
import Derived.Test.YthiepdldliiakaaRef2
namespace Go.Proofs.Ythiepdldliiakaa
open Go Go.RowKit

/-- What the reference's Assign answers, and what its cache holds behind it. -/
def rassign (xs : List (Int × Int)) (e a : Int) : Int × List (Int × Int) :=
  if e < 0 ∨ a < 0 then (1, xs)
  else if (lastOf xs).2.2 = true ∧ e < (lastOf xs).1 then (5, xs)
  else if (lastOf xs).2.2 = true ∧ (lastOf xs).1 = e then (0, xs)
  else (0, keep xs a ++ [(e, a)])

theorem keep_take {xs : List (Int × Int)} (h : Rise xs) (a : Int) (k : Nat) (hk : k ≤ xs.length) : keep (xs.take k) a = xs.take (cutTo xs a k) := by
  induction k with
  | zero => rfl
  | succ k ih =>
    have hlt : k < xs.length := by omega
    have ht : xs.take (k + 1) = xs.take k ++ [xs.getD k (0, 0)] := by rw [List.take_succ_eq_append_getElem hlt]; simp [List.getD, hlt]
    have ih := ih (by omega)
    have hsplit : keep (xs.take (k + 1)) a = keep (xs.take k) a ++ (if (xs.getD k (0, 0)).2 < a then [xs.getD k (0, 0)] else []) := by
      rw [ht, keep, List.filter_append]
      by_cases hx : (xs.getD k (0, 0)).2 < a <;> simp [keep, List.filter_cons, hx]
    rw [hsplit, cutTo]
    by_cases hx : (xs.getD k (0, 0)).2 < a
    · rw [if_pos hx, if_neg (by omega), ht]
      congr 1
      rw [keep, List.filter_eq_self]
      intro y hy
      obtain ⟨i, hi, rfl⟩ := List.getElem_of_mem hy
      rw [List.length_take] at hi
      have h1 := (pair_lt h (i := i) (j := k) (by omega) hlt).2
      have h2 : (xs.take k)[i] = xs.getD i (0, 0) := by simp [List.getD, show i < xs.length by omega]
      rw [h2]
      simp only [decide_eq_true_eq]
      omega
    · rw [if_neg hx, if_pos (by omega), List.append_nil, ih]

theorem keep_eq {xs : List (Int × Int)} (h : Rise xs) (a : Int) : keep xs a = cut xs a := by
  have := keep_take h a xs.length (Nat.le_refl _)
  rwa [List.take_length] at this

theorem rassign_eq {xs : List (Int × Int)} (h : Rise xs) (e a : Int) : rassign xs e a = assign xs e a := by
  unfold rassign assign
  rw [keep_eq h]
  split
  · rfl
  · by_cases hl : (lastOf xs).2.2 = true
    · simp only [hl, true_and]
      by_cases h1 : e < (lastOf xs).1
      · rw [if_pos h1, if_pos (by omega), if_neg (by omega)]
      · by_cases h2 : (lastOf xs).1 = e
        · rw [if_neg h1, if_pos h2, if_pos (by omega), if_pos h2.symm]
        · rw [if_neg h1, if_neg h2, if_neg (by omega)]
    · simp [hl]

/-- Behind the first push and its store. -/
structure Mid (w1 w3 : World) (g r1 c1 : Nat) (va vb : Value) (ys : List (Int × Int)) (u : Value) : Prop where
  blk : w3.heap[g]? = some (.cells #[.slice (some ⟨r1, 0, none⟩) (ys.length + 1) c1, vb] 28 (0, 0))
  ra : w3.ownsRow 0 3 1 (.slice (some ⟨r1, 0, none⟩) (ys.length + 1) c1) (ys.length + 1) (fsts ys ++ [u])
  rb : w3.ownsRow 0 3 1 vb ys.length (snds ys)
  ne : vb.ownBlock ≠ some r1
  fr : Fr (fun k => k = g ∨ va.ownBlock = some k ∨ vb.ownBlock = some k) w1 w3
  own : va.ownBlock = some r1 ∨ w1.heap.size ≤ r1

theorem push_blk {w1 w2 : World} {g : Nat} {va vb v : Value} {t : TypeId} {base n e : Nat} {xs : List Value} {o : Obj} (hb : w1.heap[g]? = some (.cells #[va, vb] t (0, 0))) (hr : w1.ownsRow base e 1 v n xs) (hte : e ≠ t) (hg : (w1.alloc o).grownBy w2 v.ownBlock) :
    w2.heap[g]? = some (.cells #[va, vb] t (0, 0)) := by
  have hl := lt_of_block hb
  rw [hg.block g (by simp; omega) (fun e' => row_not_type hr hb hte e'.symm), Below.heap_alloc _ _ _ hl]
  exact hb

theorem mid_of {w1 w2 : World} {g r1 c1 : Nat} {va vb : Value} {ys : List (Int × Int)} {u : Value} {o : Obj} (h : IsRef w1 g va vb ys)
    (ho : w2.ownsRow 0 3 1 (.slice (some ⟨r1, 0, none⟩) (ys.length + 1) c1) (ys.length + 1) (fsts ys ++ [u])) (hg : (w1.alloc o).grownBy w2 va.ownBlock) (hat : va.ownBlock = some r1 ∨ r1 = (w1.alloc o).heap.size) :
    Mid w1 (w2.setCell ⟨g, 0, none⟩ (.slice (some ⟨r1, 0, none⟩) (ys.length + 1) c1)) g r1 c1 va vb ys u := by
  have hb := push_blk h.blk h.ra (by decide) hg
  have hne : vb.ownBlock ≠ some r1 := by
    rcases hat with h1 | h1
    · exact h.ne r1 h1
    · intro e
      have := (h.rb.lt r1 e).2
      simp at h1
      omega
  refine ⟨two_set0 hb, ownsRow_setCell_other ho (row_not_type ho hb (by decide)) _, ?_, hne, ?_, ?_⟩
  · have := row_grown h.rb hg h.ne
    exact ownsRow_setCell_other this (row_not_type this hb (by decide)) _
  · exact Fr.setCell ((Fr.alloc (Fr.refl _ _) o).grown hg (fun k hk _ => .inr (.inl hk))) (fun _ => .inl rfl) _
  · rcases hat with h1 | h1
    · exact .inl h1
    · right; rw [h1]; simp

theorem mid_end {w1 w3 w4 : World} {g r1 c1 r2 c2 : Nat} {va vb : Value} {ys : List (Int × Int)} {x : Int × Int} {o : Obj} (h : IsRef w1 g va vb ys) (m : Mid w1 w3 g r1 c1 va vb ys (.int .i64 x.1))
    (ho : w4.ownsRow 0 3 1 (.slice (some ⟨r2, 0, none⟩) (ys.length + 1) c2) (ys.length + 1) (snds ys ++ [.int .i64 x.2])) (hg : (w3.alloc o).grownBy w4 vb.ownBlock) (hat : vb.ownBlock = some r2 ∨ r2 = (w3.alloc o).heap.size) :
    w4.heap[g]? = some (.cells #[.slice (some ⟨r1, 0, none⟩) (ys.length + 1) c1, vb] 28 (0, 0)) ∧
    IsRef (w4.setCell ⟨g, 1, none⟩ (.slice (some ⟨r2, 0, none⟩) (ys.length + 1) c2)) g (.slice (some ⟨r1, 0, none⟩) (ys.length + 1) c1) (.slice (some ⟨r2, 0, none⟩) (ys.length + 1) c2) (ys ++ [x]) ∧
    Moved2 g va vb (.slice (some ⟨r1, 0, none⟩) (ys.length + 1) c1) (.slice (some ⟨r2, 0, none⟩) (ys.length + 1) c2) w1 (w4.setCell ⟨g, 1, none⟩ (.slice (some ⟨r2, 0, none⟩) (ys.length + 1) c2)) := by
  have hb := push_blk m.blk m.rb (by decide) hg
  have ra' := row_grown m.ra hg (fun j hj e => by
    simp [Value.ownBlock] at e
    subst e
    exact m.ne hj)
  have hne : r1 ≠ r2 := by
    rintro rfl
    rcases hat with h1 | h1
    · exact m.ne h1
    · have := (m.ra.lt r1 rfl).2
      simp at h1
      omega
  refine ⟨hb, ⟨two_set1 hb, ?_, ?_, ?_⟩, ⟨?_, ?_⟩⟩
  · have := ownsRow_setCell_other ra' (row_not_type ra' hb (by decide)) (a := ⟨g, 1, none⟩) (.slice (some ⟨r2, 0, none⟩) (ys.length + 1) c2)
    simpa [fsts] using this
  · have := ownsRow_setCell_other ho (row_not_type ho hb (by decide)) (a := ⟨g, 1, none⟩) (.slice (some ⟨r2, 0, none⟩) (ys.length + 1) c2)
    simpa [snds] using this
  · intro j h1 h2
    simp [Value.ownBlock] at h1 h2
    omega
  · refine Fr.setCell (m.fr.trans' (T := fun k => vb.ownBlock = some k) ((Fr.alloc (Fr.refl _ _) o).grown hg (fun k hk _ => hk)) (fun i _ e => .inr (.inr e))) (fun _ => .inl rfl) _
  · intro k hk
    rcases hk with hk | hk
    · simp [Value.ownBlock] at hk
      subst hk
      exact m.own.elim (fun h => .inl (.inl h)) .inr
    · simp [Value.ownBlock] at hk
      subst hk
      rcases hat with h1 | h1
      · exact .inl (.inr h1)
      · right
        have := m.fr.size
        simp at h1
        omega

/-- Assign of the reference, in one word. -/
def RAssignPost (g : Nat) (va vb : Value) (xs : List (Int × Int)) (e a : Int) (w : World) (en : Ending) (w' : World) : Prop :=
  en = .returned (.int .i64 (rassign xs e a).1) ∧ ∃ va' vb', IsRef w' g va' vb' (rassign xs e a).2 ∧ Moved2 g va vb va' vb' w w'

set_option maxHeartbeats 2000000 in
theorem rassign_on (g : Nat) (va vb : Value) (xs : List (Int × Int)) (e a : Int) (w : World) (h : IsRef w g va vb xs) (hlen : xs.length < 8796093022200) (he : 0 ≤ e) (ha : 0 ≤ a) (hl : 0 < xs.length → (lastOf xs).1 < e) :
    Calls Try.prog 12 #[.pointer (some ⟨g, 0, none⟩), .int .i64 e, .int .i64 a] w (RAssignPost g va vb xs e a w) := by
  obtain ⟨i0, hi, hz0, hz1, hz2⟩ := info_parts info3
  have f0 := cell_of_two0 h.blk
  have hp : rassign xs e a = (0, keep xs a ++ [(e, a)]) := by
    unfold rassign
    rw [if_neg (by omega)]
    rcases Nat.eq_zero_or_pos xs.length with h0 | h0
    · obtain rfl : xs = [] := List.eq_nil_of_length_eq_zero h0
      rfl
    · have := hl h0
      rw [if_neg (by omega), if_neg (by omega)]
  have HP := Lib.hid hp
  have HC := Lib.hid (rcut_calls g va vb xs a w h hlen)
  have hyl : (keep xs a).length < 8796093022200 := by
    have h1 := List.length_filter_le (fun x : Int × Int => decide (x.2 < a)) xs
    show (List.filter _ _).length < _
    omega
  have fin : ∀ (w5 : World) (va' vb' : Value), IsRef w5 g va' vb' (keep xs a ++ [(e, a)]) → Moved2 g va vb va' vb' w w5 → RAssignPost g va vb xs e a w (.returned (.int .i64 0)) w5 := fun w5 va' vb' h1 h2 => ⟨by rw [HP.out], va', vb', by rw [HP.out]; exact h1, h2⟩
  generalize keep xs a = ys at *
  have HF := Lib.hid fin
  clear fin hp
  obtain ⟨Aa, ca, rfl, hca, hcma⟩ := row_form h.ra
  rcases Nat.eq_zero_or_pos xs.length with h0 | h0
  · obtain rfl : xs = [] := List.eq_nil_of_length_eq_zero h0
    simp only [List.length_nil] at f0
    clear h hl h0 hca
    go_enter Try.func12, Try.ntmps12
    go_wp2_with fail
    refine HC.out.mono ?_
    rintro en w1 ⟨rfl, va1, vb1, hc1, hm1⟩
    have k0 := cell_of_two0 hc1.blk
    go_wp2_with (first | (at_builtin; refine wpList_append_lies _ rfl (.tmp 54) (.tmp 56) 26 rfl 0 3 i0 _ 1 8 Try.underlying26 hi hz0 hz1 hz2 rfl (by decide) _ _ _ rfl (hc1.ra.alloc _) ⟨w1.heap.size, 0, none⟩ 1 1 [.int .i64 e] rfl rfl (cell_one_new _ _ _) (by simp [Value.oneCell']) (by decide) (by unfold maxLen; omega) (by omega) (Nat.zero_le _) _ rfl ?_; intro r1 c1 w2 ho1 hg1 hat1 _; have hb1 := push_blk hc1.blk hc1.ra (by decide) hg1; have k1 := cell_of_two0 hb1; have z1 := free_of_two hb1 0; have hmid := mid_of hc1 ho1 hg1 hat1; have k2 := cell_of_two1 hmid.blk) | (at_builtin; refine wpList_append_lies _ rfl (.tmp 64) (.tmp 66) 26 rfl 0 3 i0 _ 1 8 Try.underlying26 hi hz0 hz1 hz2 rfl (by decide) _ _ _ rfl (hmid.rb.alloc _) ⟨w2.heap.size, 0, none⟩ 1 1 [.int .i64 a] rfl rfl (cell_one_set _ _ _ _ _) (by simp [Value.oneCell']) (by decide) (by unfold maxLen; omega) (by omega) (Nat.zero_le _) _ rfl ?_; intro r2 c2 w4 ho2 hg2 hat2 _; obtain ⟨hb4, hfin1, hfin2⟩ := mid_end (x := (e, a)) hc1 hmid ho2 hg2 hat2; have k4 := cell_of_two1 hb4; have z4 := free_of_two hb4 1))
    go_ret
    exact HF.out _ _ _ hfin1 (hm1.trans hfin2)
  · obtain ⟨ra, ca', e2, _, _, _, x0⟩ := row_at h.ra (k := xs.length - 1) (by omega) (fsts_get xs _ (by omega))
    injection e2 with e2 _ _
    subst e2
    have hl1 := hl h0
    rw [lastOf_some (by rintro rfl; simp at h0)] at hl1
    dsimp only at hl1
    generalize (xs.getD (xs.length - 1) (0, 0)).1 = x at x0 hl1
    clear h hl
    obtain ⟨n, hn⟩ : ∃ n, xs.length = n + 1 := ⟨xs.length - 1, by omega⟩
    rw [hn] at f0 x0 hca hlen
    simp only [Nat.add_sub_cancel] at x0
    clear h0 hn
    go_enter Try.func12, Try.ntmps12
    go_wp2_with fail
    refine HC.out.mono ?_
    rintro en w1 ⟨rfl, va1, vb1, hc1, hm1⟩
    have k0 := cell_of_two0 hc1.blk
    go_wp2_with (first | (at_builtin; refine wpList_append_lies _ rfl (.tmp 54) (.tmp 56) 26 rfl 0 3 i0 _ 1 8 Try.underlying26 hi hz0 hz1 hz2 rfl (by decide) _ _ _ rfl (hc1.ra.alloc _) ⟨w1.heap.size, 0, none⟩ 1 1 [.int .i64 e] rfl rfl (cell_one_new _ _ _) (by simp [Value.oneCell']) (by decide) (by unfold maxLen; omega) (by omega) (Nat.zero_le _) _ rfl ?_; intro r1 c1 w2 ho1 hg1 hat1 _; have hb1 := push_blk hc1.blk hc1.ra (by decide) hg1; have k1 := cell_of_two0 hb1; have z1 := free_of_two hb1 0; have hmid := mid_of hc1 ho1 hg1 hat1; have k2 := cell_of_two1 hmid.blk) | (at_builtin; refine wpList_append_lies _ rfl (.tmp 64) (.tmp 66) 26 rfl 0 3 i0 _ 1 8 Try.underlying26 hi hz0 hz1 hz2 rfl (by decide) _ _ _ rfl (hmid.rb.alloc _) ⟨w2.heap.size, 0, none⟩ 1 1 [.int .i64 a] rfl rfl (cell_one_set _ _ _ _ _) (by simp [Value.oneCell']) (by decide) (by unfold maxLen; omega) (by omega) (Nat.zero_le _) _ rfl ?_; intro r2 c2 w4 ho2 hg2 hat2 _; obtain ⟨hb4, hfin1, hfin2⟩ := mid_end (x := (e, a)) hc1 hmid ho2 hg2 hat2; have k4 := cell_of_two1 hb4; have z4 := free_of_two hb4 1))
    go_ret
    exact HF.out _ _ _ hfin1 (hm1.trans hfin2)
theorem rassign_calls (g : Nat) (va vb : Value) (xs : List (Int × Int)) (e a : Int) (w : World) (h : IsRef w g va vb xs) (hlen : xs.length < 8796093022200) :
    Calls Try.prog 12 #[.pointer (some ⟨g, 0, none⟩), .int .i64 e, .int .i64 a] w (RAssignPost g va vb xs e a w) := by
  by_cases h1 : e < 0
  · have hp : rassign xs e a = (1, xs) := by unfold rassign; rw [if_pos (.inl h1)]
    have HP := Lib.hid hp
    clear hp
    go_enter Try.func12, Try.ntmps12
    go_wp2
    go_ret
    exact ⟨by rw [HP.out]; rfl, va, vb, by rw [HP.out]; exact h, Moved2.refl _ _ _ _⟩
  by_cases h2 : a < 0
  · have hp : rassign xs e a = (1, xs) := by unfold rassign; rw [if_pos (.inr h2)]
    have HP := Lib.hid hp
    clear hp
    go_enter Try.func12, Try.ntmps12
    go_wp2
    go_ret
    exact ⟨by rw [HP.out]; rfl, va, vb, by rw [HP.out]; exact h, Moved2.refl _ _ _ _⟩
  by_cases h3 : 0 < xs.length → (lastOf xs).1 < e
  · exact rassign_on g va vb xs e a w h hlen (by omega) (by omega) h3
  have h0 : 0 < xs.length := by
    rcases Nat.eq_zero_or_pos xs.length with h0 | h0
    · exact absurd (fun h => absurd h (by omega)) h3
    · exact h0
  have h4 : e ≤ (lastOf xs).1 := by
    by_cases h5 : (lastOf xs).1 < e
    · exact absurd (fun _ => h5) h3
    · omega
  clear h3
  have f0 := cell_of_two0 h.blk
  obtain ⟨Aa, ca, rfl, hca, hcma⟩ := row_form h.ra
  obtain ⟨ra, ca', e2, _, _, _, x0⟩ := row_at h.ra (k := xs.length - 1) (by omega) (fsts_get xs _ (by omega))
  injection e2 with e2 _ e2c
  subst e2
  subst e2c
  have hlast := lastOf_some (xs := xs) (by rintro rfl; simp at h0)
  have hp : rassign xs e a = if (xs.getD (xs.length - 1) (0, 0)).1 = e then (0, xs) else (5, xs) := by
    unfold rassign
    rw [hlast, if_neg (by omega)]
    rw [hlast] at h4
    dsimp only at h4 ⊢
    by_cases h5 : (xs.getD (xs.length - 1) (0, 0)).1 = e
    · rw [if_neg (by omega), if_pos ⟨rfl, h5⟩, if_pos h5]
    · rw [if_pos ⟨rfl, by omega⟩, if_neg h5]
  rw [hlast] at h4
  dsimp only at h4
  generalize (xs.getD (xs.length - 1) (0, 0)).1 = x at x0 h4 hp
  obtain ⟨n, hn⟩ : ∃ n, xs.length = n + 1 := ⟨xs.length - 1, by omega⟩
  have H := Lib.hid h
  clear h hlast
  have HP := Lib.hid hp
  clear hp
  have fin : ∀ r, rassign xs e a = (r, xs) → RAssignPost g (.slice (some ⟨ra, 0, none⟩) xs.length ca) vb xs e a w (.returned (.int .i64 r)) w := fun r hr => ⟨by rw [hr], _, vb, by rw [hr]; exact H.out, Moved2.refl _ _ _ _⟩
  rw [hn] at f0 x0 hca hlen
  simp only [Nat.add_sub_cancel] at x0
  have HF := Lib.hid fin
  have HN := Lib.hid hn
  clear fin hn h0
  by_cases h5 : x = e
  · subst h5
    go_enter Try.func12, Try.ntmps12
    go_wp2
    go_ret
    exact HF.out 0 (by rw [HP.out]; simp)
  · go_enter Try.func12, Try.ntmps12
    go_wp2
    go_ret
    exact HF.out 5 (by rw [HP.out, if_neg h5])
end Go.Proofs.Ythiepdldliiakaa

/- Plain laws on logs whose batches stand one behind the other: what is committed, and where it is stable. No conditions. -/
import Derived.Test.YtnbdlkjphdfkpaaP1
namespace Go.Proofs.Ytnbdlkjphdfkpaa
open Go Go.RowKit H Go.Proofs.YtnbdlkjphdfkpaaW.PrintWords

/-! ### which batches are committed -/
theorem setAll_get (es : List Bool) (v : Bool) (i : Nat) (hi : i < es.length) (ks : List Int) (hk : ∀ z ∈ ks, 0 ≤ z) : (setAll es ks v).getD i false = if (i : Int) ∈ ks then v else es.getD i false := by
  revert hk
  refine snoc_rec (P := fun ks => (∀ z ∈ ks, 0 ≤ z) → (setAll es ks v).getD i false = if (i : Int) ∈ ks then v else es.getD i false) ?_ ?_ ks
  · intro _; rfl
  · intro ks z ih hk
    have hz : 0 ≤ z := hk z (by simp)
    have ih := ih (fun y hy => hk y (List.mem_append_left _ hy))
    rw [setAll_snoc]
    have hlen : i < (setAll es ks v).length := by rw [setAll_len]; exact hi
    by_cases h : z.toNat = i
    · have : (i : Int) ∈ ks ++ [z] := by simp; right; omega
      rw [if_pos this, List.getD_eq_getElem?_getD, List.getElem?_set, if_pos h, h, if_pos hlen]
      rfl
    · rw [List.getD_eq_getElem?_getD, List.getElem?_set, if_neg h, ← List.getD_eq_getElem?_getD, ih]
      have : ((i : Int) ∈ ks ++ [z]) ↔ ((i : Int) ∈ ks) := by
        simp
        intro e
        omega
      simp only [this]

theorem grp_mem' (l : List S41) (p : Int) (k : Nat) : ∀ z ∈ grp l p k, 0 ≤ z ∧ z < k ∧ ∃ b, l[z.toNat]? = some b ∧ b.f2 = p ∧ b.f6 = false ∧ b.f5 = true := by
  induction k with
  | zero => intro z hz; simp [grp] at hz
  | succ k ih =>
    have ih' : ∀ z ∈ grp l p k, 0 ≤ z ∧ z < ((k + 1 : Nat) : Int) ∧ ∃ b, l[z.toNat]? = some b ∧ b.f2 = p ∧ b.f6 = false ∧ b.f5 = true := fun z hz => ⟨(ih z hz).1, by have := (ih z hz).2.1; omega, (ih z hz).2.2⟩
    intro z hz
    unfold grp at hz
    split at hz
    · rename_i b hb
      split at hz
      · rename_i hp
        split at hz
        · simp at hz
        · rename_i h6
          split at hz
          · rename_i h5
            rcases List.mem_append.1 hz with hz | hz
            · exact ih' z hz
            · obtain rfl : z = (k : Int) := by simpa using hz
              exact ⟨by omega, by omega, b, by simpa using hb, hp, by simpa using h6, h5⟩
          · exact ih' z hz
      · exact ih' z hz
    · exact ih' z hz

theorem ends_true (l : List S41) (k i : Nat) : (ends l k).getD i false = true → i < k ∧ ∃ b, l[i]? = some b ∧ b.f6 = false := by
  induction k with
  | zero =>
    intro h
    simp only [ends, List.getD_eq_getElem?_getD, List.getElem?_replicate] at h
    split at h <;> simp at h
  | succ k ih =>
    intro h
    by_cases hi : i < l.length
    · unfold ends at h
      split at h
      · rename_i b hb
        split at h
        · rw [setAll_get _ _ _ (by rw [ends_len]; exact hi) _ (fun z hz => (grp_mem' l _ k z hz).1)] at h
          split at h
          · rename_i hm
            obtain ⟨h1, h2, c, hc, _, h6, _⟩ := grp_mem' l _ k _ hm
            exact ⟨by omega, c, by simpa using hc, h6⟩
          · obtain ⟨h1, h2⟩ := ih h
            exact ⟨by omega, h2⟩
        · rename_i h6
          split at h
          · obtain ⟨h1, h2⟩ := ih h
            exact ⟨by omega, h2⟩
          · by_cases hki : k = i
            · subst hki
              exact ⟨by omega, b, hb, by simpa using h6⟩
            · rw [List.getD_eq_getElem?_getD, List.getElem?_set, if_neg hki, ← List.getD_eq_getElem?_getD] at h
              obtain ⟨h1, h2⟩ := ih h
              exact ⟨by omega, h2⟩
      · obtain ⟨h1, h2⟩ := ih h
        exact ⟨by omega, h2⟩
    · rw [List.getD_eq_getElem?_getD, List.getElem?_eq_none (by rw [ends_len]; omega)] at h
      simp at h

theorem grp_stay (l : List S41) (i n : Nat) (hi : i < n) (h : ∀ p, (i : Int) ∉ grp l p n) (d : Nat) : ∀ p, (i : Int) ∉ grp l p (n + d) := by
  induction d with
  | zero => exact h
  | succ d ih =>
    intro p hm
    rw [← Nat.add_assoc] at hm
    unfold grp at hm
    split at hm
    · split at hm
      · split at hm
        · simp at hm
        · split at hm
          · rcases List.mem_append.1 hm with hm | hm
            · exact ih p hm
            · simp at hm; omega
          · exact ih p hm
      · exact ih p hm
    · exact ih p hm

theorem ends_stay (l : List S41) (i n : Nat) (hi : i < n) (hl : i < l.length) (h : ∀ p, (i : Int) ∉ grp l p n) (d : Nat) : (ends l (n + d)).getD i false = (ends l n).getD i false := by
  induction d with
  | zero => rfl
  | succ d ih =>
    rw [← ih, ← Nat.add_assoc]
    conv => lhs; unfold ends
    split
    · split
      · rw [setAll_get _ _ _ (by rw [ends_len]; exact hl) _ (fun z hz => (grp_mem' l _ _ z hz).1), if_neg (grp_stay l i n hi h d _)]
      · split
        · rfl
        · rw [List.getD_eq_getElem?_getD, List.getElem?_set, if_neg (by omega), ← List.getD_eq_getElem?_getD]
    · rfl

theorem grp_opens (l : List S41) (p : Int) (i : Nat) (b : S41) (hb : l[i]? = some b) : ∀ n, (i : Int) ∈ grp l p n → ∃ a, opens (l.take n) p = some a ∧ a ≤ b.f0 := by
  intro n
  induction n with
  | zero => intro h; simp [grp] at h
  | succ n ih =>
    intro h
    unfold grp at h
    split at h
    · rename_i c hc
      rw [opens_take l n c p hc]
      unfold opn
      split at h
      · rename_i hp
        rw [if_pos hp]
        split at h
        · simp at h
        · rename_i h6
          rw [if_neg h6]
          split at h
          · rename_i h5
            rw [if_pos h5]
            rcases List.mem_append.1 h with h | h
            · obtain ⟨a, ha, hle⟩ := ih h
              rw [ha]
              refine ⟨_, rfl, ?_⟩
              dsimp only
              split <;> omega
            · have hin : i = n := by simp at h; omega
              subst hin
              rw [hb] at hc
              obtain rfl := Option.some.inj hc
              cases opens (l.take i) p with
              | none => exact ⟨_, rfl, Int.le_refl _⟩
              | some a =>
                refine ⟨_, rfl, ?_⟩
                dsimp only
                split <;> omega
          · rename_i h5
            rw [if_neg h5]
            exact ih h
      · rename_i hp
        rw [if_neg hp]
        exact ih h
    · rename_i hc
      rw [List.take_of_length_le (by have := List.getElem?_eq_none_iff.1 hc; omega)]
      have := ih h
      rwa [List.take_of_length_le (List.getElem?_eq_none_iff.1 hc)] at this

/-! ### batches one behind the other -/
/-- Batches one behind the other, with no overflow. -/
def Row (at_ : Int) : List S41 → Prop
  | [] => True
  | b :: bs => b.f0 = at_ ∧ toOf b = at_ + szOf b ∧ Row (at_ + szOf b) bs
def sumSz (bs : List S41) : Int := (bs.map szOf).sum

theorem szOf_nonneg (b : S41) : 0 ≤ szOf b := by unfold szOf; split <;> omega
theorem sumSz_nonneg (bs : List S41) : 0 ≤ sumSz bs := by
  induction bs with
  | nil => exact Int.le_refl _
  | cons b bs ih => have := szOf_nonneg b; simp only [sumSz, List.map_cons, List.sum_cons] at ih ⊢; omega
theorem sumSz_append (xs bs : List S41) : sumSz (xs ++ bs) = sumSz xs + sumSz bs := by simp [sumSz]

theorem row_append (xs bs : List S41) : ∀ at_, Row at_ (xs ++ bs) ↔ Row at_ xs ∧ Row (at_ + sumSz xs) bs := by
  induction xs with
  | nil => intro at_; simp [Row, sumSz]
  | cons a xs ih =>
    intro at_
    have : at_ + sumSz (a :: xs) = at_ + szOf a + sumSz xs := by simp [sumSz]; omega
    simp only [List.cons_append, Row, ih, this, and_assoc]

theorem row_ge (bs : List S41) : ∀ at_, Row at_ bs → ∀ b ∈ bs, at_ ≤ b.f0 := by
  induction bs with
  | nil => intro _ _ b hb; cases hb
  | cons c bs ih =>
    intro at_ h b hb
    rcases List.mem_cons.1 hb with rfl | hb
    · rw [h.1]; exact Int.le_refl _
    · have := ih _ h.2.2 b hb
      have := szOf_nonneg c
      omega

theorem row_end (bs : List S41) : ∀ at_, Row at_ bs → (bs.getLast?.map toOf).getD at_ = at_ + sumSz bs := by
  refine snoc_rec (P := fun bs => ∀ at_, Row at_ bs → (bs.getLast?.map toOf).getD at_ = at_ + sumSz bs) ?_ ?_ bs
  · intro at_ _; simp [sumSz]
  · intro bs b ih at_ h
    have h2 := ((row_append bs [b] at_).1 h).2
    have h3 := h2.2.1
    simp only [List.getLast?_append, List.getLast?_singleton, Option.some_or, Option.map_some, Option.getD_some]
    rw [h3, sumSz_append]
    simp [sumSz]
    omega

theorem fits_sz {b : S41} (h : Fits b) : szOf b ≤ 5864062014805 := by
  have := h.1
  unfold szOf
  split <;> omega

theorem row_pre (l : List S41) (high : Int) (hh : high ≤ 1000000) : ∀ at_, 0 ≤ at_ → at_ ≤ 1000000 → (∀ b ∈ l, Fits b) → Row at_ (pre (logF at_ l) high) := by
  induction l with
  | nil => intro _ _ _ _; trivial
  | cons b l ih =>
    intro at_ h0 h1 hf
    have hb := fits_sz (hf b List.mem_cons_self)
    have hs := szOf_nonneg b
    have hw : wrap64 (at_ + szOf b) = at_ + szOf b := wrap_in (by omega) (by omega)
    have ht : toOf (atB b at_) = at_ + szOf b := hw
    simp only [logF, pre, List.takeWhile_cons]
    split
    · rename_i hle
      have hle : toOf (atB b at_) ≤ high := by simpa using hle
      refine ⟨rfl, ht, ?_⟩
      have hs' : szOf (atB b at_) = szOf b := rfl
      have := ih (wrap64 (at_ + szOf b)) (by omega) (by omega) (fun c hc => hf c (List.mem_cons_of_mem _ hc))
      rw [hw] at this ⊢
      rw [hs']
      exact this
    · trivial

theorem pre_le (l : List S41) (high : Int) : ∀ b ∈ pre l high, toOf b ≤ high := by
  unfold pre
  induction l with
  | nil => intro b hb; simp at hb
  | cons c l ih =>
    intro b hb
    rw [List.takeWhile_cons] at hb
    split at hb
    · rename_i hc
      rcases List.mem_cons.1 hb with rfl | hb
      · simpa using hc
      · exact ih b hb
    · simp at hb

theorem pre_more (l : List S41) {lo hi : Int} (h : lo ≤ hi) : ∃ R, pre l hi = pre l lo ++ R := by
  induction l with
  | nil => exact ⟨[], rfl⟩
  | cons b l ih =>
    by_cases h1 : toOf b ≤ lo
    · obtain ⟨R, hR⟩ := ih
      refine ⟨R, ?_⟩
      simp only [pre, List.takeWhile_cons] at hR ⊢
      have h2 : toOf b ≤ hi := by omega
      simp only [h1, h2, decide_true, if_true, hR]
      rfl
    · refine ⟨pre (b :: l) hi, ?_⟩
      have : pre (b :: l) lo = [] := by simp only [pre, List.takeWhile_cons]; rw [if_neg (by simpa using h1)]
      rw [this]
      rfl

theorem pre_eq_take (l : List S41) (high : Int) : pre l high = l.take (pre l high).length := by
  have h : pre l high <+: l := List.takeWhile_prefix _
  exact List.prefix_iff_eq_take.1 h

theorem pre_len (l : List S41) (high : Int) : (pre l high).length ≤ l.length := (List.takeWhile_prefix _).length_le

theorem opens_ext (P R : List S41) (e : Int) (p : Int) (hR : ∀ b ∈ R, e ≤ b.f0) : ∀ a, opens (P ++ R) p = some a → opens P p = some a ∨ e ≤ a := by
  revert hR
  refine snoc_rec (P := fun R => (∀ b ∈ R, e ≤ b.f0) → ∀ a, opens (P ++ R) p = some a → opens P p = some a ∨ e ≤ a) ?_ ?_ R
  · intro _ a h; rw [List.append_nil] at h; exact .inl h
  · intro R b ih hR a h
    have ih := ih (fun c hc => hR c (List.mem_append_left _ hc))
    have hb := hR b (by simp)
    rw [← List.append_assoc, opens_snoc] at h
    unfold opn at h
    split at h
    · split at h
      · cases h
      · split at h
        · obtain rfl := Option.some.inj h
          cases ho : opens (P ++ R) p with
          | none => exact .inr hb
          | some a0 =>
            dsimp only
            split
            · exact .inr hb
            · exact ih _ ho
        · exact ih _ h
    · exact ih _ h

theorem stab_grows (x : List S41) {lo hi : Int} (h : lo ≤ hi) (hrow : Row 0 (pre x hi)) : stabF (pre x lo) ≤ stabF (pre x hi) := by
  obtain ⟨R, hR⟩ := pre_more x h
  have hP := stabF_is (pre x lo)
  have hQ := stabF_is (pre x hi)
  rw [hR] at hrow
  have hr := (row_append _ _ 0).1 hrow
  have he : (((pre x lo).getLast?.map toOf).getD 0) = 0 + sumSz (pre x lo) := row_end _ 0 hr.1
  have hge := row_ge R _ hr.2
  have h1 := hP.1
  rcases hQ.2.2 with hq | ⟨p, hq⟩
  · rw [hq, hR, row_end _ 0 hrow, sumSz_append]
    have := sumSz_nonneg R
    omega
  · rw [hR] at hq ⊢
    rcases opens_ext _ R (0 + sumSz (pre x lo)) p hge _ hq with ho | ho
    · exact hP.2.1 p _ ho
    · omega

theorem end_le (x : List S41) {high : Int} (h0 : 0 ≤ high) : ((pre x high).getLast?.map toOf).getD 0 ≤ high := by
  cases hl : (pre x high).getLast? with
  | none => exact h0
  | some b => exact pre_le x high b (List.mem_of_getLast? hl)

theorem stab_le_high (x : List S41) {high : Int} (h0 : 0 ≤ high) : stabF (pre x high) ≤ high := Int.le_trans (stabF_is _).1 (end_le x h0)

/-! ### the records -/
theorem sumSz_take_mono (bs : List S41) (m : Nat) : sumSz (bs.take m) ≤ sumSz (bs.take (m + 1)) := by
  rw [List.take_add_one, sumSz_append]
  have := sumSz_nonneg bs[m]?.toList
  omega

theorem upto_len (x : List S41) (P : List S41) (es : List Bool) (hes : ∀ k, es.getD k false = true → ∃ b, P[k]? = some b ∧ x[k]? = some b ∧ b.f6 = false) (m : Nat) : ((upto x es m).length : Int) ≤ sumSz (P.take m) := by
  induction m with
  | zero => simp [upto, sumSz]
  | succ m ih =>
    have hm := sumSz_take_mono P m
    unfold upto
    split
    · rename_i b hb
      split
      · rename_i h
        obtain ⟨c, hc, hx, h6⟩ := hes m h
        rw [hb] at hx
        obtain rfl := Option.some.inj hx
        rw [List.take_add_one, hc, sumSz_append]
        have : sumSz [b] = (b.f8.length : Int) := by simp [sumSz, szOf, h6]
        simp only [Option.toList]
        rw [this]
        simp [recs]
        exact ih
      · simp; omega
    · simp; omega

theorem comm_len (x : List S41) {high : Int} (h0 : 0 ≤ high) (hrow : Row 0 (pre x high)) : ((commF x high).length : Int) ≤ high := by
  have h := upto_len x (pre x high) (ends x (pre x high).length) (fun k hk => by
    obtain ⟨h1, b, hb, h6⟩ := ends_true x _ k hk
    refine ⟨b, ?_, hb, h6⟩
    rw [pre_eq_take, List.getElem?_take, if_pos h1]
    exact hb) x.length
  rw [List.take_of_length_le (pre_len x high)] at h
  have := row_end _ 0 hrow
  have := end_le x h0
  unfold commF
  omega

theorem upto_filter (x : List S41) (es es' : List Bool) (q : S37 → Bool) (n : Nat) (h : ∀ k b, k < n → x[k]? = some b → es.getD k false = es'.getD k false ∨ (recs b b.f8.length).filter q = []) : (upto x es n).filter q = (upto x es' n).filter q := by
  induction n with
  | zero => rfl
  | succ n ih =>
    have ih := ih (fun k b hk => h k b (by omega))
    unfold upto
    rw [List.filter_append, List.filter_append, ih]
    congr 1
    split
    · rename_i b hb
      rcases h n b (by omega) hb with h | h
      · rw [h]
      · split <;> split <;> simp [h]
    · rfl

theorem recs_behind (b : S41) (s : Int) (hf : b.f8.length ≤ 5864062014805) (h0 : 0 ≤ b.f0) (h1 : b.f0 ≤ 1000000) (hs : s ≤ b.f0) : (recs b b.f8.length).filter (fun r => decide (r.f0 < s)) = [] := by
  rw [List.filter_eq_nil_iff]
  intro r hr
  simp only [recs, List.mem_map, List.mem_range] at hr
  obtain ⟨i, hi, rfl⟩ := hr
  have : (recOf b i).f0 = b.f0 + i := wrap_in (by omega) (by omega)
  rw [this]
  simp
  omega

theorem comm_stays (x : List S41) {lo hi : Int} (h : lo ≤ hi) (hh : hi ≤ 1000000) (hrow : Row 0 (pre x hi)) (hf : ∀ b ∈ x, b.f8.length ≤ 5864062014805) :
    (commF x lo).filter (fun r => decide (r.f0 < stabF (pre x lo))) = (commF x hi).filter (fun r => decide (r.f0 < stabF (pre x lo))) := by
  obtain ⟨R, hR⟩ := pre_more x h
  have hP := stabF_is (pre x lo)
  have hrow' := hrow
  rw [hR] at hrow'
  have hr := (row_append _ _ 0).1 hrow'
  have he : (((pre x lo).getLast?.map toOf).getD 0) = 0 + sumSz (pre x lo) := row_end _ 0 hr.1
  have hge := row_ge R _ hr.2
  unfold commF
  refine upto_filter x _ _ _ _ (fun k b hk hb => ?_)
  by_cases hsame : (ends x (pre x lo).length).getD k false = (ends x (pre x hi).length).getD k false
  · exact .inl hsame
  refine .inr ?_
  have hmem : b ∈ x := List.mem_of_getElem? hb
  have hlen : (pre x hi).length = (pre x lo).length + R.length := by rw [hR, List.length_append]
  have hk2 : k < (pre x hi).length := by
    rcases Nat.lt_or_ge k (pre x hi).length with h' | h'
    · exact h'
    · exfalso
      apply hsame
      have e1 : (ends x (pre x lo).length).getD k false = false := by
        cases hc : (ends x (pre x lo).length).getD k false with
        | false => rfl
        | true => have := (ends_true x _ k hc).1; omega
      have e2 : (ends x (pre x hi).length).getD k false = false := by
        cases hc : (ends x (pre x hi).length).getD k false with
        | false => rfl
        | true => have := (ends_true x _ k hc).1; omega
      rw [e1, e2]
  have hbQ : (pre x hi)[k]? = some b := by rw [pre_eq_take, List.getElem?_take, if_pos hk2]; exact hb
  have hbm := List.mem_of_getElem? hbQ
  have h0 := row_ge _ _ hrow b hbm
  have h1 : b.f0 ≤ 1000000 := by
    have hto := pre_le x hi b hbm
    have hk3 : (pre x hi) = (pre x hi).take k ++ (pre x hi).drop k := (List.take_append_drop k _).symm
    have hr2 := hrow
    rw [hk3, row_append] at hr2
    rw [List.drop_eq_getElem_cons hk2] at hr2
    have hbe : (pre x hi)[k] = b := by rw [List.getElem?_eq_getElem hk2] at hbQ; exact Option.some.inj hbQ
    rw [hbe] at hr2
    have h3 := hr2.2.1
    have h4 := hr2.2.2.1
    have := szOf_nonneg b
    omega
  refine recs_behind b _ (hf b hmem) h0 h1 ?_
  rcases Nat.lt_or_ge k (pre x lo).length with hkp | hkp
  · by_cases hg : ∀ p, (k : Int) ∉ grp x p (pre x lo).length
    · exfalso
      apply hsame
      rw [hlen]
      exact (ends_stay x k _ hkp hk hg R.length).symm
    · simp only [Classical.not_forall, Classical.not_not] at hg
      obtain ⟨p, hp⟩ := hg
      obtain ⟨a, ha, hle⟩ := grp_opens x p k b hb _ hp
      rw [← pre_eq_take] at ha
      exact Int.le_trans (hP.2.1 p a ha) hle
  · have : b ∈ R := by
      rw [hR, List.getElem?_append_right hkp] at hbQ
      exact List.mem_of_getElem? hbQ
    have := hge b this
    have := hP.1
    omega
end Go.Proofs.Ytnbdlkjphdfkpaa

/- A log without transactions, plain: all its records are committed, and it is stable. No conditions. -/
import Derived.Test.YtnbdlkjphdfkpaaP2
import Derived.Test.YtnbdlkjphdfkpaaPG
import Derived.Test.YtnbdlkjphdfkpaaP3
namespace Go.Proofs.Ytnbdlkjphdfkpaa
open Go Go.RowKit H Go.Proofs.YtnbdlkjphdfkpaaW.PrintWords

/-- A batch of values alone. -/
def plainB (b : S41) : S41 := ⟨0, 0, 0, 0, 0, false, false, false, b.f8⟩
def plainOf (l : List S41) : List S41 := (l.filter fun b => decide (0 < b.f8.length)).map plainB

theorem plainOf_yes {l : List S41} {k : Nat} (h : k < l.length) (hv : 0 < l[k].f8.length) : plainOf (l.take (k + 1)) = plainOf (l.take k) ++ [plainB l[k]] := by
  unfold plainOf
  rw [filter_step _ _ _ h, if_pos (by simpa using hv), List.map_append]
  rfl
theorem plainOf_no {l : List S41} {k : Nat} (h : k < l.length) (hv : ¬ 0 < l[k].f8.length) : plainOf (l.take (k + 1)) = plainOf (l.take k) := by
  unfold plainOf
  rw [filter_step _ _ _ h, if_neg (by simpa using hv), List.append_nil]
theorem plainOf_len (l : List S41) (k : Nat) : (plainOf (l.take k)).length ≤ k := by
  unfold plainOf
  rw [List.length_map]
  exact Nat.le_trans (List.length_filter_le _ _) (by rw [List.length_take]; omega)

theorem plainOf_fits {l : List S41} (h : FitsAll l) : FitsAll (plainOf l) := by
  refine ⟨?_, fun b hb => ?_⟩
  · have := plainOf_len l l.length
    rw [List.take_length] at this
    have := h.1
    omega
  · obtain ⟨c, hc, rfl⟩ := List.mem_map.1 hb
    exact h.2 c (List.mem_filter.1 hc).1

/-- Batches of values alone, each of producer 0. -/
def AllPlain (l : List S41) : Prop := ∀ b ∈ l, b.f2 = 0 ∧ b.f5 = false ∧ b.f6 = false

theorem log_plain (l : List S41) : ∀ at_, AllPlain (logF at_ (plainOf l)) := by
  have key : ∀ (xs : List S41) at_, (∀ b ∈ xs, b.f2 = 0 ∧ b.f5 = false ∧ b.f6 = false) → AllPlain (logF at_ xs) := by
    intro xs
    induction xs with
    | nil => intro _ _ b hb; cases hb
    | cons c xs ih =>
      intro at_ h b hb
      rcases List.mem_cons.1 hb with rfl | hb
      · exact h c List.mem_cons_self
      · exact ih _ (fun b hb => h b (List.mem_cons_of_mem _ hb)) b hb
  intro at_
  refine key _ _ fun b hb => ?_
  obtain ⟨c, _, rfl⟩ := List.mem_map.1 hb
  exact ⟨rfl, rfl, rfl⟩

theorem plainOf_wf (l : List S41) : wfAll (plainOf l) = true := by
  refine List.all_eq_true.2 fun b hb => ?_
  obtain ⟨c, _, rfl⟩ := List.mem_map.1 hb
  rfl

section
variable {x : List S41} {high : Int} (hp : AllPlain x)

include hp in
theorem ends_plain_get (k i : Nat) (hk : k ≤ x.length) (hi : i < x.length) : (ends x k).getD i false = decide (i < k) := by
  induction k with
  | zero => simp [ends, List.getD_eq_getElem?_getD, List.getElem?_replicate]; split <;> simp
  | succ k ih =>
    have hx : x[k]? = some x[k] := List.getElem?_eq_getElem _
    obtain ⟨_, h5, h6⟩ := hp x[k] (List.getElem_mem _)
    rw [ends_plain hx h6 h5, List.getD_eq_getElem?_getD, List.getElem?_set]
    by_cases h : k = i
    · subst h
      rw [if_pos rfl, if_pos (by rw [ends_len]; omega)]
      simp
    · rw [if_neg h, ← List.getD_eq_getElem?_getD, ih (by omega)]
      rw [decide_eq_decide]
      omega

theorem sumSz_succ (x : List S41) (m : Nat) (h : m < x.length) : sumSz (x.take (m + 1)) = sumSz (x.take m) + szOf x[m] := by
  rw [List.take_succ_eq_append_getElem h, sumSz_append]
  simp [sumSz]

theorem row_at (x : List S41) (high : Int) (hrow : Row 0 (pre x high)) (j : Nat) (hj : j < (pre x high).length) (hl : j < x.length) : x[j].f0 = sumSz (x.take j) ∧ toOf x[j] = sumSz (x.take (j + 1)) := by
  have e : (pre x high) = x.take j ++ x[j] :: (pre x high).drop (j + 1) := by
    conv => lhs; rw [← List.take_append_drop j (pre x high), List.drop_eq_getElem_cons hj]
    have h1 : (pre x high)[j]? = some x[j] := by rw [pre_eq_take, List.getElem?_take, if_pos hj, List.getElem?_eq_getElem hl]
    rw [List.getElem?_eq_getElem hj] at h1
    rw [Option.some.inj h1]
    congr 1
    rw [pre_eq_take, List.take_take, Nat.min_eq_left (by omega)]
  rw [e, row_append] at hrow
  have h2 := hrow.2.1
  have h3 := hrow.2.2.1
  rw [sumSz_succ x j hl]
  constructor <;> omega

include hp in
theorem upto_plain (h0 : 0 ≤ high) (hh : high ≤ 1000000) (hrow : Row 0 (pre x high)) (m : Nat) (hm : m ≤ (pre x high).length) : ((upto x (ends x (pre x high).length) m).length : Int) = sumSz (x.take m) ∧ ∀ (i : Nat) (r : S37), (upto x (ends x (pre x high).length) m)[i]? = some r → r.f0 = i ∧ r.f1 = 0 := by
  have hpl := pre_len x high
  induction m with
  | zero => exact ⟨by simp [upto, sumSz], fun i r h => by simp [upto] at h⟩
  | succ m ih =>
    have hml : m < x.length := by omega
    obtain ⟨ih1, ih2⟩ := ih (by omega)
    have hx : x[m]? = some x[m] := List.getElem?_eq_getElem _
    obtain ⟨h2, h5, h6⟩ := hp x[m] (List.getElem_mem _)
    have hes : (ends x (pre x high).length).getD m false = true := by rw [ends_plain_get hp _ _ hpl hml]; exact decide_eq_true (by omega)
    obtain ⟨hr1, hr2⟩ := row_at x high hrow m (by omega) hml
    have hle := pre_get x high (i := m) (by omega) hml
    have hsz : szOf x[m] = (x[m].f8.length : Int) := by unfold szOf; rw [h6]; rfl
    have hnn := sumSz_nonneg (x.take m)
    have hsucc := sumSz_succ x m hml
    rw [upto_yes hx hes]
    refine ⟨?_, fun i r hr => ?_⟩
    · rw [List.length_append, hsucc, hsz]
      simp [recs]
      exact ih1
    · rcases Nat.lt_or_ge i (upto x (ends x (pre x high).length) m).length with hi | hi
      · rw [List.getElem?_append_left hi] at hr
        exact ih2 i r hr
      · rw [List.getElem?_append_right hi] at hr
        simp only [recs, List.getElem?_map] at hr
        have hlt : i - (upto x (ends x (pre x high).length) m).length < x[m].f8.length := by
          rcases Nat.lt_or_ge (i - (upto x (ends x (pre x high).length) m).length) x[m].f8.length with h | h
          · exact h
          · rw [List.getElem?_eq_none (by simpa using h)] at hr; simp at hr
        rw [List.getElem?_range hlt] at hr
        simp only [Option.map_some, Option.some.injEq] at hr
        subst hr
        refine ⟨?_, h2⟩
        show wrap64 (x[m].f0 + ((i - (upto x (ends x (pre x high).length) m).length : Nat) : Int)) = i
        rw [hr1, wrap_in (by omega) (by omega)]
        omega

include hp in
theorem comm_plain (h0 : 0 ≤ high) (hh : high ≤ 1000000) (hrow : Row 0 (pre x high)) : ((commF x high).length : Int) = sumSz (pre x high) ∧ ∀ (i : Nat) (r : S37), (commF x high)[i]? = some r → r.f0 = i ∧ r.f1 = 0 := by
  have hpl := pre_len x high
  have key : ∀ d, (pre x high).length + d ≤ x.length → upto x (ends x (pre x high).length) ((pre x high).length + d) = upto x (ends x (pre x high).length) (pre x high).length := by
    intro d
    induction d with
    | zero => intro _; rfl
    | succ d ih =>
      intro hd
      rw [← ih (by omega)]
      have hlt : (pre x high).length + d < x.length := by omega
      refine upto_no (List.getElem?_eq_getElem hlt) ?_
      exact (ends_plain_get hp _ _ hpl hlt).trans (decide_eq_false (by omega))
  have e : commF x high = upto x (ends x (pre x high).length) (pre x high).length := by
    unfold commF
    conv => lhs; rw [show x.length = (pre x high).length + (x.length - (pre x high).length) by omega]
    exact key _ (by omega)
  rw [e]
  have := upto_plain hp h0 hh hrow (pre x high).length (Nat.le_refl _)
  rwa [← pre_eq_take] at this

include hp in
theorem stab_plain (hrow : Row 0 (pre x high)) : stabF (pre x high) = sumSz (pre x high) := by
  have hnone : ∀ (bs : List S41), (∀ b ∈ bs, b.f5 = false ∧ b.f6 = false) → ∀ p, opens bs p = none := by
    intro bs
    refine snoc_rec (P := fun bs => (∀ b ∈ bs, b.f5 = false ∧ b.f6 = false) → ∀ p, opens bs p = none) ?_ ?_ bs
    · intro _ _; rfl
    · intro bs b ih h p
      obtain ⟨h5, h6⟩ := h b (by simp)
      rw [opens_snoc, ih (fun c hc => h c (List.mem_append_left _ hc)) p]
      unfold opn
      rw [h5, h6]
      simp
  have hpre : ∀ b ∈ pre x high, b.f5 = false ∧ b.f6 = false := fun b hb => by
    rw [pre_eq_take] at hb
    exact (hp b (List.mem_of_mem_take hb)).2
  have he := row_end _ 0 hrow
  refine stab_unique (stabF_is _) ⟨?_, fun p a ha => ?_, .inl ?_⟩
  · omega
  · rw [hnone _ hpre p] at ha; cases ha
  · omega
end
end Go.Proofs.Ytnbdlkjphdfkpaa

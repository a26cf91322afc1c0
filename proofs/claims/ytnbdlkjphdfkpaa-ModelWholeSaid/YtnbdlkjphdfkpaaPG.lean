/- ModelGrows, plain: the function answers true. Conditions: what came in is of a size that fits memory, and of its kinds. -/
import Derived.Test.YtnbdlkjphdfkpaaP2
import Derived.Test.YtnbdlkjphdfkpaaHGr
namespace Go.Proofs.Ytnbdlkjphdfkpaa
open Go Go.RowKit H Go.Proofs.YtnbdlkjphdfkpaaW.PrintWords Go.Proofs.YtnbdlkjphdfkpaaW.PrintMore

theorem rdT37_at {l : List S37} {i : Nat} (h : i < l.length) : rd_T37 l (i : Int) = l[i] := by simp [rd_T37, List.getD_eq_getElem?_getD, h]

theorem filter_step {α : Type} (q : α → Bool) (t : List α) (i : Nat) (h : i < t.length) : (t.take (i + 1)).filter q = (t.take i).filter q ++ if q t[i] = true then [t[i]] else [] := by
  rw [List.take_succ_eq_append_getElem h, List.filter_append]
  congr 1
  by_cases hq : q t[i] = true <;> simp [hq]

theorem filter_len {α : Type} (q : α → Bool) (t : List α) (i : Nat) : ((t.take i).filter q).length ≤ t.length := Nat.le_trans (List.length_filter_le _ _) (by rw [List.length_take]; omega)

theorem comm_ev (x : List S41) (high : Int) (h72 : x.length * 72 ≤ 140737488355328) (hwf : wfAll x = true) (hc : (commF x high).length * 32 ≤ 140737488355328) (k : Nat) : model_Committed.f k x high = some (commF x high) := if_pos ⟨h72, hwf, hc⟩
theorem stab_ev (x : List S41) (high : Int) (h72 : x.length * 72 ≤ 140737488355328) (hwf : wfAll x = true) (k : Nat) : model_Stable.f k x high = some (stabF (pre x high)) := if_pos ⟨by unfold maxLen; omega, hwf⟩

theorem grows_l2 (p : List S37) (hn : p.length ≤ 1000000) (d : Nat) : ∀ i : Nat, i + d = p.length → Ev (fun k => penstocklaw21_ModelGrows.l2 k p p p.length i) true := by
  induction d with
  | zero =>
    intro i hi
    refine Ev.step (f := fun _ => some true) (fun k => ?_) (Ev.now _)
    simp only [penstocklaw21_ModelGrows.l2]
    rw [if_neg (by omega)]
  | succ d ih =>
    intro i hi
    refine Ev.step (fun k => ?_) (ih (i + 1) (by omega))
    simp only [penstocklaw21_ModelGrows.l2]
    rw [if_pos (by omega), if_pos (by omega), if_pos (by omega), if_pos (by omega), if_neg (by simp), wrap_next (n := p.length) (by omega) (by omega)]

theorem grows_l1 (s : Int) (p t : List S37) (hp : p = t.filter fun r => decide (r.f0 < s)) (hn : t.length ≤ 1000000) (d : Nat) : ∀ i : Nat, i + d = t.length →
    Ev (fun k => penstocklaw21_ModelGrows.l1 k s p ((t.take i).filter fun r => decide (r.f0 < s)) t t.length i) true := by
  induction d with
  | zero =>
    intro i hi
    refine Ev.step (fun k => ?_) (grows_l2 p (by rw [hp]; exact Nat.le_trans (List.length_filter_le _ _) hn) p.length 0 (by omega))
    simp only [penstocklaw21_ModelGrows.l1]
    rw [if_neg (by omega), List.take_of_length_le (by omega), ← hp, if_pos rfl]
    rfl
  | succ d ih =>
    intro i hi
    have hlt : i < t.length := by omega
    refine Ev.step (fun k => ?_) (ih (i + 1) (by omega))
    simp only [penstocklaw21_ModelGrows.l1]
    rw [if_pos (by omega), if_pos (by omega), if_pos (by omega), rdT37_at hlt, wrap_next hlt (by omega), filter_step _ _ _ hlt]
    by_cases hq : t[i].f0 < s
    · rw [if_pos hq, if_pos (by have := filter_len (fun r : S37 => decide (r.f0 < s)) t i; omega), if_pos (by simpa using hq)]
    · rw [if_neg hq, if_neg (by simpa using hq), List.append_nil]

theorem grows_l0 (x : List S41) (hi s : Int) (h72 : x.length * 72 ≤ 140737488355328) (hwf : wfAll x = true) (hc : (commF x hi).length ≤ 1000000) (t : List S37) (hp : t.filter (fun r => decide (r.f0 < s)) = (commF x hi).filter fun r => decide (r.f0 < s))
    (hn : t.length ≤ 1000000) (d : Nat) : ∀ i : Nat, i + d = t.length → Ev (fun k => penstocklaw21_ModelGrows.l0 k x hi s ((t.take i).filter fun r => decide (r.f0 < s)) t t.length i) true := by
  induction d with
  | zero =>
    intro i hi'
    have h1 := grows_l1 s _ (commF x hi) hp hc (commF x hi).length 0 (by omega)
    rw [List.take_zero] at h1
    refine Ev.step (fun k => ?_) h1
    simp only [penstocklaw21_ModelGrows.l0]
    rw [if_neg (by omega), comm_ev x hi h72 hwf (by omega), List.take_of_length_le (by omega)]
    rfl
  | succ d ih =>
    intro i hi'
    have hlt : i < t.length := by omega
    refine Ev.step (fun k => ?_) (ih (i + 1) (by omega))
    simp only [penstocklaw21_ModelGrows.l0]
    rw [if_pos (by omega), if_pos (by omega), if_pos (by omega), rdT37_at hlt, wrap_next hlt (by omega), filter_step _ _ _ hlt]
    by_cases hq : t[i].f0 < s
    · rw [if_pos hq, if_pos (by have := filter_len (fun r : S37 => decide (r.f0 < s)) t i; omega), if_pos (by simpa using hq)]
    · rw [if_neg hq, if_neg (by simpa using hq), List.append_nil]

theorem log_fits (l : List S41) (h : ∀ b ∈ l, Fits b) : ∀ at_, ∀ b ∈ logF at_ l, b.f8.length ≤ 5864062014805 := by
  induction l with
  | nil => intro _ b hb; cases hb
  | cons c l ih =>
    intro at_ b hb
    rcases List.mem_cons.1 hb with rfl | hb
    · have := (h c List.mem_cons_self).1
      show c.f8.length ≤ _
      omega
    · exact ih (fun b hb => h b (List.mem_cons_of_mem _ hb)) _ b hb

theorem grows_true (l : List S41) (a b : Int) (hf : FitsAll l) (hwf : wfAll l = true) (ha : 0 ≤ a ∧ a ≤ 65535) (hb : 0 ≤ b ∧ b ≤ 65535) : ∃ k, penstocklaw21_ModelGrows.f k l a b = some true := by
  have ma : wrap64 (Int.tmod a 400) = a % 400 := by rw [Int.tmod_eq_emod_of_nonneg ha.1]; exact wrap_in (by omega) (by omega)
  have mb : wrap64 (Int.tmod b 400) = b % 400 := by rw [Int.tmod_eq_emod_of_nonneg hb.1]; exact wrap_in (by omega) (by omega)
  obtain ⟨lo, hlo⟩ : ∃ n, n = mn (a % 400) (b % 400) := ⟨_, rfl⟩
  obtain ⟨hi, hhi⟩ : ∃ n, n = mx (a % 400) (b % 400) := ⟨_, rfl⟩
  have h0 : 0 ≤ lo ∧ lo ≤ hi ∧ hi ≤ 399 := by rw [hlo, hhi]; unfold mn mx; split <;> split <;> omega
  obtain ⟨x, hx⟩ : ∃ x, x = logF 0 l := ⟨_, rfl⟩
  have hx72 : x.length * 72 ≤ 140737488355328 := by rw [hx, log_len]; exact hf.1
  have hxwf : wfAll x = true := by rw [hx]; exact log_wf l 0 (by decide) hwf
  have hrow : Row 0 (pre x hi) := by rw [hx]; exact row_pre l hi (by omega) 0 (by omega) (by omega) hf.2
  have hrow' : Row 0 (pre x lo) := by rw [hx]; exact row_pre l lo (by omega) 0 (by omega) (by omega) hf.2
  have hfx : ∀ b ∈ x, b.f8.length ≤ 5864062014805 := by rw [hx]; exact log_fits l hf.2 0
  have hst := stab_grows x h0.2.1 hrow
  have hsl := stab_le_high x h0.1
  have hc1 := comm_len x h0.1 hrow'
  have hc2 := comm_len x (by omega : 0 ≤ hi) hrow
  have hj : Ev (fun k => penstocklaw21_ModelGrows.j0 k x lo hi (stabF (pre x lo)) false) true := by
    have := grows_l0 x hi (stabF (pre x lo)) hx72 hxwf (by omega) (commF x lo) (comm_stays x h0.2.1 (by omega) hrow hfx) (by omega) (commF x lo).length 0 (by omega)
    rw [List.take_zero] at this
    refine Ev.step (fun k => ?_) this
    simp only [penstocklaw21_ModelGrows.j0]
    rw [if_neg (by simp), comm_ev x lo hx72 hxwf (by omega)]
    rfl
  obtain ⟨K1, h1⟩ := log_ev l hf
  obtain ⟨K2, h2⟩ := hj
  refine ⟨max K1 K2, ?_⟩
  unfold penstocklaw21_ModelGrows.f
  rw [show penstocklaw21_log.f (max K1 K2) l = some (logF 0 l) from h1 _ (Nat.le_max_left _ _), Option.bind_some, ← hx, ma, mb, ← hlo, ← hhi]
  simp only [penstocklaw21_awake.f, Option.bind_some, if_true]
  rw [stab_ev x lo hx72 hxwf, stab_ev x hi hx72 hxwf]
  simp only [Option.bind_some]
  rw [if_neg (by omega), decide_eq_false (by omega)]
  exact h2 _ (Nat.le_max_right _ _)
end Go.Proofs.Ytnbdlkjphdfkpaa

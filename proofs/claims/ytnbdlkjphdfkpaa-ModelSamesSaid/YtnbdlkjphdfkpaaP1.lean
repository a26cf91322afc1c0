/- The printed functions copied and log, plain: what they answer. No conditions. -/
import Derived.Test.YtnbdlkjphdfkpaaHC
import Derived.Test.YtnbdlkjphdfkpaaH2
namespace Go.Proofs.Ytnbdlkjphdfkpaa
open Go Go.RowKit H Go.Proofs.YtnbdlkjphdfkpaaW.PrintWords

/-- What a batch that came in may weigh. -/
def Fits (b : S41) : Prop := b.f8.length * 24 ≤ 140737488355328 ∧ ∀ v ∈ b.f8, v.length < 140737488355328
/-- What batches that came in may weigh. -/
def FitsAll (l : List S41) : Prop := l.length * 72 ≤ 140737488355328 ∧ ∀ b ∈ l, Fits b

theorem wrap_in {n : Int} (h0 : -9223372036854775808 ≤ n) (h1 : n < 9223372036854775808) : wrap64 n = n := by unfold wrap64; omega
theorem wrap_next {i n : Nat} (h : i < n) (hn : n ≤ 9223372036854775807) : wrap64 ((i : Int) + 1) = ((i + 1 : Nat) : Int) := by unfold wrap64; omega

theorem rdL1_at {vs : List (List Int)} {i : Nat} (h : i < vs.length) : rd_L1 vs (i : Int) = vs[i] := by simp [rd_L1, List.getD_eq_getElem?_getD, h]
theorem rdT41_at {l : List S41} {i : Nat} (h : i < l.length) : rd_T41 l (i : Int) = l[i] := by simp [rd_T41, List.getD_eq_getElem?_getD, h]

theorem copy_loop (b : S41) (hf : Fits b) (d : Nat) : ∀ i : Nat, i + d = b.f8.length →
    Ev (fun k => penstockref07_Copy.l0 k (b.f8.take i) i b.f0 b.f1 b.f2 b.f3 b.f4 b.f5 b.f6 b.f7 b.f8) (b.f0, b.f1, b.f2, b.f3, b.f4, b.f5, b.f6, b.f7, b.f8) := by
  induction d with
  | zero =>
    intro i hi
    refine Ev.step (f := fun _ => some (b.f0, b.f1, b.f2, b.f3, b.f4, b.f5, b.f6, b.f7, b.f8)) (fun k => ?_) (Ev.now _)
    simp only [penstockref07_Copy.l0]
    rw [if_neg (by omega), List.take_of_length_le (by omega)]
  | succ d ih =>
    intro i hi
    have hlt : i < b.f8.length := by omega
    refine Ev.step (fun k => ?_) (ih (i + 1) (by omega))
    simp only [penstockref07_Copy.l0]
    rw [if_pos (by omega), if_pos (by omega), rdL1_at hlt, if_pos (by have := hf.2 _ (List.getElem_mem hlt); simpa using this), if_pos (by have := hf.1; rw [List.length_take]; omega), wrap_next hlt (by have := hf.1; omega)]
    rw [List.nil_append, List.take_succ_eq_append_getElem hlt]

theorem copy_ev (b : S41) (hf : Fits b) : Ev (fun k => penstockref07_Copy.f k b.f0 b.f1 b.f2 b.f3 b.f4 b.f5 b.f6 b.f7 b.f8) (b.f0, b.f1, b.f2, b.f3, b.f4, b.f5, b.f6, b.f7, b.f8) :=
  Ev.congr (fun k => by unfold penstockref07_Copy.f; rw [List.take_zero]; rfl) (copy_loop b hf b.f8.length 0 (by omega))

theorem copied_loop (l : List S41) (hf : FitsAll l) (d : Nat) : ∀ i : Nat, i + d = l.length → Ev (fun k => penstocklaw21_copied.l0 k (l.take i) l l.length i) l := by
  induction d with
  | zero =>
    intro i hi
    refine Ev.step (f := fun _ => some l) (fun k => ?_) (Ev.now _)
    simp only [penstocklaw21_copied.l0]
    rw [if_neg (by omega), List.take_of_length_le (by omega)]
  | succ d ih =>
    intro i hi
    have hlt : i < l.length := by omega
    have hb := hf.2 _ (List.getElem_mem hlt)
    refine Ev.step (f := fun k => (penstockref07_Copy.f k l[i].f0 l[i].f1 l[i].f2 l[i].f3 l[i].f4 l[i].f5 l[i].f6 l[i].f7 l[i].f8).bind fun t => if (l.take i).length < 1954687338268 then penstocklaw21_copied.l0 k (l.take i ++ [(⟨t.1, t.2.1, t.2.2.1, t.2.2.2.1, t.2.2.2.2.1, t.2.2.2.2.2.1, t.2.2.2.2.2.2.1, t.2.2.2.2.2.2.2.1, t.2.2.2.2.2.2.2.2⟩ : S41)]) l l.length ((i + 1 : Nat) : Int) else none) (fun k => ?_) ?_
    · simp only [penstocklaw21_copied.l0]
      rw [if_pos (by omega), if_pos (by omega), if_pos (by omega), rdT41_at hlt, wrap_next hlt (by have := hf.1; omega)]
    · refine Ev.bind (copy_ev _ hb) ?_
      refine Ev.congr (fun k => ?_) (ih (i + 1) (by omega))
      dsimp only
      rw [if_pos (by have := hf.1; rw [List.length_take]; omega), List.take_succ_eq_append_getElem hlt]

theorem copied_ev (l : List S41) (hf : FitsAll l) : Ev (fun k => penstocklaw21_copied.f k l) l :=
  Ev.congr (fun k => by unfold penstocklaw21_copied.f; rw [List.take_zero]; rfl) (copied_loop l hf l.length 0 (by omega))

/-- A batch at another place. -/
def atB (b : S41) (at_ : Int) : S41 := ⟨at_, b.f1, b.f2, b.f3, b.f4, b.f5, b.f6, b.f7, b.f8⟩
/-- Batches one behind the other. -/
def logF (at_ : Int) : List S41 → List S41
  | [] => []
  | b :: bs => atB b at_ :: logF (wrap64 (at_ + szOf b)) bs

theorem size_f (b : S41) : penstockref07_Size.f b.f0 b.f1 b.f2 b.f3 b.f4 b.f5 b.f6 b.f7 b.f8 = some (szOf b) := by unfold penstockref07_Size.f szOf; split <;> rfl

theorem log_loop (bs : List S41) : ∀ (ps : List S41) (at_ : Int), ps.length + bs.length ≤ 9223372036854775807 →
    Ev (fun k => penstocklaw21_log.l0 k at_ (ps ++ bs) ((ps.length + bs.length : Nat) : Int) ps.length) (ps ++ logF at_ bs) := by
  induction bs with
  | nil =>
    intro ps at_ _
    refine Ev.step (f := fun _ => some (ps ++ logF at_ [])) (fun k => ?_) (Ev.now _)
    simp only [penstocklaw21_log.l0, List.length_nil]
    rw [if_neg (by omega)]
    rfl
  | cons b bs ih =>
    intro ps at_ hm
    have := ih (ps ++ [atB b at_]) (wrap64 (at_ + szOf b)) (by simp at hm ⊢; omega)
    rw [show ps ++ [atB b at_] ++ logF (wrap64 (at_ + szOf b)) bs = ps ++ logF at_ (b :: bs) by simp [logF]] at this
    refine Ev.step (fun k => ?_) this
    have hr : rd_T41 (ps ++ b :: bs) (ps.length : Int) = b := by simp [rd_T41, List.getD_eq_getElem?_getD]
    have hs : (ps ++ b :: bs).set ps.length (atB b at_) = ps ++ atB b at_ :: bs := by simp
    have hr' : rd_T41 (ps ++ atB b at_ :: bs) (ps.length : Int) = atB b at_ := by simp [rd_T41, List.getD_eq_getElem?_getD]
    simp only [penstocklaw21_log.l0]
    rw [if_pos (by simp; omega), if_pos (by omega), if_pos (by simp; omega), hr, Option.bind_some, Int.toNat_natCast]
    rw [show (⟨at_, b.f1, b.f2, b.f3, b.f4, b.f5, b.f6, b.f7, b.f8⟩ : S41) = atB b at_ from rfl, hs, hr', size_f, Option.bind_some]
    have h1 : wrap64 ((ps.length : Int) + 1) = ((ps ++ [atB b at_]).length : Int) := by rw [wrap_next (n := ps.length + 1) (by omega) (by simp at hm; omega)]; simp
    have h2 : ((ps.length + (b :: bs).length : Nat) : Int) = (((ps ++ [atB b at_]).length + bs.length : Nat) : Int) := by simp; omega
    rw [h1, h2, List.append_assoc]
    rfl

theorem log_ev (l : List S41) (hf : FitsAll l) : Ev (fun k => penstocklaw21_log.f k l) (logF 0 l) := by
  refine Ev.congr (f := fun k => (penstocklaw21_copied.f k l).bind fun t => penstocklaw21_log.l0 k 0 t (t.length : Int) 0) (fun k => rfl) (Ev.bind (copied_ev l hf) ?_)
  refine Ev.congr (fun k => ?_) (log_loop l [] 0 (by have := hf.1; simp; omega))
  simp

theorem log_len (l : List S41) : ∀ at_, (logF at_ l).length = l.length := by
  induction l with
  | nil => intro _; rfl
  | cons b l ih => intro at_; simp [logF, ih]

theorem wf_wrap (n : Int) : (Lit.int .i64 (wrap64 n)).wf = true := by
  have h : -9223372036854775808 ≤ wrap64 n ∧ wrap64 n < 9223372036854775808 := by unfold wrap64; omega
  have h1 : IntKind.i64.min = -9223372036854775808 := rfl
  have h2 : IntKind.i64.max = 9223372036854775807 := rfl
  simp only [Lit.wf, Bool.and_eq_true, decide_eq_true_eq, h1, h2]
  omega

theorem log_wf (l : List S41) : ∀ at_, (Lit.int .i64 at_).wf = true → wfAll l = true → wfAll (logF at_ l) = true := by
  induction l with
  | nil => intro _ _ _; rfl
  | cons b l ih =>
    intro at_ ha h
    simp only [wfAll, List.all_cons, Bool.and_eq_true] at h
    simp only [logF, wfAll, List.all_cons, Bool.and_eq_true]
    exact ⟨⟨h.1.1, ha⟩, ih _ (wf_wrap _) (by simpa [wfAll] using h.2)⟩
end Go.Proofs.Ytnbdlkjphdfkpaa

/- ModelStables: the call returns true and leaves all old blocks as they were. Conditions: what came in reads, fits memory, and is of its kinds. -/
import Derived.Test.YtnbdlkjphdfkpaaP4
namespace Go.Proofs.Ytnbdlkjphdfkpaa
open Go Go.RowKit H Go.Proofs.YtnbdlkjphdfkpaaW.PrintWords Go.Proofs.YtnbdlkjphdfkpaaW.PrintMore

theorem log_fitsAll (l : List S41) (h : FitsAll l) (at_ : Int) : FitsAll (logF at_ l) := by
  refine ⟨by rw [log_len]; exact h.1, ?_⟩
  have h2 := h.2
  clear h
  revert at_
  induction l with
  | nil => intro _ b hb; cases hb
  | cons c l ih =>
    intro at_ b hb
    rcases List.mem_cons.1 hb with rfl | hb
    · exact h2 c List.mem_cons_self
    · exact ih (fun b hb => h2 b (List.mem_cons_of_mem _ hb)) _ b hb

theorem stables_round (high : Int) (xs : List (List S41)) (i : Nat) (hi : i < xs.length) (hn : xs.length ≤ 1000) (hf : FitsAll xs[i]) (hwf : wfAll xs[i] = true)
    (hnext : Ev (fun k => penstocklaw21_ModelStables.l0 k high xs xs.length ((i + 1 : Nat) : Int)) true) : Ev (fun k => penstocklaw21_ModelStables.l0 k high xs xs.length i) true := by
  have hrd : rd_L9 xs (i : Int) = xs[i] := by simp [rd_L9, List.getD_eq_getElem?_getD, hi]
  refine ev_via (copied_ev _ hf) (f := fun k => (penstockref21_Stable.f k xs[i] high).bind fun t => if stabF (pre xs[i] high) = t then ((penstockref07_SameList.f k xs[i] xs[i]).bind fun t => if t = true then penstocklaw21_ModelStables.l0 k high xs xs.length ((i + 1 : Nat) : Int) else some false) else some false) ?_ (fun k hk => ?_)
  · refine Ev.bind (ref_stable_ev _ high hf.1) ?_
    refine Ev.congr (fun k => if_pos rfl) ?_
    exact Ev.bind (sameList_ev _ hf) (Ev.congr (fun k => if_pos rfl) hnext)
  · simp only [penstocklaw21_ModelStables.l0]
    rw [if_pos (by omega), if_pos (by omega), if_pos (by omega), hrd, hk, Option.bind_some, show model_Stable.f k xs[i] high = some (stabF (pre xs[i] high)) from if_pos ⟨by have := hf.1; unfold maxLen; omega, hwf⟩, Option.bind_some, wrap_next hi (by omega)]

theorem stables_true (l : List S41) (high : Int) (hf : FitsAll l) (hwf : wfAll l = true) : ∃ k, penstocklaw21_ModelStables.f k l high = some true := by
  have h2 : Ev (fun k => penstocklaw21_ModelStables.l0 k high [l, logF 0 l] 2 2) true := by
    refine Ev.step (f := fun _ => some true) (fun k => ?_) (Ev.now _)
    simp only [penstocklaw21_ModelStables.l0]
    rw [if_neg (by decide)]
  have h1 := stables_round high [l, logF 0 l] 1 (by simp) (by simp) (log_fitsAll l hf 0) (log_wf l 0 (by decide) hwf) h2
  have h0 := stables_round high [l, logF 0 l] 0 (by simp) (by simp) hf hwf h1
  refine Ev.rounds (Ev.congr (f := fun k => (penstocklaw21_copied.f k l).bind fun t199 => (penstocklaw21_log.f k l).bind fun t202 => penstocklaw21_ModelStables.l0 k high [t199, t202] 2 0) (fun k => ?_) (Ev.bind (copied_ev l hf) (Ev.bind (log_ev l hf) h0)))
  unfold penstocklaw21_ModelStables.f penstocklaw21_awake.f
  rfl

theorem stables_calls {w0 : World} (A : Option Addr) (c : Nat) (l : List S41) (hl : l.length ≤ c) (hC : Kd.C k41 w0 A l.length l) (hf : FitsAll l) (hwf : wfAll l = true) (high : Int) (_wh : (Lit.int .i64 high).wf = true) :
    Calls Try.prog 4 #[.slice A l.length c, .int .i64 high] w0 fun e w' => e = .returned (.bool true) ∧ Below w0.heap.size w0 w' := by
  obtain ⟨k, hk⟩ := stables_true l high hf hwf
  exact penstocklaw21_ModelStables.calls k A c l high true w0 hC hl hk
end Go.Proofs.Ytnbdlkjphdfkpaa

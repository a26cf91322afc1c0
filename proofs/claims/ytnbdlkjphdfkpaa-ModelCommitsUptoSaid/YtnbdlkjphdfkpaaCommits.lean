/- ModelCommits: the call returns true and leaves all old blocks as they were. Conditions: what came in reads, fits memory, is of its kinds, and bears 1048576 values at most. -/
import Derived.Test.YtnbdlkjphdfkpaaHCm
namespace Go.Proofs.Ytnbdlkjphdfkpaa
open Go Go.RowKit H Go.Proofs.YtnbdlkjphdfkpaaW.PrintWords Go.Proofs.YtnbdlkjphdfkpaaW.PrintMore

def valsOf (l : List S41) : Nat := (l.map (·.f8.length)).sum

theorem upto_vals (l : List S41) (es : List Bool) (m : Nat) : (upto l es m).length ≤ valsOf (l.take m) := by
  induction m with
  | zero => simp [upto, valsOf]
  | succ m ih =>
    unfold upto
    split
    · rename_i b hb
      rw [List.take_add_one, hb, List.length_append]
      have e : valsOf (l.take m ++ (some b).toList) = valsOf (l.take m) + b.f8.length := by simp [valsOf]
      rw [e]
      split
      · simp [recs]; exact ih
      · simp; omega
    · rename_i hb
      rw [List.take_add_one, hb]
      simpa using ih

theorem comm_vals (l : List S41) (high : Int) : (commF l high).length ≤ valsOf l := by
  have := upto_vals l (ends l (pre l high).length) l.length
  rwa [List.take_length] at this

theorem log_vals (l : List S41) : ∀ at_, valsOf (logF at_ l) = valsOf l := by
  induction l with
  | nil => intro _; rfl
  | cons b l ih =>
    intro at_
    have := ih (wrap64 (at_ + szOf b))
    simp only [logF, valsOf, List.map_cons, List.sum_cons] at this ⊢
    rw [this]
    rfl

theorem commits_round (high : Int) (xs : List (List S41)) (i : Nat) (hi : i < xs.length) (hn : xs.length ≤ 1000) (hf : FitsAll xs[i]) (hwf : wfAll xs[i] = true) (hv : valsOf xs[i] ≤ 1048576)
    (hnext : Ev (fun k => penstocklaw21_ModelCommits.l0 k high xs xs.length ((i + 1 : Nat) : Int)) true) : Ev (fun k => penstocklaw21_ModelCommits.l0 k high xs xs.length i) true := by
  have hrd : rd_L10 xs (i : Int) = xs[i] := by simp [rd_L10, List.getD_eq_getElem?_getD, hi]
  have hc := comm_vals xs[i] high
  refine ev_via (copied_ev _ hf) (f := fun k => (penstocklaw21_same.f k (commF xs[i] high) ((commF xs[i] high).map to49)).bind fun t => if t = true then ((penstockref07_SameList.f k xs[i] xs[i]).bind fun t => if t = true then penstocklaw21_ModelCommits.l0 k high xs xs.length ((i + 1 : Nat) : Int) else some false) else some false) ?_ (fun k hk => ?_)
  · refine Ev.bind (same_ev _ (by omega)) ?_
    refine Ev.congr (fun k => if_pos rfl) ?_
    exact Ev.bind (sameList_ev _ hf) (Ev.congr (fun k => if_pos rfl) hnext)
  · simp only [penstocklaw21_ModelCommits.l0]
    rw [if_pos (by omega), if_pos (by omega), if_pos (by omega), hrd, hk, Option.bind_some, comm_ev xs[i] high hf.1 hwf (by omega), Option.bind_some, show penstockref21_Committed.f k xs[i] high = some ((commF xs[i] high).map to49) from if_pos ⟨hf.1, by omega⟩, Option.bind_some, wrap_next hi (by omega)]

theorem commits_true (l : List S41) (high : Int) (hf : FitsAll l) (hwf : wfAll l = true) (hv : valsOf l ≤ 1048576) : ∃ k, penstocklaw21_ModelCommits.f k l high = some true := by
  have h2 : Ev (fun k => penstocklaw21_ModelCommits.l0 k high [l, logF 0 l] 2 2) true := by
    refine Ev.step (f := fun _ => some true) (fun k => ?_) (Ev.now _)
    simp only [penstocklaw21_ModelCommits.l0]
    rw [if_neg (by decide)]
  have h1 := commits_round high [l, logF 0 l] 1 (by simp) (by simp) (log_fitsAll l hf 0) (log_wf l 0 (by decide) hwf) (by show valsOf (logF 0 l) ≤ _; rw [log_vals]; exact hv) h2
  have h0 := commits_round high [l, logF 0 l] 0 (by simp) (by simp) hf hwf hv h1
  refine Ev.rounds (Ev.congr (f := fun k => (penstocklaw21_copied.f k l).bind fun t199 => (penstocklaw21_log.f k l).bind fun t202 => penstocklaw21_ModelCommits.l0 k high [t199, t202] 2 0) (fun k => ?_) (Ev.bind (copied_ev l hf) (Ev.bind (log_ev l hf) h0)))
  unfold penstocklaw21_ModelCommits.f penstocklaw21_awake.f
  rfl

theorem commits_calls {w0 : World} (A : Option Addr) (c : Nat) (l : List S41) (hl : l.length ≤ c) (hC : Kd.C k41 w0 A l.length l) (hf : FitsAll l) (hwf : wfAll l = true) (hv : (l.map (·.f8.length)).sum ≤ 1048576) (high : Int) :
    Calls Try.prog 3 #[.slice A l.length c, .int .i64 high] w0 fun e w' => e = .returned (.bool true) ∧ Below w0.heap.size w0 w' := by
  obtain ⟨k, hk⟩ := commits_true l high hf hwf hv
  exact penstocklaw21_ModelCommits.calls k A c l high true w0 hC hl hk
end Go.Proofs.Ytnbdlkjphdfkpaa

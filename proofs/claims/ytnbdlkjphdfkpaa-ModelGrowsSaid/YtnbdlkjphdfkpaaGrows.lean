/- ModelGrows: the call returns true and leaves all old blocks as they were. Conditions: what came in reads, fits memory, and is of its kinds. -/
import Derived.Test.YtnbdlkjphdfkpaaPG
namespace Go.Proofs.Ytnbdlkjphdfkpaa
open Go Go.RowKit H Go.Proofs.YtnbdlkjphdfkpaaW.PrintWords

theorem wf_u16 {a : Int} (h : (Lit.int .u16 a).wf = true) : 0 ≤ a ∧ a ≤ 65535 := by
  have h1 : IntKind.u16.min = 0 := rfl
  have h2 : IntKind.u16.max = 65535 := rfl
  simp only [Lit.wf, Bool.and_eq_true, decide_eq_true_eq, h1, h2] at h
  omega

theorem grows_calls {w0 : World} (A : Option Addr) (c : Nat) (l : List S41) (hl : l.length ≤ c) (hC : Kd.C k41 w0 A l.length l) (hf : FitsAll l) (hwf : wfAll l = true) (a : Int) (ha : (Lit.int .u16 a).wf = true) (b : Int) (hb : (Lit.int .u16 b).wf = true) :
    Calls Try.prog 5 #[.slice A l.length c, .int .u16 a, .int .u16 b] w0 fun e w' => e = .returned (.bool true) ∧ Below w0.heap.size w0 w' := by
  obtain ⟨k, hk⟩ := grows_true l a b hf hwf (wf_u16 ha) (wf_u16 hb)
  exact penstocklaw21_ModelGrows.calls k A c l a b true w0 hC hl hk
end Go.Proofs.Ytnbdlkjphdfkpaa

/- ModelSames: the call returns true and leaves all old blocks as they were. Conditions: what came in reads, fits memory, and is of its kinds. -/
import Derived.Test.YtnbdlkjphdfkpaaP7
import Derived.Test.YtnbdlkjphdfkpaaOpen
namespace Go.Proofs.Ytnbdlkjphdfkpaa
open Go Go.RowKit Go.ChangeShapes Go.WideShapes Go.ChangeAt H Go.Proofs.YtnbdlkjphdfkpaaW.PrintWords

/-- A batch that came in, out of its reading. -/
theorem open_one {H : Type} {enc : TypeId × Value → H} {W : World} {sp : Nat → Bool} {held : Bool} {cs : Array Value} {d : DataW H} {ps : List MemPlace} {ts : List TypeId} {ds : List (DataW H)} {j : Nat}
    (hsz : (DataW.weightsEach Try.prog ts ds).all (· ≤ reachBytes) = true) (ht : ts[j]? = some 41) (hd : ds[j]? = some d) (hlen : cs.size = Try.prog.cellsOf 41) (h : DataW.Trod enc Try.prog W 0 sp held 41 (.agg cs) d ps) :
    ∃ (b : S41) (A : Option Addr) (c : Nat), cs = #[.int .i64 b.f0, .int .i64 b.f1, .int .u64 b.f2, .int .i64 b.f3, .int .i64 b.f4, .bool b.f5, .bool b.f6, .bool b.f7, .slice A b.f8.length c] ∧ b.f8.length ≤ c ∧ Kd.C (Kd.slice 5 (Kd.int .u8)) W A b.f8.length b.f8 ∧ Fits b := by
  obtain ⟨fuel, hf⟩ := h
  rw [cells41] at hlen
  obtain ⟨b, hK, hfit, _⟩ := open_batch (by rw [Array.length_toList]; exact hlen) hf (fun n hn => of_decide_eq_true (List.all_eq_true.1 hsz n (DataW.weights_mem_each ht hd n hn)))
  obtain ⟨A, c, he, hl, hC⟩ := k41_open hK
  exact ⟨b, A, c, by rw [← Array.toList_inj]; exact he, hl, hC, hfit⟩

theorem wf_u8 {a : Int} (h : (Lit.int .u8 a).wf = true) : 0 ≤ a ∧ a ≤ 255 := by
  have h1 : IntKind.u8.min = 0 := rfl
  have h2 : IntKind.u8.max = 255 := rfl
  simp only [Lit.wf, Bool.and_eq_true, decide_eq_true_eq, h1, h2] at h
  omega

theorem sames_calls {w0 : World} (a : S41) (A1 : Option Addr) (c1 : Nat) (hl1 : a.f8.length ≤ c1) (hC1 : Kd.C (Kd.slice 5 (Kd.int .u8)) w0 A1 a.f8.length a.f8) (hfa : Fits a)
    (b : S41) (A2 : Option Addr) (c2 : Nat) (hl2 : b.f8.length ≤ c2) (hC2 : Kd.C (Kd.slice 5 (Kd.int .u8)) w0 A2 b.f8.length b.f8) (hfb : Fits b)
    (A : Option Addr) (c : Nat) (l : List S41) (hl : l.length ≤ c) (hC : Kd.C k41 w0 A l.length l) (hf : FitsAll l) (_hwf : wfAll l = true) (at_ : Int) (ha : (Lit.int .u8 at_).wf = true) (high : Int) (_wh : (Lit.int .i64 high).wf = true) :
    Calls Try.prog 7 #[.agg #[.int .i64 a.f0, .int .i64 a.f1, .int .u64 a.f2, .int .i64 a.f3, .int .i64 a.f4, .bool a.f5, .bool a.f6, .bool a.f7, .slice A1 a.f8.length c1], .agg #[.int .i64 b.f0, .int .i64 b.f1, .int .u64 b.f2, .int .i64 b.f3, .int .i64 b.f4, .bool b.f5, .bool b.f6, .bool b.f7, .slice A2 b.f8.length c2], .slice A l.length c, .int .u8 at_, .int .i64 high] w0 fun e w' => e = .returned (.bool true) ∧ Below w0.heap.size w0 w' := by
  obtain ⟨k, hk⟩ := sames_true a b l at_ high hfa hfb hf (wf_u8 ha)
  exact penstocklaw21_ModelSames.calls k a.f0 a.f1 a.f2 a.f3 a.f4 a.f5 a.f6 a.f7 A1 c1 a.f8 b.f0 b.f1 b.f2 b.f3 b.f4 b.f5 b.f6 b.f7 A2 c2 b.f8 A c l at_ high true w0 hC1 hl1 hC2 hl2 hC hl hk
end Go.Proofs.Ytnbdlkjphdfkpaa

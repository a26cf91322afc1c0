/- Pairs that came in. No conditions. -/
import Derived.Test.YtalaghkpbdaonaaOpen
import Derived.OpenShut
namespace Go.Proofs.Ytalaghkpbdaonaa
open Go Go.RowKit Go.ChangeShapes Go.WideShapes Go.ChangeAt H Go.Proofs.YtalaghkpbdaonaaW.PrintWords

/-- Two numbers beside each other. -/
def k37 : Kd (Int × Int) := Kd.pair (Kd.int .i64) (Kd.int .i64)
def WfP (p : Int × Int) : Prop := (Lit.int .i64 p.1).wf = true ∧ (Lit.int .i64 p.2).wf = true
theorem cells37 : Try.prog.cellsOf 37 = 2 := by kernel_rfl
theorem bytes37 : Try.prog.bytesOf 37 = 16 := by kernel_rfl

section
variable {H : Type} {enc : TypeId × Value → H} {W : World} {sp : Nat → Bool} {held : Bool}

theorem open_pair {fuel : Nat} {cs : List Value} {D : DataW H} {Pl : List MemPlace} (hlen : cs.length = 2) (h : DataW.trod enc Try.prog W 0 sp held fuel 37 cs = some (D, Pl)) :
    ∃ x : Int × Int, k37.K W x cs ∧ WfP x := by
  obtain ⟨xs, m, _, _, _, hxs, hf⟩ := DataW.trod_array Try.underlying37 h
  match cs, hlen with
  | [u0, u1], _ =>
    have f0 := hf 0 (by omega)
    have f1 := hf 1 (by omega)
    rw [cells3] at f0 f1
    match xs, hxs with
    | [y0, y1], _ =>
      obtain ⟨a0, e0, _, g0⟩ := DataW.trod_int (x := y0) Try.underlying3 f0
      obtain ⟨a1, e1, _, g1⟩ := DataW.trod_int (x := y1) Try.underlying3 f1
      simp at e0 e1
      subst e0 e1
      exact ⟨(a0, a1), ⟨[.int .i64 a0], [.int .i64 a1], rfl, rfl, rfl⟩, g0, g1⟩

theorem open_pairs {A : Option Addr} {n c : Nat} {d : DataW H} {ps : List MemPlace} {ts : List TypeId} {ds : List (DataW H)} {j : Nat}
    (hsz : (DataW.weightsEach Try.prog ts ds).all (· ≤ reachBytes) = true) (ht : ts[j]? = some 36) (hd : ds[j]? = some d) (h : DataW.Trod enc Try.prog W 0 sp held 36 (.slice A n c) d ps) :
    ∃ l : List (Int × Int), n = l.length ∧ l.length ≤ c ∧ Kd.C k37 W A l.length l ∧ (∀ p ∈ l, WfP p) ∧ l.length ≤ 140737488355328 := by
  obtain ⟨fuel, hf⟩ := h
  obtain ⟨A', c', xs, he, hl, hC, hg, hw⟩ := open_sl k37 WfP Try.underlying36 cells37 (fun m cs D Pl hlen h _ => open_pair hlen h) hf
    (fun n hn => of_decide_eq_true (List.all_eq_true.1 hsz n (DataW.weights_mem_each ht hd n hn)))
  simp [Value.cells] at he
  obtain ⟨rfl, rfl, rfl⟩ := he
  rw [bytes37] at hw
  exact ⟨xs, rfl, hl, hC, hg, by unfold reachBytes at hw; omega⟩
end
end Go.Proofs.Ytalaghkpbdaonaa

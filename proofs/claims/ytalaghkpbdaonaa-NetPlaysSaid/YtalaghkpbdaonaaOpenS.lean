/- Packets that came in, their bodies strictly smaller. No conditions. -/
import Derived.Test.YtalaghkpbdaonaaOpen
namespace Go.Proofs.Ytalaghkpbdaonaa.Strict
open Go Go.RowKit Go.ChangeShapes Go.WideShapes Go.ChangeAt Go.Proofs.Ytalaghkpbdaonaa H Go.Proofs.YtalaghkpbdaonaaW.PrintWords

section
variable {H : Type} {enc : TypeId × Value → H} {W : World} {sp : Nat → Bool} {held : Bool}

/-- A packet's numbers are of their kinds, its body of a size that can be. -/
def Fine28 (b : S28) : Prop := (Lit.int .i64 b.f0).wf = true ∧ (Lit.int .i64 b.f1).wf = true ∧ b.f2.length < 140737488355328

/-- A row of bytes out of its reading. -/
theorem open_bytesS {fuel : Nat} {cs : List Value} {D : DataW H} {Pl : List MemPlace} (h : DataW.trod enc Try.prog W 0 sp held fuel 26 cs = some (D, Pl)) (hS : Small 26 D) :
    ∃ (A : Option Addr) (c : Nat) (xs : List Int), cs = [.slice A xs.length c] ∧ xs.length ≤ c ∧ (Kd.int .u8).C W A xs.length xs ∧ xs.length < 140737488355328 := by
  obtain ⟨A, c, xs, rfl, hl, hC, _, hw⟩ := open_sl (Kd.int .u8) (fun _ => True) Try.underlying26 cells5 (fun m cs D Pl _ h _ => by
    obtain ⟨n, rfl, _, _⟩ := DataW.trod_int Try.underlying5 h
    exact ⟨n, rfl, trivial⟩) h hS
  rw [bytes5] at hw
  exact ⟨A, c, xs, rfl, hl, hC, by unfold reachBytes at hw; omega⟩

/-- A packet out of its reading. -/
theorem open_packetS {fuel : Nat} {cs : List Value} {D : DataW H} {Pl : List MemPlace} (hlen : cs.length = 3) (h : DataW.trod enc Try.prog W 0 sp held fuel 28 cs = some (D, Pl)) (hS : Small 28 D) :
    ∃ x : S28, k28.K W x cs ∧ Fine28 x := by
  obtain ⟨xs, m, _, hx, _, hxs, hf⟩ := DataW.trod_struct Try.underlying28 h
  obtain ⟨rfl, _⟩ := Prod.mk.inj hx
  match cs, hlen with
  | [u0, u1, u2], _ =>
    have f0 : DataW.trod enc Try.prog W 0 sp held m 3 (([u0, u1, u2].drop 0).take (Try.prog.cellsOf 3)) = xs[0]? := hf 0 _ rfl
    have f1 : DataW.trod enc Try.prog W 0 sp held m 3 (([u0, u1, u2].drop 1).take (Try.prog.cellsOf 3)) = xs[1]? := hf 1 _ rfl
    have f2 : DataW.trod enc Try.prog W 0 sp held m 26 (([u0, u1, u2].drop 2).take (Try.prog.cellsOf 26)) = xs[2]? := hf 2 _ rfl
    rw [cells3] at f0 f1
    rw [cells26] at f2
    match xs, hxs with
    | [y0, y1, y2], _ =>
      obtain ⟨a0, e0, _, g0⟩ := DataW.trod_int Try.underlying3 f0
      obtain ⟨a1, e1, _, g1⟩ := DataW.trod_int Try.underlying3 f1
      have hS2 : Small 26 y2.1 := fun n hn => hS n (by
        simp only [DataW.weights, Try.underlying28]
        exact DataW.weights_mem_each (j := 2) rfl rfl n hn)
      obtain ⟨A, c, vs, e2, hl, hC, hg⟩ := open_bytesS (D := y2.1) (Pl := y2.2) f2 hS2
      simp at e0 e1 e2
      subst e0 e1 e2
      exact ⟨⟨a0, a1, vs⟩, k28_mk W ⟨a0, a1, vs⟩ hl hC, g0, g1, hg⟩

/-- A list of packets out of its reading. -/
theorem open_packets {A : Option Addr} {n c : Nat} {d : DataW H} {ps : List MemPlace} {ts : List TypeId} {ds : List (DataW H)} {j : Nat}
    (hsz : (DataW.weightsEach Try.prog ts ds).all (· ≤ reachBytes) = true) (ht : ts[j]? = some 22) (hd : ds[j]? = some d) (h : DataW.Trod enc Try.prog W 0 sp held 22 (.slice A n c) d ps) :
    ∃ l : List S28, n = l.length ∧ l.length ≤ c ∧ Kd.C k28 W A l.length l ∧ (∀ p ∈ l, Fine28 p) ∧ l.length ≤ 140737488355328 := by
  obtain ⟨fuel, hf⟩ := h
  obtain ⟨A', c', xs, he, hl, hC, hg, hw⟩ := open_sl k28 Fine28 Try.underlying22 cells28 (fun m cs D Pl hlen h hS => open_packetS hlen h hS) hf
    (fun n hn => of_decide_eq_true (List.all_eq_true.1 hsz n (DataW.weights_mem_each ht hd n hn)))
  simp [Value.cells] at he
  obtain ⟨rfl, rfl, rfl⟩ := he
  rw [bytes28] at hw
  exact ⟨xs, rfl, hl, hC, hg, by unfold reachBytes at hw; omega⟩

/-- A packet that came in. -/
theorem open_oneS {cs : Array Value} {d : DataW H} {ps : List MemPlace} {ts : List TypeId} {ds : List (DataW H)} {j : Nat}
    (hsz : (DataW.weightsEach Try.prog ts ds).all (· ≤ reachBytes) = true) (ht : ts[j]? = some 28) (hd : ds[j]? = some d) (hlen : cs.size = Try.prog.cellsOf 28) (h : DataW.Trod enc Try.prog W 0 sp held 28 (.agg cs) d ps) :
    ∃ (b : S28) (A : Option Addr) (c : Nat), cs = #[.int .i64 b.f0, .int .i64 b.f1, .slice A b.f2.length c] ∧ b.f2.length ≤ c ∧ Kd.C (Kd.int .u8) W A b.f2.length b.f2 ∧ Fine28 b := by
  obtain ⟨fuel, hf⟩ := h
  rw [cells28] at hlen
  obtain ⟨b, hK, hg⟩ := open_packetS (by rw [Array.length_toList]; exact hlen) hf (fun n hn => of_decide_eq_true (List.all_eq_true.1 hsz n (DataW.weights_mem_each ht hd n hn)))
  obtain ⟨A, c, he, hl, hC⟩ := k28_open hK
  exact ⟨b, A, c, by rw [← Array.toList_inj]; exact he, hl, hC, hg⟩
end
end Go.Proofs.Ytalaghkpbdaonaa.Strict

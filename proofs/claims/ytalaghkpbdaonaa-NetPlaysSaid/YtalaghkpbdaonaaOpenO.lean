/- Scripts that came in. No conditions. -/
import Derived.Test.YtalaghkpbdaonaaOpenS
import Derived.OpenShut
namespace Go.Proofs.Ytalaghkpbdaonaa
open Go Go.RowKit Go.ChangeShapes Go.WideShapes Go.ChangeAt H Go.Proofs.YtalaghkpbdaonaaW.PrintWords Strict

/-- One step of a script. -/
structure S49 where
  kd : Int
  i : Int
  j : Int
  p : S28
def z49 : S49 := ⟨0, 0, 0, z28⟩
instance : Inhabited S49 := ⟨z49⟩
def k49 : Kd S49 := Kd.iso (Kd.pair (Kd.int .i64) (Kd.pair (Kd.int .i64) (Kd.pair (Kd.int .i64) k28))) (fun x : S49 => (x.kd, x.i, x.j, x.p))
def Fine49 (b : S49) : Prop := (Lit.int .i64 b.kd).wf = true ∧ (Lit.int .i64 b.i).wf = true ∧ (Lit.int .i64 b.j).wf = true ∧ Fine28 b.p
theorem k49_mk (W : World) (x : S49) {c : List Value} (h : k28.K W x.p c) : k49.K W x (.int .i64 x.kd :: .int .i64 x.i :: .int .i64 x.j :: c) := ⟨[.int .i64 x.kd], _, rfl, rfl, [.int .i64 x.i], _, rfl, rfl, [.int .i64 x.j], c, rfl, rfl, h⟩
theorem cells49 : Try.prog.cellsOf 49 = 6 := by kernel_rfl
theorem bytes49 : Try.prog.bytesOf 49 = 64 := by kernel_rfl

def rd49 (l : List S49) (k : Nat) : S49 := l.getD k z49

theorem at_49 {w : World} {A : Option Addr} {n : Nat} {xs : List S49} (h : Kd.C k49 w A n xs) (k : Nat) (h1 : k < n) : ∃ ad A2 c2, A = some ad ∧ w.cell? (ad.add (k * 6)) = some (.int .i64 (rd49 xs k).kd) ∧ w.cell? ⟨(ad.add (k * 6)).block, (ad.add (k * 6)).off + 1, none⟩ = some (.int .i64 (rd49 xs k).i) ∧ w.cell? ⟨(ad.add (k * 6)).block, (ad.add (k * 6)).off + 2, none⟩ = some (.int .i64 (rd49 xs k).j) ∧
    w.cell? ⟨(ad.add (k * 6)).block, (ad.add (k * 6)).off + 3, none⟩ = some (.int .i64 (rd49 xs k).p.f0) ∧ w.cell? ⟨(ad.add (k * 6)).block, (ad.add (k * 6)).off + 4, none⟩ = some (.int .i64 (rd49 xs k).p.f1) ∧ w.cell? ⟨(ad.add (k * 6)).block, (ad.add (k * 6)).off + 5, none⟩ = some (.slice A2 (rd49 xs k).p.f2.length c2) ∧
    (rd49 xs k).p.f2.length ≤ c2 ∧ (Kd.int .u8).C w A2 (rd49 xs k).p.f2.length (rd49 xs k).p.f2 := by
  obtain ⟨ad, c, e, _, hK, hc0⟩ := Kd.C_get h z49 (k : Int) (by omega) (by omega)
  rw [Int.toNat_natCast] at hK hc0
  have hc : ∀ j u, c[j]? = some u → w.cell? (ad.add (k * 6 + j)) = some u := hc0
  obtain ⟨c0, c1, rfl, e0, c2, c3, rfl, e2, c4, c5, rfl, e4, hp⟩ := hK
  have e0 : c0 = [.int .i64 (rd49 xs k).kd] := e0
  have e2 : c2 = [.int .i64 (rd49 xs k).i] := e2
  have e4 : c4 = [.int .i64 (rd49 xs k).j] := e4
  have hp : k28.K w (rd49 xs k).p c5 := hp
  obtain ⟨A2, cc, rfl, l2, g2⟩ := k28_open hp
  subst e0 e2 e4
  exact ⟨ad, A2, cc, e, hc 0 _ rfl, by rw [← add_field _ _ 1 (by omega)]; exact hc 1 _ rfl, by rw [← add_field _ _ 2 (by omega)]; exact hc 2 _ rfl, by rw [← add_field _ _ 3 (by omega)]; exact hc 3 _ rfl, by rw [← add_field _ _ 4 (by omega)]; exact hc 4 _ rfl, by rw [← add_field _ _ 5 (by omega)]; exact hc 5 _ rfl, l2, g2⟩

section
variable {H : Type} {enc : TypeId × Value → H} {W : World} {sp : Nat → Bool} {held : Bool}

theorem open_op {fuel : Nat} {cs : List Value} {D : DataW H} {Pl : List MemPlace} (hlen : cs.length = 6) (h : DataW.trod enc Try.prog W 0 sp held fuel 49 cs = some (D, Pl)) (hS : Small 49 D) :
    ∃ x : S49, k49.K W x cs ∧ Fine49 x := by
  obtain ⟨xs, m, _, hx, _, hxs, hf⟩ := DataW.trod_struct Try.underlying49 h
  obtain ⟨rfl, _⟩ := Prod.mk.inj hx
  match cs, hlen with
  | [u0, u1, u2, u3, u4, u5], _ =>
    have f0 : DataW.trod enc Try.prog W 0 sp held m 3 (([u0, u1, u2, u3, u4, u5].drop 0).take (Try.prog.cellsOf 3)) = xs[0]? := hf 0 _ rfl
    have f1 : DataW.trod enc Try.prog W 0 sp held m 3 (([u0, u1, u2, u3, u4, u5].drop 1).take (Try.prog.cellsOf 3)) = xs[1]? := hf 1 _ rfl
    have f2 : DataW.trod enc Try.prog W 0 sp held m 3 (([u0, u1, u2, u3, u4, u5].drop 2).take (Try.prog.cellsOf 3)) = xs[2]? := hf 2 _ rfl
    have f3 : DataW.trod enc Try.prog W 0 sp held m 28 (([u0, u1, u2, u3, u4, u5].drop 3).take (Try.prog.cellsOf 28)) = xs[3]? := hf 3 _ rfl
    rw [cells3] at f0 f1 f2
    rw [cells28] at f3
    match xs, hxs with
    | [y0, y1, y2, y3], _ =>
      obtain ⟨a0, e0, _, g0⟩ := DataW.trod_int Try.underlying3 f0
      obtain ⟨a1, e1, _, g1⟩ := DataW.trod_int Try.underlying3 f1
      obtain ⟨a2, e2, _, g2⟩ := DataW.trod_int Try.underlying3 f2
      have hS3 : Small 28 y3.1 := fun n hn => hS n (by
        simp only [DataW.weights, Try.underlying49]
        exact DataW.weights_mem_each (j := 3) rfl rfl n hn)
      obtain ⟨x, hK, hg⟩ := open_packetS (D := y3.1) (Pl := y3.2) rfl f3 hS3
      simp at e0 e1 e2
      subst e0 e1 e2
      exact ⟨⟨a0, a1, a2, x⟩, k49_mk W ⟨a0, a1, a2, x⟩ hK, g0, g1, g2, hg⟩

/-- A script out of its reading. -/
theorem open_script {A : Option Addr} {n c : Nat} {d : DataW H} {ps : List MemPlace} {ts : List TypeId} {ds : List (DataW H)} {j : Nat}
    (hsz : (DataW.weightsEach Try.prog ts ds).all (· ≤ reachBytes) = true) (ht : ts[j]? = some 44) (hd : ds[j]? = some d) (h : DataW.Trod enc Try.prog W 0 sp held 44 (.slice A n c) d ps) :
    ∃ l : List S49, n = l.length ∧ l.length ≤ c ∧ Kd.C k49 W A l.length l ∧ (∀ p ∈ l, Fine49 p) ∧ l.length < 2199023255552 := by
  obtain ⟨fuel, hf⟩ := h
  obtain ⟨A', c', xs, he, hl, hC, hg, hw⟩ := open_sl k49 Fine49 Try.underlying44 cells49 (fun m cs D Pl hlen h hS => open_op hlen h hS) hf
    (fun n hn => of_decide_eq_true (List.all_eq_true.1 hsz n (DataW.weights_mem_each ht hd n hn)))
  simp [Value.cells] at he
  obtain ⟨rfl, rfl, rfl⟩ := he
  rw [bytes49] at hw
  exact ⟨xs, rfl, hl, hC, hg, by unfold reachBytes at hw; omega⟩
end
end Go.Proofs.Ytalaghkpbdaonaa

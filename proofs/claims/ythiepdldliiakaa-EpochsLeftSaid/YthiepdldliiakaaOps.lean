/- A script that came in: how it reads. No conditions. -/
import Derived.Test.YthiepdldliiakaaAwake
import Derived.Test.YthiepdldliiakaaEnd
import Derived.Deep.Slices
import Derived.SizedLaws
namespace Go.Proofs.Ythiepdldliiakaa
open Go Go.RowKit Go.ChangeShapes Go.WideShapes Go.ChangeAt

/-- A call in a script: its kind, its epoch, its offset. -/
structure OpD where
  kind : Int
  epoch : Int
  at_ : Int

/-- The cells of op x stand at address p. -/
structure OpAt (w : World) (p : Addr) (x : OpD) : Prop where
  c0 : w.cell? p = some (.int .i64 x.kind)
  c1 : w.cell? ⟨p.block, p.off + 1, none⟩ = some (.int .i64 x.epoch)
  c2 : w.cell? ⟨p.block, p.off + 2, none⟩ = some (.int .i64 x.at_)
  lt : p.block < w.heap.size
  b1 : x.epoch ≤ 9223372036854775807 ∧ x.at_ ≤ 9223372036854775807

/-- The slice at A holds the ops os. -/
def IsOps (w : World) (A : Option Addr) (os : List OpD) : Prop := ∀ (i : Nat) (x : OpD), os[i]? = some x → ∃ ad, A = some ad ∧ OpAt w (ad.add (i * 3)) x

theorem OpAt.below {w w' : World} {p : Addr} {x : OpD} (h : OpAt w p x) (hb : Below w.heap.size w w') : OpAt w' p x :=
  ⟨(hb.cell h.lt).trans h.c0, (hb.cell (p := ⟨p.block, p.off + 1, none⟩) h.lt).trans h.c1, (hb.cell (p := ⟨p.block, p.off + 2, none⟩) h.lt).trans h.c2, Nat.lt_of_lt_of_le h.lt hb.size, h.b1⟩

theorem IsOps.below {w w' : World} {A : Option Addr} {os : List OpD} (h : IsOps w A os) (hb : Below w.heap.size w w') : IsOps w' A os := fun i x hx => by
  obtain ⟨ad, e, ha⟩ := h i x hx
  exact ⟨ad, e, ha.below hb⟩

theorem add_off (p : Addr) (n : Nat) (h : n ≠ 0) : p.add n = ⟨p.block, p.off + n, none⟩ := by simp [Addr.add, h]

/-- A struct of three ints at an address, out of its reading. -/
theorem open_op {H : Type} {enc : TypeId × Value → H} {W : World} {sp : Nat → Bool} {held : Bool} {n : Nat} {p : Addr} {cs : List Value} {x : DataW H × List MemPlace}
    (hc : W.cells? 0 p 3 = some cs) (h : DataW.trod enc Try.prog W 0 sp held n 31 cs = some x) : ∃ o : OpD, OpAt W p o := by
  obtain ⟨xs, m, _, _, hl, hxs, hf⟩ := DataW.trod_struct Try.underlying31 h
  have hcs : ∃ u0 u1 u2, cs = [u0, u1, u2] ∧ W.cell? p = some u0 ∧ W.cell? ⟨p.block, p.off + 1, none⟩ = some u1 ∧ W.cell? ⟨p.block, p.off + 2, none⟩ = some u2 := by
    have e : List.range 3 = [0, 1, 2] := rfl
    simp only [World.cells?, Nat.zero_le, if_true, e, List.mapM_cons, List.mapM_nil, add_off p 1 (by decide), add_off p 2 (by decide), show p.add 0 = p from rfl] at hc
    cases h0 : W.cell? p with
    | none => simp [h0] at hc
    | some u0 =>
      cases h1 : W.cell? ⟨p.block, p.off + 1, none⟩ with
      | none => simp [h0, h1] at hc
      | some u1 =>
        cases h2 : W.cell? ⟨p.block, p.off + 2, none⟩ with
        | none => simp [h0, h1, h2] at hc
        | some u2 =>
          simp [h0, h1, h2] at hc
          exact ⟨u0, u1, u2, hc.symm, rfl, rfl, rfl⟩
  obtain ⟨u0, u1, u2, rfl, h0, h1, h2⟩ := hcs
  have k3 : Try.prog.cellsOf 3 = 1 := by kernel_rfl
  have f0 : DataW.trod enc Try.prog W 0 sp held m 3 (([u0, u1, u2].drop 0).take (Try.prog.cellsOf 3)) = xs[0]? := hf 0 _ rfl
  have f1 : DataW.trod enc Try.prog W 0 sp held m 3 (([u0, u1, u2].drop 1).take (Try.prog.cellsOf 3)) = xs[1]? := hf 1 _ rfl
  have f2 : DataW.trod enc Try.prog W 0 sp held m 3 (([u0, u1, u2].drop 2).take (Try.prog.cellsOf 3)) = xs[2]? := hf 2 _ rfl
  rw [k3] at f0 f1 f2
  match xs, hxs with
  | [y0, y1, y2], _ =>
    obtain ⟨a0, e0, _, _⟩ := DataW.trod_int Try.underlying3 f0
    obtain ⟨a1, e1, _, g1⟩ := DataW.trod_int Try.underlying3 f1
    obtain ⟨a2, e2, _, g2⟩ := DataW.trod_int Try.underlying3 f2
    simp at e0 e1 e2
    subst e0 e1 e2
    exact ⟨⟨a0, a1, a2⟩, h0, h1, h2, World.block_lt_of_cell? W p h0, (bounds_i64 g1).2, (bounds_i64 g2).2⟩

theorem open_ops {H : Type} {enc : TypeId × Value → H} {W : World} {held : Bool} {A : Option Addr} {n c : Nat} {d : DataW H} {ps : List MemPlace}
    (h : DataW.Trod enc Try.prog W 0 (fun _ => true) held 22 (.slice A n c) d ps) : ∃ os : List OpD, os.length = n ∧ n ≤ c ∧ IsOps W A os := by
  obtain ⟨fuel, hf⟩ := h
  rcases Go.Deep.open_slice Try.underlying22 hf with ⟨hcs, _⟩ | ⟨a, len, cap, m, k, D, Pl, hcs, hb, hl, hm, hmm, hx, hel⟩
  · simp [Value.cells] at hcs
    obtain ⟨rfl, rfl, rfl⟩ := hcs
    exact ⟨[], rfl, Nat.le_refl _, fun i x hx => by simp at hx⟩
  · simp [Value.cells] at hcs
    obtain ⟨rfl, rfl, rfl⟩ := hcs
    have k31 : Try.prog.cellsOf 31 = 3 := by kernel_rfl
    simp only [k31] at hel
    have hop : ∀ i, i < n → ∃ o : OpD, OpAt W (a.add (i * 3)) o := fun i hi => by
      obtain ⟨cs', h1, h2⟩ := hel i (by rw [hmm]; simp; omega)
      exact open_op h1 h2
    clear hel
    have hb : ∀ j, j ≤ n → ∃ os : List OpD, os.length = j ∧ IsOps W (some a) os := by
      intro j
      induction j with
      | zero => exact fun _ => ⟨[], rfl, fun i x hx => by simp at hx⟩
      | succ j ih =>
        intro hj
        obtain ⟨os, h1, h2⟩ := ih (by omega)
        obtain ⟨o, ho⟩ := hop j (by omega)
        refine ⟨os ++ [o], by simp [h1], fun i x hx => ?_⟩
        rcases Nat.lt_or_ge i os.length with hlt | hge
        · rw [List.getElem?_append_left hlt] at hx
          exact h2 i x hx
        · rw [List.getElem?_append_right hge] at hx
          have hi : i = j := by
            have := (List.getElem?_eq_some_iff.1 hx).1
            simp at this; omega
          subst hi
          rw [h1, Nat.sub_self] at hx
          simp at hx
          subst hx
          exact ⟨a, rfl, ho⟩
    obtain ⟨os, h1, h2⟩ := hb n (Nat.le_refl _)
    exact ⟨os, h1, hl, h2⟩

/-- How long a script may be. -/
theorem ops_len {H : Type} {enc : TypeId × Value → H} {W : World} {held : Bool} {A : Option Addr} {n c : Nat} {d : DataW H} {ps : List MemPlace} {ts : List TypeId} {ds : List (DataW H)} {j : Nat}
    (hsz : (DataW.weightsEach Try.prog ts ds).all (· ≤ reachBytes) = true) (ht : ts[j]? = some 22) (hd : ds[j]? = some d) (h : DataW.Trod enc Try.prog W 0 (fun _ => true) held 22 (.slice A n c) d ps) : n * 24 ≤ 140737488351232 := by
  obtain ⟨fuel, hf⟩ := h
  rcases Go.Deep.open_slice Try.underlying22 hf with ⟨hcs, _⟩ | ⟨a, len, cap, m, k, D, Pl, hcs, hb, hl, hm, hmm, hx, hel⟩
  · simp [Value.cells] at hcs
    obtain ⟨rfl, rfl, rfl⟩ := hcs
    simp
  · simp [Value.cells] at hcs
    obtain ⟨rfl, rfl, rfl⟩ := hcs
    obtain ⟨hx, _⟩ := Prod.mk.inj hx
    subst hx
    have z := sized_slice hsz ht hd Try.underlying22
    have kb : Try.prog.bytesOf 31 = 24 := by kernel_rfl
    rw [kb] at z
    simp only [List.length_map, List.length_range] at z
    have : n ≤ n + (m - n) := by omega
    exact Nat.le_trans (Nat.mul_le_mul_right 24 this) z
end Go.Proofs.Ythiepdldliiakaa

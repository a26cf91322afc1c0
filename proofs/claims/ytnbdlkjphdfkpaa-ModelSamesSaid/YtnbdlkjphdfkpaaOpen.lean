/- Batches that came in: how they read, and how large they are. No conditions. -/
import Derived.Test.YtnbdlkjphdfkpaaP1
import Derived.Test.YtnbdlkjphdfkpaaEnd
import Derived.Deep.Slices
import Derived.SizedLaws
namespace Go.Proofs.Ytnbdlkjphdfkpaa
open Go Go.RowKit Go.ChangeShapes Go.WideShapes Go.ChangeAt H Go.Proofs.YtnbdlkjphdfkpaaW.PrintWords

theorem weightsAll_in {H : Type} {P : Program} {e : TypeId} : ∀ {l : List (DataW H)} {d : DataW H}, d ∈ l → ∀ n ∈ d.weights P e, n ∈ DataW.weightsAll P e l
  | d' :: r, d, hd, n, hn => by
    simp only [DataW.weightsAll, List.mem_append]
    rcases List.mem_cons.1 hd with rfl | h
    · exact .inl hn
    · exact .inr (weightsAll_in h n hn)

/-- All that a reading weighs is within reach. -/
def Small {H : Type} (t : TypeId) (d : DataW H) : Prop := ∀ n ∈ d.weights Try.prog t, n ≤ reachBytes

section
variable {H : Type} {enc : TypeId × Value → H} {W : World} {sp : Nat → Bool} {held : Bool}

/-- A slice out of its reading, its elements read one by one. -/
theorem open_sl {α : Type} [Inhabited α] (d : Kd α) (Good : α → Prop) {t e : TypeId} (hu : Try.prog.underlying t = some (.slice e)) (hce : Try.prog.cellsOf e = d.sz)
    (helem : ∀ (m : Nat) (cs : List Value) (D : DataW H) (Pl : List MemPlace), cs.length = d.sz → DataW.trod enc Try.prog W 0 sp held m e cs = some (D, Pl) → Small e D → ∃ x, d.K W x cs ∧ Good x)
    {fuel : Nat} {cs : List Value} {D : DataW H} {Pl : List MemPlace} (h : DataW.trod enc Try.prog W 0 sp held fuel t cs = some (D, Pl)) (hS : Small t D) :
    ∃ (A : Option Addr) (c : Nat) (xs : List α), cs = [.slice A xs.length c] ∧ xs.length ≤ c ∧ d.C W A xs.length xs ∧ (∀ x ∈ xs, Good x) ∧ xs.length * Try.prog.bytesOf e ≤ reachBytes := by
  rcases Go.Deep.open_slice hu h with ⟨rfl, _⟩ | ⟨a, len, cap, m, k, Df, Plf, rfl, hb, hl, hm, hmm, hx, hel⟩
  · exact ⟨none, 0, [], rfl, Nat.le_refl _, ⟨rfl, Nat.zero_le _, fun h => absurd h (Nat.lt_irrefl 0)⟩, fun x hx => (by cases hx), (by rw [List.length_nil, Nat.zero_mul]; exact Nat.zero_le _)⟩
  · obtain ⟨hx, _⟩ := Prod.mk.inj hx
    subst hx
    have hlm : len ≤ m := by rw [hmm]; split <;> omega
    have hw : ((List.range len).map Df).length * Try.prog.bytesOf e ≤ reachBytes := by
      have := hS _ (show _ ∈ DataW.weights Try.prog t (.slice _ _) by simp only [DataW.weights, hu]; exact List.mem_cons_self)
      exact Nat.le_trans (Nat.mul_le_mul_right _ (by omega)) this
    rw [hce] at hel
    obtain ⟨V, hV⟩ := Go.Deep.choose_lt (α := α) (n := len) (p := fun i x => (∃ cs', cs'.length = d.sz ∧ d.K W x cs' ∧ ∀ j u, cs'[j]? = some u → W.cell? ((a.add (i * d.sz)).add j) = some u) ∧ Good x) (fun i hi => by
      obtain ⟨cs', h1, h2⟩ := hel i (by omega)
      obtain ⟨_, hlen, hcell⟩ := World.cells?_some h1
      obtain ⟨x, hx1, hx2⟩ := helem k cs' _ _ hlen h2 (fun n hn => hS n (by
        simp only [DataW.weights, hu, List.mem_cons, List.mem_append]
        exact .inr (.inl (weightsAll_in (List.mem_map.2 ⟨i, List.mem_range.2 hi, rfl⟩) n hn))))
      refine ⟨x, ⟨cs', hlen, hx1, fun j u hj => ?_⟩, hx2⟩
      have hjl : j < d.sz := by rw [← hlen]; exact (List.getElem?_eq_some_iff.1 hj).1
      rw [hcell j hjl, hj])
    have hlen : ((List.range len).map V).length = len := by simp
    refine ⟨some a, cap, (List.range len).map V, by rw [hlen], by rw [hlen]; exact hl, ?_, ?_, by simpa using hw⟩
    · refine ⟨rfl, by rw [hlen]; unfold maxLen at hm; omega, fun _ => ⟨a, rfl, fun j p hj => ?_⟩⟩
      have hjl : j < len := by have := (List.getElem?_eq_some_iff.1 hj).1; rwa [hlen] at this
      have hp : p = V j := by
        rw [List.getElem?_map, List.getElem?_range hjl] at hj
        exact (Option.some.inj hj).symm
      subst hp
      obtain ⟨⟨cs', h1, h2, h3⟩, _⟩ := hV j hjl
      exact ⟨cs', h1, h2, fun i u hu => by rw [← Go.Deep.add_add]; exact h3 i u hu⟩
    · intro x hx
      obtain ⟨i, hi, rfl⟩ := List.mem_map.1 hx
      exact (hV i (List.mem_range.1 hi)).2

theorem cells5 : Try.prog.cellsOf 5 = 1 := by kernel_rfl
theorem cells47 : Try.prog.cellsOf 47 = 1 := by kernel_rfl
theorem cells41 : Try.prog.cellsOf 41 = 9 := by kernel_rfl
theorem bytes5 : Try.prog.bytesOf 5 = 1 := by kernel_rfl
theorem bytes47 : Try.prog.bytesOf 47 = 24 := by kernel_rfl
theorem bytes41 : Try.prog.bytesOf 41 = 72 := by kernel_rfl
theorem cells3 : Try.prog.cellsOf 3 = 1 := by kernel_rfl
theorem cells35 : Try.prog.cellsOf 35 = 1 := by kernel_rfl
theorem cells4 : Try.prog.cellsOf 4 = 1 := by kernel_rfl
theorem cells39 : Try.prog.cellsOf 39 = 1 := by kernel_rfl

/-- A batch's numbers are of their kinds. -/
def WfB (b : S41) : Prop := ((Lit.int .u64 b.f2).wf && (Lit.int .i64 b.f0).wf) = true

instance : Inhabited S41 := ⟨z41⟩

/-- A row of bytes out of its reading. -/
theorem open_bytes {fuel : Nat} {cs : List Value} {D : DataW H} {Pl : List MemPlace} (h : DataW.trod enc Try.prog W 0 sp held fuel 47 cs = some (D, Pl)) (hS : Small 47 D) :
    ∃ x, (Kd.slice 5 (Kd.int .u8)).K W x cs ∧ x.length < 140737488355328 := by
  obtain ⟨A, c, xs, rfl, hl, hC, _, hw⟩ := open_sl (Kd.int .u8) (fun _ => True) Try.underlying47 cells5 (fun m cs D Pl _ h _ => by
    obtain ⟨n, rfl, _, _⟩ := DataW.trod_int Try.underlying5 h
    exact ⟨n, rfl, trivial⟩) h hS
  rw [bytes5] at hw
  exact ⟨xs, ⟨A, c, rfl, hl, hC⟩, by unfold reachBytes at hw; omega⟩

/-- A row of values out of its reading. -/
theorem open_vals {fuel : Nat} {cs : List Value} {D : DataW H} {Pl : List MemPlace} (h : DataW.trod enc Try.prog W 0 sp held fuel 39 cs = some (D, Pl)) (hS : Small 39 D) :
    ∃ (A : Option Addr) (c : Nat) (xs : List (List Int)), cs = [.slice A xs.length c] ∧ xs.length ≤ c ∧ (Kd.slice 5 (Kd.int .u8)).C W A xs.length xs ∧ (∀ v ∈ xs, v.length < 140737488355328) ∧ xs.length * 24 ≤ 140737488355328 := by
  obtain ⟨A, c, xs, rfl, hl, hC, hg, hw⟩ := open_sl (Kd.slice 5 (Kd.int .u8)) (fun v => v.length < 140737488355328) Try.underlying39 cells47 (fun m cs D Pl _ h hS => open_bytes h hS) h hS
  rw [bytes47] at hw
  exact ⟨A, c, xs, rfl, hl, hC, hg, by unfold reachBytes at hw; omega⟩

/-- A batch out of its reading. -/
theorem open_batch {fuel : Nat} {cs : List Value} {D : DataW H} {Pl : List MemPlace} (hlen : cs.length = 9) (h : DataW.trod enc Try.prog W 0 sp held fuel 41 cs = some (D, Pl)) (hS : Small 41 D) :
    ∃ x : S41, k41.K W x cs ∧ Fits x ∧ WfB x := by
  obtain ⟨xs, m, _, hx, _, hxs, hf⟩ := DataW.trod_struct Try.underlying41 h
  obtain ⟨rfl, _⟩ := Prod.mk.inj hx
  match cs, hlen with
  | [u0, u1, u2, u3, u4, u5, u6, u7, u8], _ =>
    have f0 : DataW.trod enc Try.prog W 0 sp held m 3 (([u0, u1, u2, u3, u4, u5, u6, u7, u8].drop 0).take (Try.prog.cellsOf 3)) = xs[0]? := hf 0 _ rfl
    have f1 : DataW.trod enc Try.prog W 0 sp held m 3 (([u0, u1, u2, u3, u4, u5, u6, u7, u8].drop 1).take (Try.prog.cellsOf 3)) = xs[1]? := hf 1 _ rfl
    have f2 : DataW.trod enc Try.prog W 0 sp held m 35 (([u0, u1, u2, u3, u4, u5, u6, u7, u8].drop 2).take (Try.prog.cellsOf 35)) = xs[2]? := hf 2 _ rfl
    have f3 : DataW.trod enc Try.prog W 0 sp held m 3 (([u0, u1, u2, u3, u4, u5, u6, u7, u8].drop 3).take (Try.prog.cellsOf 3)) = xs[3]? := hf 3 _ rfl
    have f4 : DataW.trod enc Try.prog W 0 sp held m 3 (([u0, u1, u2, u3, u4, u5, u6, u7, u8].drop 4).take (Try.prog.cellsOf 3)) = xs[4]? := hf 4 _ rfl
    have f5 : DataW.trod enc Try.prog W 0 sp held m 4 (([u0, u1, u2, u3, u4, u5, u6, u7, u8].drop 5).take (Try.prog.cellsOf 4)) = xs[5]? := hf 5 _ rfl
    have f6 : DataW.trod enc Try.prog W 0 sp held m 4 (([u0, u1, u2, u3, u4, u5, u6, u7, u8].drop 6).take (Try.prog.cellsOf 4)) = xs[6]? := hf 6 _ rfl
    have f7 : DataW.trod enc Try.prog W 0 sp held m 4 (([u0, u1, u2, u3, u4, u5, u6, u7, u8].drop 7).take (Try.prog.cellsOf 4)) = xs[7]? := hf 7 _ rfl
    have f8 : DataW.trod enc Try.prog W 0 sp held m 39 (([u0, u1, u2, u3, u4, u5, u6, u7, u8].drop 8).take (Try.prog.cellsOf 39)) = xs[8]? := hf 8 _ rfl
    rw [cells3] at f0 f1 f3 f4
    rw [cells35] at f2
    rw [cells4] at f5 f6 f7
    rw [cells39] at f8
    match xs, hxs with
    | [y0, y1, y2, y3, y4, y5, y6, y7, y8], _ =>
      obtain ⟨a0, e0, _, g0⟩ := DataW.trod_int Try.underlying3 f0
      obtain ⟨a1, e1, _, _⟩ := DataW.trod_int Try.underlying3 f1
      obtain ⟨a2, e2, _, g2⟩ := DataW.trod_int Try.underlying35 f2
      obtain ⟨a3, e3, _, _⟩ := DataW.trod_int Try.underlying3 f3
      obtain ⟨a4, e4, _, _⟩ := DataW.trod_int Try.underlying3 f4
      obtain ⟨a5, e5, _⟩ := DataW.trod_bool Try.underlying4 f5
      obtain ⟨a6, e6, _⟩ := DataW.trod_bool Try.underlying4 f6
      obtain ⟨a7, e7, _⟩ := DataW.trod_bool Try.underlying4 f7
      have hS8 : Small 39 y8.1 := fun n hn => hS n (by
        simp only [DataW.weights, Try.underlying41]
        exact DataW.weights_mem_each (j := 8) rfl rfl n hn)
      obtain ⟨A, c, vs, e8, hl, hC, hg, hw⟩ := open_vals (D := y8.1) (Pl := y8.2) f8 hS8
      simp at e0 e1 e2 e3 e4 e5 e6 e7 e8
      subst e0 e1 e2 e3 e4 e5 e6 e7 e8
      exact ⟨⟨a0, a1, a2, a3, a4, a5, a6, a7, vs⟩, k41_mk W ⟨a0, a1, a2, a3, a4, a5, a6, a7, vs⟩ hl hC, ⟨hw, hg⟩, by unfold WfB; rw [g0, g2]; rfl⟩

/-- A list of batches out of its reading. -/
theorem open_batches {A : Option Addr} {n c : Nat} {d : DataW H} {ps : List MemPlace} {ts : List TypeId} {ds : List (DataW H)} {j : Nat}
    (hsz : (DataW.weightsEach Try.prog ts ds).all (· ≤ reachBytes) = true) (ht : ts[j]? = some 22) (hd : ds[j]? = some d) (h : DataW.Trod enc Try.prog W 0 sp held 22 (.slice A n c) d ps) :
    ∃ l : List S41, n = l.length ∧ l.length ≤ c ∧ Kd.C k41 W A l.length l ∧ FitsAll l ∧ wfAll l = true := by
  obtain ⟨fuel, hf⟩ := h
  obtain ⟨A', c', xs, he, hl, hC, hg, hw⟩ := open_sl k41 (fun x => Fits x ∧ WfB x) Try.underlying22 cells41 (fun m cs D Pl hlen h hS => open_batch hlen h hS) hf
    (fun n hn => of_decide_eq_true (List.all_eq_true.1 hsz n (DataW.weights_mem_each ht hd n hn)))
  simp [Value.cells] at he
  obtain ⟨rfl, rfl, rfl⟩ := he
  rw [bytes41] at hw
  exact ⟨xs, rfl, hl, hC, ⟨by unfold reachBytes at hw; omega, fun b hb => (hg b hb).1⟩, List.all_eq_true.2 fun b hb => (hg b hb).2⟩
end
end Go.Proofs.Ytnbdlkjphdfkpaa

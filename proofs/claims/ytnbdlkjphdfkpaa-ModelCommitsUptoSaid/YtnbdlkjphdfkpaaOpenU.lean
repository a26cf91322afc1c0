/- Batches that came in and are small: how they read, and how many values they bear. No conditions. -/
import Derived.Test.YtnbdlkjphdfkpaaOpen
namespace Go.Proofs.Ytnbdlkjphdfkpaa.OpenU
open Go Go.RowKit Go.ChangeShapes Go.WideShapes Go.ChangeAt Go.Proofs.Ytnbdlkjphdfkpaa H Go.Proofs.YtnbdlkjphdfkpaaW.PrintWords

theorem one_le {H : Type} (d : DataW H) : 1 ≤ Rows.uptoBulk d := by
  cases d with
  | lit l => cases l <;> simp [Rows.uptoBulk]
  | nil => simp [Rows.uptoBulk]
  | ptr d => simp [Rows.uptoBulk]
  | slice elems spare => simp [Rows.uptoBulk]
  | agg parts => simp [Rows.uptoBulk]
  | iface t d => simp [Rows.uptoBulk]
  | map entries => simp [Rows.uptoBulk]
  | held h => simp [Rows.uptoBulk]

theorem part_in {H : Type} {d : DataW H} {l : List (DataW H)} (h : d ∈ l) : Rows.uptoBulk d ≤ Rows.uptoBulkAll l := by
  induction l with
  | nil => cases h
  | cons x r ih =>
    simp only [Rows.uptoBulkAll]
    rcases List.mem_cons.1 h with rfl | h
    · omega
    · have := ih h; omega

theorem count_le {H : Type} (l : List (DataW H)) : l.length ≤ Rows.uptoBulkAll l := by
  induction l with
  | nil => simp [Rows.uptoBulkAll]
  | cons x r ih => have := one_le x; simp only [Rows.uptoBulkAll, List.length_cons]; omega

theorem sum_le {H : Type} (g : Nat → Nat) (D : Nat → DataW H) : ∀ (is : List Nat), (∀ i ∈ is, g i ≤ Rows.uptoBulk (D i)) → (is.map g).sum ≤ Rows.uptoBulkAll (is.map D) := by
  intro is
  induction is with
  | nil => intro _; simp [Rows.uptoBulkAll]
  | cons i is ih =>
    intro h
    have h1 := h i List.mem_cons_self
    have h2 := ih (fun j hj => h j (List.mem_cons_of_mem _ hj))
    simp only [List.map_cons, List.sum_cons, Rows.uptoBulkAll]
    omega

section
variable {H : Type} {enc : TypeId × Value → H} {W : World} {sp : Nat → Bool} {held : Bool}

/-- A slice out of its reading, its elements read one by one. -/
theorem open_sl {α : Type} [Inhabited α] (d : Kd α) (Good : α → Prop) (m : α → Nat) {t e : TypeId} (hu : Try.prog.underlying t = some (.slice e)) (hce : Try.prog.cellsOf e = d.sz)
    (helem : ∀ (n : Nat) (cs : List Value) (D : DataW H) (Pl : List MemPlace), cs.length = d.sz → DataW.trod enc Try.prog W 0 sp held n e cs = some (D, Pl) → Rows.uptoBulk D ≤ 1048576 → ∃ x, d.K W x cs ∧ Good x ∧ m x ≤ Rows.uptoBulk D)
    {fuel : Nat} {cs : List Value} {D : DataW H} {Pl : List MemPlace} (h : DataW.trod enc Try.prog W 0 sp held fuel t cs = some (D, Pl)) (hS : Rows.uptoBulk D ≤ 1048576) :
    ∃ (A : Option Addr) (c : Nat) (xs : List α), cs = [.slice A xs.length c] ∧ xs.length ≤ c ∧ d.C W A xs.length xs ∧ (∀ x ∈ xs, Good x) ∧ xs.length ≤ Rows.uptoBulk D ∧ (xs.map m).sum ≤ Rows.uptoBulk D := by
  rcases Go.Deep.open_slice hu h with ⟨rfl, _⟩ | ⟨a, len, cap, mm, k, Df, Plf, rfl, hb, hl, hm, hmm, hx, hel⟩
  · exact ⟨none, 0, [], rfl, Nat.le_refl _, ⟨rfl, Nat.zero_le _, fun h => absurd h (Nat.lt_irrefl 0)⟩, fun x hx => (by cases hx), Nat.zero_le _, Nat.zero_le _⟩
  · obtain ⟨hx, _⟩ := Prod.mk.inj hx
    subst hx
    have hlm : len ≤ mm := by rw [hmm]; split <;> omega
    simp only [Rows.uptoBulk] at hS
    have hcount := count_le ((List.range len).map Df)
    rw [hce] at hel
    obtain ⟨V, hV⟩ := Go.Deep.choose_lt (α := α) (n := len) (p := fun i x => (∃ cs', cs'.length = d.sz ∧ d.K W x cs' ∧ ∀ j u, cs'[j]? = some u → W.cell? ((a.add (i * d.sz)).add j) = some u) ∧ Good x ∧ m x ≤ Rows.uptoBulk (Df i)) (fun i hi => by
      obtain ⟨cs', h1, h2⟩ := hel i (by omega)
      obtain ⟨_, hlen, hcell⟩ := World.cells?_some h1
      have hpart : Rows.uptoBulk (Df i) ≤ Rows.uptoBulkAll ((List.range len).map Df) := part_in (List.mem_map.2 ⟨i, List.mem_range.2 hi, rfl⟩)
      obtain ⟨x, hx1, hx2, hx3⟩ := helem k cs' _ _ hlen h2 (by omega)
      refine ⟨x, ⟨cs', hlen, hx1, fun j u hj => ?_⟩, hx2, hx3⟩
      have hjl : j < d.sz := by rw [← hlen]; exact (List.getElem?_eq_some_iff.1 hj).1
      rw [hcell j hjl, hj])
    have hlen : ((List.range len).map V).length = len := by simp
    have hlen2 : ((List.range len).map Df).length = len := by simp
    refine ⟨some a, cap, (List.range len).map V, by rw [hlen], by rw [hlen]; exact hl, ?_, ?_, ?_, ?_⟩
    · refine ⟨rfl, by rw [hlen]; unfold maxLen at hm; omega, fun _ => ⟨a, rfl, fun j p hj => ?_⟩⟩
      have hjl : j < len := by have := (List.getElem?_eq_some_iff.1 hj).1; rwa [hlen] at this
      have hp : p = V j := by
        rw [List.getElem?_map, List.getElem?_range hjl] at hj
        exact (Option.some.inj hj).symm
      subst hp
      obtain ⟨⟨cs', h1, h2, h3⟩, _⟩ := hV j hjl
      exact ⟨cs', h1, h2, fun i u hu => by rw [← Go.Deep.add_add]; exact h3 i u hu⟩
    · intro x hx
      obtain ⟨i, hi, rfl⟩ := List.mem_map.1 hx
      exact (hV i (List.mem_range.1 hi)).2.1
    · simp only [Rows.uptoBulk]
      omega
    · have := sum_le (fun i => m (V i)) Df (List.range len) (fun i hi => (hV i (List.mem_range.1 hi)).2.2)
      rw [List.map_map]
      simp only [Rows.uptoBulk]
      exact Nat.le_trans this (by omega)

/-- A row of bytes out of its reading. -/
theorem open_bytes {fuel : Nat} {cs : List Value} {D : DataW H} {Pl : List MemPlace} (h : DataW.trod enc Try.prog W 0 sp held fuel 47 cs = some (D, Pl)) (hS : Rows.uptoBulk D ≤ 1048576) :
    ∃ x, (Kd.slice 5 (Kd.int .u8)).K W x cs ∧ x.length < 140737488355328 ∧ 0 ≤ Rows.uptoBulk D := by
  obtain ⟨A, c, xs, rfl, hl, hC, _, hw, _⟩ := open_sl (Kd.int .u8) (fun _ => True) (fun _ => 0) Try.underlying47 cells5 (fun m cs D Pl _ h _ => by
    obtain ⟨n, rfl, _, _⟩ := DataW.trod_int Try.underlying5 h
    exact ⟨n, rfl, trivial, Nat.zero_le _⟩) h hS
  exact ⟨xs, ⟨A, c, rfl, hl, hC⟩, by omega, Nat.zero_le _⟩

/-- A row of values out of its reading. -/
theorem open_vals {fuel : Nat} {cs : List Value} {D : DataW H} {Pl : List MemPlace} (h : DataW.trod enc Try.prog W 0 sp held fuel 39 cs = some (D, Pl)) (hS : Rows.uptoBulk D ≤ 1048576) :
    ∃ (A : Option Addr) (c : Nat) (xs : List (List Int)), cs = [.slice A xs.length c] ∧ xs.length ≤ c ∧ (Kd.slice 5 (Kd.int .u8)).C W A xs.length xs ∧ (∀ v ∈ xs, v.length < 140737488355328) ∧ xs.length ≤ Rows.uptoBulk D := by
  obtain ⟨A, c, xs, rfl, hl, hC, hg, hw, _⟩ := open_sl (Kd.slice 5 (Kd.int .u8)) (fun v => v.length < 140737488355328) (fun _ => 0) Try.underlying39 cells47 (fun m cs D Pl _ h hS => open_bytes h hS) h hS
  exact ⟨A, c, xs, rfl, hl, hC, hg, hw⟩

/-- A batch out of its reading. -/
theorem open_batch {fuel : Nat} {cs : List Value} {D : DataW H} {Pl : List MemPlace} (hlen : cs.length = 9) (h : DataW.trod enc Try.prog W 0 sp held fuel 41 cs = some (D, Pl)) (hS : Rows.uptoBulk D ≤ 1048576) :
    ∃ x : S41, k41.K W x cs ∧ (Fits x ∧ WfB x) ∧ x.f8.length ≤ Rows.uptoBulk D := by
  obtain ⟨xs, m, _, hx, _, hxs, hf⟩ := DataW.trod_struct Try.underlying41 h
  obtain ⟨rfl, _⟩ := Prod.mk.inj hx
  match cs, hlen with
  | [u0, u1, u2, u3, u4, u5, u6, u7, u8], _ =>
    have f0 : DataW.trod enc Try.prog W 0 sp held m 3 (([u0, u1, u2, u3, u4, u5, u6, u7, u8].drop 0).take (Try.prog.cellsOf 3)) = xs[0]? := hf 0 _ rfl
    have f1 : DataW.trod enc Try.prog W 0 sp held m 3 (([u0, u1, u2, u3, u4, u5, u6, u7, u8].drop 1).take (Try.prog.cellsOf 3)) = xs[1]? := hf 1 _ rfl
    have f2 : DataW.trod enc Try.prog W 0 sp held m 35 (([u0, u1, u2, u3, u4, u5, u6, u7, u8].drop 2).take (Try.prog.cellsOf 35)) = xs[2]? := hf 2 _ rfl
    have f3 : DataW.trod enc Try.prog W 0 sp held m 3 (([u0, u1, u2, u3, u4, u5, u6, u7, u8].drop 3).take (Try.prog.cellsOf 3)) = xs[3]? := hf 3 _ rfl
    have f4 : DataW.trod enc Try.prog W 0 sp held m 3 (([u0, u1, u2, u3, u4, u5, u6, u7, u8].drop 4).take (Try.prog.cellsOf 3)) = xs[4]? := hf 4 _ rfl
    have f5 : DataW.trod enc Try.prog W 0 sp held m 4 (([u0, u1, u2, u3, u4, u5, u6, u7, u8].drop 5).take (Try.prog.cellsOf 4)) = xs[5]? := hf 5 _ rfl
    have f6 : DataW.trod enc Try.prog W 0 sp held m 4 (([u0, u1, u2, u3, u4, u5, u6, u7, u8].drop 6).take (Try.prog.cellsOf 4)) = xs[6]? := hf 6 _ rfl
    have f7 : DataW.trod enc Try.prog W 0 sp held m 4 (([u0, u1, u2, u3, u4, u5, u6, u7, u8].drop 7).take (Try.prog.cellsOf 4)) = xs[7]? := hf 7 _ rfl
    have f8 : DataW.trod enc Try.prog W 0 sp held m 39 (([u0, u1, u2, u3, u4, u5, u6, u7, u8].drop 8).take (Try.prog.cellsOf 39)) = xs[8]? := hf 8 _ rfl
    rw [cells3] at f0 f1 f3 f4
    rw [cells35] at f2
    rw [cells4] at f5 f6 f7
    rw [cells39] at f8
    match xs, hxs with
    | [y0, y1, y2, y3, y4, y5, y6, y7, y8], _ =>
      obtain ⟨a0, e0, _, g0⟩ := DataW.trod_int Try.underlying3 f0
      obtain ⟨a1, e1, _, _⟩ := DataW.trod_int Try.underlying3 f1
      obtain ⟨a2, e2, _, g2⟩ := DataW.trod_int Try.underlying35 f2
      obtain ⟨a3, e3, _, _⟩ := DataW.trod_int Try.underlying3 f3
      obtain ⟨a4, e4, _, _⟩ := DataW.trod_int Try.underlying3 f4
      obtain ⟨a5, e5, _⟩ := DataW.trod_bool Try.underlying4 f5
      obtain ⟨a6, e6, _⟩ := DataW.trod_bool Try.underlying4 f6
      obtain ⟨a7, e7, _⟩ := DataW.trod_bool Try.underlying4 f7
      have hS8 : Rows.uptoBulk y8.1 + 1 ≤ Rows.uptoBulk (DataW.agg ([y0, y1, y2, y3, y4, y5, y6, y7, y8].map (·.1))) := by
        simp only [Rows.uptoBulk, List.map_cons, List.map_nil, Rows.uptoBulkAll]
        omega
      obtain ⟨A, c, vs, e8, hl, hC, hg, hw⟩ := open_vals (D := y8.1) (Pl := y8.2) f8 (by omega)
      simp at e0 e1 e2 e3 e4 e5 e6 e7 e8
      subst e0 e1 e2 e3 e4 e5 e6 e7 e8
      exact ⟨⟨a0, a1, a2, a3, a4, a5, a6, a7, vs⟩, k41_mk W ⟨a0, a1, a2, a3, a4, a5, a6, a7, vs⟩ hl hC, ⟨⟨by show vs.length * 24 ≤ _; omega, hg⟩, by unfold WfB; rw [g0, g2]; rfl⟩, by show vs.length ≤ _; omega⟩

/-- A list of batches out of its reading. -/
theorem open_batches {A : Option Addr} {n c : Nat} {d : DataW H} {ps : List MemPlace}
    (hsz : Rows.uptoBulk d ≤ 1048576) (h : DataW.Trod enc Try.prog W 0 sp held 22 (.slice A n c) d ps) :
    ∃ l : List S41, n = l.length ∧ l.length ≤ c ∧ Kd.C k41 W A l.length l ∧ FitsAll l ∧ wfAll l = true ∧ (l.map (·.f8.length)).sum ≤ 1048576 := by
  obtain ⟨fuel, hf⟩ := h
  obtain ⟨A', c', xs, he, hl, hC, hg, hw, hsum⟩ := open_sl k41 (fun x => Fits x ∧ WfB x) (fun b => b.f8.length) Try.underlying22 cells41 (fun m cs D Pl hlen h hS => open_batch hlen h hS) hf hsz
  simp [Value.cells] at he
  obtain ⟨rfl, rfl, rfl⟩ := he
  exact ⟨xs, rfl, hl, hC, ⟨by omega, fun b hb => (hg b hb).1⟩, List.all_eq_true.2 fun b hb => (hg b hb).2, by omega⟩
end
end Go.Proofs.Ytnbdlkjphdfkpaa.OpenU

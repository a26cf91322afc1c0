/- Packets that came in: how they read, and how large they are. No conditions. -/
import Derived.Test.YtalaghkpbdaonaaH0
import Derived.Test.YtalaghkpbdaonaaEnd
import Derived.Deep.Slices
import Derived.SizedLaws
namespace Go.Proofs.Ytalaghkpbdaonaa
open Go Go.RowKit Go.ChangeShapes Go.WideShapes Go.ChangeAt H Go.Proofs.YtalaghkpbdaonaaW.PrintWords

theorem weightsAll_in {H : Type} {P : Program} {e : TypeId} : ∀ {l : List (DataW H)} {d : DataW H}, d ∈ l → ∀ n ∈ d.weights P e, n ∈ DataW.weightsAll P e l
  | d' :: r, d, hd, n, hn => by
    simp only [DataW.weightsAll, List.mem_append]
    rcases List.mem_cons.1 hd with rfl | h
    · exact .inl hn
    · exact .inr (weightsAll_in h n hn)

/-- All that a reading weighs is within reach. -/
def Small {H : Type} (t : TypeId) (d : DataW H) : Prop := ∀ n ∈ d.weights Try.prog t, n ≤ reachBytes

section
variable {H : Type} {enc : TypeId × Value → H} {W : World} {sp : Nat → Bool} {held : Bool}

/-- A slice out of its reading, its elements read one by one. -/
theorem open_sl {α : Type} [Inhabited α] (d : Kd α) (Good : α → Prop) {t e : TypeId} (hu : Try.prog.underlying t = some (.slice e)) (hce : Try.prog.cellsOf e = d.sz)
    (helem : ∀ (m : Nat) (cs : List Value) (D : DataW H) (Pl : List MemPlace), cs.length = d.sz → DataW.trod enc Try.prog W 0 sp held m e cs = some (D, Pl) → Small e D → ∃ x, d.K W x cs ∧ Good x)
    {fuel : Nat} {cs : List Value} {D : DataW H} {Pl : List MemPlace} (h : DataW.trod enc Try.prog W 0 sp held fuel t cs = some (D, Pl)) (hS : Small t D) :
    ∃ (A : Option Addr) (c : Nat) (xs : List α), cs = [.slice A xs.length c] ∧ xs.length ≤ c ∧ d.C W A xs.length xs ∧ (∀ x ∈ xs, Good x) ∧ xs.length * Try.prog.bytesOf e ≤ reachBytes := by
  rcases Go.Deep.open_slice hu h with ⟨rfl, _⟩ | ⟨a, len, cap, m, k, Df, Plf, rfl, hb, hl, hm, hmm, hx, hel⟩
  · exact ⟨none, 0, [], rfl, Nat.le_refl _, ⟨rfl, Nat.zero_le _, fun h => absurd h (Nat.lt_irrefl 0)⟩, fun x hx => (by cases hx), (by rw [List.length_nil, Nat.zero_mul]; exact Nat.zero_le _)⟩
  · obtain ⟨hx, _⟩ := Prod.mk.inj hx
    subst hx
    have hlm : len ≤ m := by rw [hmm]; split <;> omega
    have hw : ((List.range len).map Df).length * Try.prog.bytesOf e ≤ reachBytes := by
      have := hS _ (show _ ∈ DataW.weights Try.prog t (.slice _ _) by simp only [DataW.weights, hu]; exact List.mem_cons_self)
      exact Nat.le_trans (Nat.mul_le_mul_right _ (by omega)) this
    rw [hce] at hel
    obtain ⟨V, hV⟩ := Go.Deep.choose_lt (α := α) (n := len) (p := fun i x => (∃ cs', cs'.length = d.sz ∧ d.K W x cs' ∧ ∀ j u, cs'[j]? = some u → W.cell? ((a.add (i * d.sz)).add j) = some u) ∧ Good x) (fun i hi => by
      obtain ⟨cs', h1, h2⟩ := hel i (by omega)
      obtain ⟨_, hlen, hcell⟩ := World.cells?_some h1
      obtain ⟨x, hx1, hx2⟩ := helem k cs' _ _ hlen h2 (fun n hn => hS n (by
        simp only [DataW.weights, hu, List.mem_cons, List.mem_append]
        exact .inr (.inl (weightsAll_in (List.mem_map.2 ⟨i, List.mem_range.2 hi, rfl⟩) n hn))))
      refine ⟨x, ⟨cs', hlen, hx1, fun j u hj => ?_⟩, hx2⟩
      have hjl : j < d.sz := by rw [← hlen]; exact (List.getElem?_eq_some_iff.1 hj).1
      rw [hcell j hjl, hj])
    have hlen : ((List.range len).map V).length = len := by simp
    refine ⟨some a, cap, (List.range len).map V, by rw [hlen], by rw [hlen]; exact hl, ?_, ?_, by simpa using hw⟩
    · refine ⟨rfl, by rw [hlen]; unfold maxLen at hm; omega, fun _ => ⟨a, rfl, fun j p hj => ?_⟩⟩
      have hjl : j < len := by have := (List.getElem?_eq_some_iff.1 hj).1; rwa [hlen] at this
      have hp : p = V j := by
        rw [List.getElem?_map, List.getElem?_range hjl] at hj
        exact (Option.some.inj hj).symm
      subst hp
      obtain ⟨⟨cs', h1, h2, h3⟩, _⟩ := hV j hjl
      exact ⟨cs', h1, h2, fun i u hu => by rw [← Go.Deep.add_add]; exact h3 i u hu⟩
    · intro x hx
      obtain ⟨i, hi, rfl⟩ := List.mem_map.1 hx
      exact (hV i (List.mem_range.1 hi)).2

theorem cells5 : Try.prog.cellsOf 5 = 1 := by kernel_rfl
theorem cells26 : Try.prog.cellsOf 26 = 1 := by kernel_rfl
theorem cells28 : Try.prog.cellsOf 28 = 3 := by kernel_rfl
theorem bytes5 : Try.prog.bytesOf 5 = 1 := by kernel_rfl
theorem bytes28 : Try.prog.bytesOf 28 = 40 := by kernel_rfl
theorem cells3 : Try.prog.cellsOf 3 = 1 := by kernel_rfl

/-- A packet's numbers are of their kinds, its body of a size that can be. -/
def Good28 (b : S28) : Prop := (Lit.int .i64 b.f0).wf = true ∧ (Lit.int .i64 b.f1).wf = true ∧ b.f2.length ≤ 140737488355328

instance : Inhabited S28 := ⟨z28⟩

/-- A row of bytes out of its reading. -/
theorem open_bytes {fuel : Nat} {cs : List Value} {D : DataW H} {Pl : List MemPlace} (h : DataW.trod enc Try.prog W 0 sp held fuel 26 cs = some (D, Pl)) (hS : Small 26 D) :
    ∃ (A : Option Addr) (c : Nat) (xs : List Int), cs = [.slice A xs.length c] ∧ xs.length ≤ c ∧ (Kd.int .u8).C W A xs.length xs ∧ xs.length ≤ 140737488355328 := by
  obtain ⟨A, c, xs, rfl, hl, hC, _, hw⟩ := open_sl (Kd.int .u8) (fun _ => True) Try.underlying26 cells5 (fun m cs D Pl _ h _ => by
    obtain ⟨n, rfl, _, _⟩ := DataW.trod_int Try.underlying5 h
    exact ⟨n, rfl, trivial⟩) h hS
  rw [bytes5] at hw
  exact ⟨A, c, xs, rfl, hl, hC, by unfold reachBytes at hw; omega⟩

/-- A packet out of its reading. -/
theorem open_packet {fuel : Nat} {cs : List Value} {D : DataW H} {Pl : List MemPlace} (hlen : cs.length = 3) (h : DataW.trod enc Try.prog W 0 sp held fuel 28 cs = some (D, Pl)) (hS : Small 28 D) :
    ∃ x : S28, k28.K W x cs ∧ Good28 x := by
  obtain ⟨xs, m, _, hx, _, hxs, hf⟩ := DataW.trod_struct Try.underlying28 h
  obtain ⟨rfl, _⟩ := Prod.mk.inj hx
  match cs, hlen with
  | [u0, u1, u2], _ =>
    have f0 : DataW.trod enc Try.prog W 0 sp held m 3 (([u0, u1, u2].drop 0).take (Try.prog.cellsOf 3)) = xs[0]? := hf 0 _ rfl
    have f1 : DataW.trod enc Try.prog W 0 sp held m 3 (([u0, u1, u2].drop 1).take (Try.prog.cellsOf 3)) = xs[1]? := hf 1 _ rfl
    have f2 : DataW.trod enc Try.prog W 0 sp held m 26 (([u0, u1, u2].drop 2).take (Try.prog.cellsOf 26)) = xs[2]? := hf 2 _ rfl
    rw [cells3] at f0 f1
    rw [cells26] at f2
    match xs, hxs with
    | [y0, y1, y2], _ =>
      obtain ⟨a0, e0, _, g0⟩ := DataW.trod_int Try.underlying3 f0
      obtain ⟨a1, e1, _, g1⟩ := DataW.trod_int Try.underlying3 f1
      have hS2 : Small 26 y2.1 := fun n hn => hS n (by
        simp only [DataW.weights, Try.underlying28]
        exact DataW.weights_mem_each (j := 2) rfl rfl n hn)
      obtain ⟨A, c, vs, e2, hl, hC, hg⟩ := open_bytes (D := y2.1) (Pl := y2.2) f2 hS2
      simp at e0 e1 e2
      subst e0 e1 e2
      exact ⟨⟨a0, a1, vs⟩, k28_mk W ⟨a0, a1, vs⟩ hl hC, g0, g1, hg⟩

/-- A list of packets out of its reading. -/
theorem open_packets {A : Option Addr} {n c : Nat} {d : DataW H} {ps : List MemPlace} {ts : List TypeId} {ds : List (DataW H)} {j : Nat}
    (hsz : (DataW.weightsEach Try.prog ts ds).all (· ≤ reachBytes) = true) (ht : ts[j]? = some 22) (hd : ds[j]? = some d) (h : DataW.Trod enc Try.prog W 0 sp held 22 (.slice A n c) d ps) :
    ∃ l : List S28, n = l.length ∧ l.length ≤ c ∧ Kd.C k28 W A l.length l ∧ (∀ p ∈ l, Good28 p) ∧ l.length ≤ 140737488355328 := by
  obtain ⟨fuel, hf⟩ := h
  obtain ⟨A', c', xs, he, hl, hC, hg, hw⟩ := open_sl k28 Good28 Try.underlying22 cells28 (fun m cs D Pl hlen h hS => open_packet hlen h hS) hf
    (fun n hn => of_decide_eq_true (List.all_eq_true.1 hsz n (DataW.weights_mem_each ht hd n hn)))
  simp [Value.cells] at he
  obtain ⟨rfl, rfl, rfl⟩ := he
  rw [bytes28] at hw
  exact ⟨xs, rfl, hl, hC, hg, by unfold reachBytes at hw; omega⟩

/-- A packet that came in. -/
theorem open_one {cs : Array Value} {d : DataW H} {ps : List MemPlace} {ts : List TypeId} {ds : List (DataW H)} {j : Nat}
    (hsz : (DataW.weightsEach Try.prog ts ds).all (· ≤ reachBytes) = true) (ht : ts[j]? = some 28) (hd : ds[j]? = some d) (hlen : cs.size = Try.prog.cellsOf 28) (h : DataW.Trod enc Try.prog W 0 sp held 28 (.agg cs) d ps) :
    ∃ (b : S28) (A : Option Addr) (c : Nat), cs = #[.int .i64 b.f0, .int .i64 b.f1, .slice A b.f2.length c] ∧ b.f2.length ≤ c ∧ Kd.C (Kd.int .u8) W A b.f2.length b.f2 ∧ Good28 b := by
  obtain ⟨fuel, hf⟩ := h
  rw [cells28] at hlen
  obtain ⟨b, hK, hg⟩ := open_packet (by rw [Array.length_toList]; exact hlen) hf (fun n hn => of_decide_eq_true (List.all_eq_true.1 hsz n (DataW.weights_mem_each ht hd n hn)))
  obtain ⟨A, c, he, hl, hC⟩ := k28_open hK
  exact ⟨b, A, c, by rw [← Array.toList_inj]; exact he, hl, hC, hg⟩
end
end Go.Proofs.Ytalaghkpbdaonaa

/- Peek, Cut, Heal: what they compute. No conditions. -/
import Derived.Test.YtalaghkpbdaonaaNetP
namespace Go.Proofs.Ytalaghkpbdaonaa
open Go Go.RowKit H Go.Proofs.YtalaghkpbdaonaaW.PrintWords

/-- What a change of the pairs may have changed: the map. -/
def MapMoved (w w' : World) (base M : Nat) : Prop := Below base w w' ∧ ∀ k, k < w.heap.size → k ≠ M → w'.heap[k]? = w.heap[k]?

theorem NetIn.mapTo {w w' : World} {base N M : Nat} {v : Value} {ps : List S28} {D D' : DataW Unit} {m m' : Nat} (h : NetIn w base N M v ps D m) (hk : ∀ k, k < w.heap.size → k ≠ M → w'.heap[k]? = w.heap[k]?) (hm' : w'.ownsMap Try.prog 37 (plainElem Try.prog 4) M m' D') : NetIn w' base N M v ps D' m' := by
  obtain ⟨h1, h2, h3, ⟨cs, hf, hr⟩, es, clock, hm, _⟩ := h
  have lt : ∀ {k : Nat} {o : Obj}, w.heap[k]? = some o → k < w.heap.size := fun h => (Array.getElem?_eq_some_iff.1 h).1
  have hne : ∀ {k : Nat} {c : Array Value} {t : TypeId} {fr : Nat × Nat}, w.heap[k]? = some (.cells c t fr) → k ≠ M := fun hc e => by
    subst e
    rw [hm] at hc
    injection hc with hc
    cases hc
  refine ⟨h1, h2, (hk _ (lt h3) (hne h3)).trans h3, ⟨cs, ?_, hr.imp_ (fun p c hp => ?_)⟩, hm'⟩
  · rcases hf with hf | ⟨g, cur, rfl, hg, hh, rest⟩
    · refine .inl (own_move hf (fun k hko => ?_))
      obtain ⟨cells, hc⟩ := own_typed hf k hko
      exact hk k (own_lt hf k hko) (hne hc)
    · exact .inr ⟨g, cur, rfl, hg, (hk g (lt hh) (hne hh)).trans hh, rest⟩
  · have hb := k28.M_bound hp
    refine k28.M_mono (fun _ _ => trivial) (k28.M_move (fun k hk2 => ?_) hb)
    obtain ⟨_, hkb, hklt, q, hq, cells, hcl⟩ := hk2
    exact hk k hklt (hne hcl)

theorem MapMoved.of {w w' : World} {base M : Nat} (hg : w.grownBy w' (some M)) (hb : base ≤ M) (hs : base ≤ w.heap.size) : MapMoved w w' base M :=
  ⟨(Below.refl base w).grown hg hs (fun q hq => by obtain rfl := Option.some.inj hq; exact hb), fun k hk hne => hg.block k hk (fun e => hne (Option.some.inj e))⟩

set_option maxRecDepth 100000 in
set_option maxHeartbeats 4000000 in
theorem heal_calls {w : World} {base N M : Nat} {v : Value} {ps : List S28} {D : DataW Unit} {m : Nat} (h : NetIn w base N M v ps D m) :
    Calls Try.prog 18 #[.pointer (some ⟨N, 0, none⟩)] w fun e w' => e = .returned (.tuple #[]) ∧ NetIn w' base N M v ps (.map []) 0 ∧ MapMoved w w' base M := by
  obtain ⟨w', hrun, hmap, hg⟩ := clear_own h.map
  have q := blk_cell h.cell
  have hlt := blk_lt h.cell
  have hM := MapMoved.of hg h.geM (by have := h.geN; omega)
  have HE := Lib.hid (And.intro (h.mapTo hM.2 hmap) hM)
  clear h hmap hg hM
  go_enter Try.func18, Try.ntmps18
  go_wp2
  exact bodyPost_end (results_none rfl _ _ _) rfl ⟨rfl, HE.out⟩

set_option maxRecDepth 100000 in
set_option maxHeartbeats 4000000 in
theorem cut_same {w : World} (N : Nat) (i : Int) : Calls Try.prog 17 #[.pointer (some ⟨N, 0, none⟩), .int .i64 i, .int .i64 i] w fun e w' => e = .returned (.tuple #[]) ∧ w' = w := by
  go_enter Try.func17, Try.ntmps17
  go_wp2
  exact bodyPost_end (results_none rfl _ _ _) rfl ⟨rfl, rfl⟩

theorem MapMoved.behind {w w1 w' : World} {base M : Nat} (hb : Below w.heap.size w w1) (hm : MapMoved w1 w' base M) (hs : base ≤ w.heap.size) : MapMoved w w' base M :=
  ⟨(hb.mono hs).trans hm.1, fun k hk hne => (hm.2 k (Nat.lt_of_lt_of_le hk hb.size) hne).trans (hb.block k hk)⟩

theorem put_own {w : World} {M m : Nat} {D : DataW Unit} (h : w.ownsMap Try.prog 37 (plainElem Try.prog 4) M m D) (hm : m < maxLen) (i j : Int) (wi : (Lit.int .i64 i).wf = true) (wj : (Lit.int .i64 j).wf = true) :
    ∃ w', (Instr.mapUpdate 52 (.map (some M)) (.agg #[.int .i64 (min i j), .int .i64 (max i j)]) (.bool true)).run Try.prog w = .ok () w' ∧ w'.ownsMap Try.prog 37 (plainElem Try.prog 4) M (m + 1) (D.put (pkey i j) (.lit (.bool true))) ∧ w.grownBy w' (some M) :=
  h.update keyed37 Try.underlying52 hm (key_pair i j wi wj) (plainElem_bool Try.underlying4 true)

set_option maxRecDepth 100000 in
set_option maxHeartbeats 4000000 in
theorem cut_calls {w : World} {base N M : Nat} {v : Value} {ps : List S28} {D : DataW Unit} {m : Nat} (h : NetIn w base N M v ps D m) (hm : m < maxLen) (i j : Int) (hne : i ≠ j) (wi : (Lit.int .i64 i).wf = true) (wj : (Lit.int .i64 j).wf = true) :
    Calls Try.prog 17 #[.pointer (some ⟨N, 0, none⟩), .int .i64 i, .int .i64 j] w fun e w' => e = .returned (.tuple #[]) ∧ NetIn w' base N M v ps (D.put (pkey i j) (.lit (.bool true))) (m + 1) ∧ MapMoved w w' base M := by
  have q := blk_cell h.cell
  have HC := Lib.hid h.cell
  have HN := Lib.hid h
  have HW := Lib.hid (And.intro wi (And.intro wj hm))
  have hs : base ≤ w.heap.size := by have := h.geN; have := blk_lt h.cell; omega
  clear h wi wj hm
  go_enter Try.func17, Try.ntmps17
  go_wp2
  have qd := blk_cell (blk_drew HC.out)
  go_region_law (first
    | (go_simp; refine (pair_calls i j _).mono ?_; rintro e w3 ⟨rfl, hb3⟩; have q3 := blk_cell (blk_below (blk_drew HC.out) hb3); have hb4 : Below w.heap.size w w3 := ((Below.refl _ w).drew).trans hb3; have hn3 := HN.out.below hb4; obtain ⟨w4, hrun, hmap, hg⟩ := put_own hn3.map HW.out.2.2 i j HW.out.1 HW.out.2.1; have hM := MapMoved.of hg hn3.geM (Nat.le_trans hs hb4.size); have HE := Lib.hid (And.intro (hn3.mapTo hM.2 hmap) (hM.behind hb4 hs)); clear hb3 hb4 hn3 hmap hg hM))
  all_goals
    go_wp2
    exact bodyPost_end (results_none rfl _ _ _) rfl ⟨rfl, HE.out⟩
end Go.Proofs.Ytalaghkpbdaonaa

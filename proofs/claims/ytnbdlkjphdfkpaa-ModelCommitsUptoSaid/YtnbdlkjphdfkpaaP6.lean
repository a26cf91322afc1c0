/- The document's fate, plain: it answers which batches the program's Committed takes. Conditions: what came in is of a size that fits memory. -/
import Derived.Test.YtnbdlkjphdfkpaaP4A
import Derived.Test.YtnbdlkjphdfkpaaH5
import Derived.Test.YtnbdlkjphdfkpaaH3
namespace Go.Proofs.Ytnbdlkjphdfkpaa
open Go Go.RowKit H Go.Proofs.YtnbdlkjphdfkpaaW.PrintWords Go.Proofs.YtnbdlkjphdfkpaaW.PrintMore

section
variable (l : List S41) (high : Int) (hn : l.length * 72 ≤ 140737488355328)

theorem not_grp (i : Nat) (b : S41) (hb : l[i]? = some b) (n : Nat) (p : Int) (h : b.f2 ≠ p ∨ b.f5 = false) : (i : Int) ∉ grp l p n := by
  intro hm
  obtain ⟨_, _, c, hc, h2, _, h5⟩ := grp_mem' l p n _ hm
  rw [Int.toNat_natCast, hb] at hc
  obtain rfl := Option.some.inj hc
  rcases h with h | h
  · exact h h2
  · rw [h5] at h; cases h

theorem ends_of_plain (i : Nat) (b : S41) (hb : l[i]? = some b) (h5 : b.f5 = false) (h6 : b.f6 = false) (n : Nat) (hin : i < n) : (ends l n).getD i false = true := by
  have hil : i < l.length := (List.getElem?_eq_some_iff.1 hb).1
  obtain ⟨d, rfl⟩ : ∃ d, n = i + 1 + d := ⟨n - (i + 1), by omega⟩
  rw [ends_stay l i (i + 1) (by omega) hil (fun p => not_grp l i b hb _ p (.inr h5)) d, ends_plain hb h6 h5, List.getD_eq_getElem?_getD, List.getElem?_set, if_pos rfl, if_pos (by rw [ends_len]; exact hil)]
  rfl

theorem ends_shut (i n : Nat) (b c : S41) (hb : l[i]? = some b) (hc : l[n]? = some c) (hg : (i : Int) ∈ grp l b.f2 n) (h6 : c.f6 = true) (h2 : c.f2 = b.f2) (d : Nat) : (ends l (n + 1 + d)).getD i false = c.f7 := by
  have hil : i < l.length := (List.getElem?_eq_some_iff.1 hb).1
  have hin : i < n := by have := (grp_mem l b.f2 n _ hg).2; omega
  have hno : ∀ p, (i : Int) ∉ grp l p (n + 1) := by
    intro p hm
    by_cases hp : b.f2 = p
    · subst hp
      rw [grp_succ hc, if_pos h2, if_pos h6] at hm
      cases hm
    · exact not_grp l i b hb _ p (.inl hp) hm
  rw [ends_stay l i (n + 1) (by omega) hil hno d, ends_ctl hc h6, setAll_get _ _ _ (by rw [ends_len]; exact hil) _ (fun z hz => (grp_mem l _ _ z hz).1), h2, if_pos hg]

theorem ends_still (i n : Nat) (b c : S41) (hb : l[i]? = some b) (hc : l[n]? = some c) (hin : i < n) (h : ¬ (c.f6 = true ∧ c.f2 = b.f2)) : (ends l (n + 1)).getD i false = (ends l n).getD i false := by
  have hil : i < l.length := (List.getElem?_eq_some_iff.1 hb).1
  by_cases h6 : c.f6 = true
  · rw [ends_ctl hc h6, setAll_get _ _ _ (by rw [ends_len]; exact hil) _ (fun z hz => (grp_mem l _ _ z hz).1), if_neg (not_grp l i b hb _ _ (.inl fun e => h ⟨h6, e.symm⟩))]
  · have h6 : c.f6 = false := by simpa using h6
    by_cases h5 : c.f5 = true
    · rw [ends_txn hc h6 h5]
    · rw [ends_plain hc h6 (by simpa using h5), List.getD_eq_getElem?_getD, List.getElem?_set, if_neg (by omega), ← List.getD_eq_getElem?_getD]

theorem grp_still (i n : Nat) (b c : S41) (hc : l[n]? = some c) (hg : (i : Int) ∈ grp l b.f2 n) (h : ¬ (c.f6 = true ∧ c.f2 = b.f2)) : (i : Int) ∈ grp l b.f2 (n + 1) := by
  rw [grp_succ hc]
  split
  · rename_i h2
    rw [if_neg (fun h6 => h ⟨h6, h2⟩)]
    split
    · exact List.mem_append_left _ hg
    · exact hg
  · exact hg

include hn in
theorem fate_loop (i : Nat) (b : S41) (hb : l[i]? = some b) (d : Nat) : ∀ m : Nat, m + d = (pre l high).length → (i : Int) ∈ grp l b.f2 m → (ends l m).getD i false = false →
    Ev (fun k => penstockref21_fate.l0 k l high m b.f0 b.f1 b.f2 b.f3 b.f4 b.f5 b.f6 b.f7 b.f8) ((ends l (pre l high).length).getD i false) := by
  have hpl := pre_len l high
  induction d with
  | zero =>
    intro m hm hg he
    rw [show (pre l high).length = m by omega, he]
    by_cases hml : m < l.length
    · have hbel := below_ev l high m hml (by omega)
      rw [decide_eq_false (by omega)] at hbel
      refine ev_via (f := fun _ => some false) hbel (Ev.now _) (fun k hk => ?_)
      simp only [penstockref21_fate.l0]
      rw [if_pos (by omega), hk, Option.bind_some, if_neg (by simp)]
    · refine Ev.step (f := fun _ => some false) (fun k => ?_) (Ev.now _)
      simp only [penstockref21_fate.l0]
      rw [if_neg (by omega)]
  | succ d ih =>
    intro m hm hg he
    have hml : m < l.length := by omega
    have hin : i < m := by have := (grp_mem l b.f2 m _ hg).2; omega
    have hc : l[m]? = some l[m] := List.getElem?_eq_getElem hml
    have hbel := below_ev l high m hml (by omega)
    rw [decide_eq_true (by omega)] at hbel
    by_cases h : l[m].f6 = true ∧ l[m].f2 = b.f2
    · have e := ends_shut l i m b l[m] hb hc hg h.1 h.2 d
      rw [show m + 1 + d = (pre l high).length by omega] at e
      rw [e]
      refine ev_via (f := fun _ => some l[m].f7) hbel (Ev.now _) (fun k hk => ?_)
      simp only [penstockref21_fate.l0]
      rw [if_pos (by omega), hk, Option.bind_some, if_pos rfl, if_pos (by omega), rdT41_at hml, if_pos h.1, if_pos h.2]
    · have hnext := ih (m + 1) (by omega) (grp_still l i m b l[m] hc hg h) (by rw [ends_still l i m b l[m] hb hc hin h]; exact he)
      refine ev_via hbel hnext (fun k hk => ?_)
      simp only [penstockref21_fate.l0]
      rw [if_pos (by omega), hk, Option.bind_some, if_pos rfl, if_pos (by omega), rdT41_at hml, wrap_next hml (by omega)]
      by_cases h6 : l[m].f6 = true
      · rw [if_pos h6, if_neg (fun h2 => h ⟨h6, h2⟩)]
      · rw [if_neg h6]

include hn in
theorem fate_ev (i : Nat) (hi : i < l.length) : Ev (fun k => penstockref21_fate.f k l high i) ((ends l (pre l high).length).getD i false) := by
  have hpl := pre_len l high
  have hb : l[i]? = some l[i] := List.getElem?_eq_getElem hi
  have hbel := below_ev l high i hi (by omega)
  by_cases hin : i < (pre l high).length
  · rw [decide_eq_true hin] at hbel
    have hj : Ev (fun k => penstockref21_fate.j0 k l high i l[i].f6 l[i].f0 l[i].f1 l[i].f2 l[i].f3 l[i].f4 l[i].f5 l[i].f6 l[i].f7 l[i].f8) ((ends l (pre l high).length).getD i false) := by
      by_cases h6 : l[i].f6 = true
      · have e : (ends l (pre l high).length).getD i false = false := by
          cases hc : (ends l (pre l high).length).getD i false with
          | false => rfl
          | true =>
            obtain ⟨_, c, h1, h2⟩ := ends_true l _ i hc
            rw [hb] at h1
            obtain rfl := Option.some.inj h1
            rw [h6] at h2; cases h2
        rw [e]
        refine Ev.step (f := fun _ => some false) (fun k => ?_) (Ev.now _)
        simp only [penstockref21_fate.j0]
        rw [if_pos h6]
      · have h6' : l[i].f6 = false := by simpa using h6
        by_cases h5 : l[i].f5 = true
        · have hc := grp_succ hb l[i].f2
          rw [if_pos rfl, if_neg h6, if_pos h5] at hc
          have he : (ends l (i + 1)).getD i false = false := by
            rw [ends_txn hb h6' h5]
            cases hc : (ends l i).getD i false with
            | false => rfl
            | true => have := (ends_true l _ i hc).1; omega
          refine Ev.step (fun k => ?_) (fate_loop l high hn i l[i] hb ((pre l high).length - (i + 1)) (i + 1) (by omega) (by rw [hc]; simp) he)
          simp only [penstockref21_fate.j0]
          rw [if_neg h6, if_pos h5, wrap_next hi (by omega)]
        · rw [ends_of_plain l i l[i] hb (by simpa using h5) h6' _ hin]
          refine Ev.step (f := fun _ => some true) (fun k => ?_) (Ev.now _)
          simp only [penstockref21_fate.j0]
          rw [if_neg h6, if_neg h5]
    obtain ⟨K1, h1⟩ := hbel
    obtain ⟨K2, h2⟩ := hj
    refine ⟨max K1 K2, fun k hk => ?_⟩
    show penstockref21_fate.f k l high i = _
    unfold penstockref21_fate.f
    rw [if_pos (by omega), if_pos (by omega), show penstockref21_below.f k l high i = some true from h1 k (by omega), Option.bind_some, if_pos rfl, rdT41_at hi]
    exact h2 k (by omega)
  · rw [decide_eq_false hin] at hbel
    have e : (ends l (pre l high).length).getD i false = false := by
      cases hc : (ends l (pre l high).length).getD i false with
      | false => rfl
      | true => have := (ends_true l _ i hc).1; omega
    rw [e]
    have hj : Ev (fun k => penstockref21_fate.j0 k l high i true l[i].f0 l[i].f1 l[i].f2 l[i].f3 l[i].f4 l[i].f5 l[i].f6 l[i].f7 l[i].f8) false := by
      refine Ev.step (f := fun _ => some false) (fun k => ?_) (Ev.now _)
      simp only [penstockref21_fate.j0]
      rw [if_pos trivial]
    obtain ⟨K1, h1⟩ := hbel
    obtain ⟨K2, h2⟩ := hj
    refine ⟨max K1 K2, fun k hk => ?_⟩
    show penstockref21_fate.f k l high i = _
    unfold penstockref21_fate.f
    rw [if_pos (by omega), if_pos (by omega), show penstockref21_below.f k l high i = some false from h1 k (by omega), Option.bind_some, if_neg (by simp), rdT41_at hi]
    exact h2 k (by omega)

/-- A record, as the document has it. -/
def to49 (x : S37) : S49 := ⟨x.f0, x.f1, x.f2⟩

end

theorem rdT49_at {l : List S49} {i : Nat} (h : i < l.length) : rd_T49 l (i : Int) = l[i] := by simp [rd_T49, List.getD_eq_getElem?_getD, h]

theorem same_loop (t : List S37) (hn : t.length < 4398046511104) (d : Nat) : ∀ i : Nat, i + d = t.length → Ev (fun k => penstocklaw21_same.l0 k t (t.map to49) t.length i) true := by
  induction d with
  | zero =>
    intro i hi
    refine Ev.step (f := fun _ => some true) (fun k => ?_) (Ev.now _)
    simp only [penstocklaw21_same.l0]
    rw [if_neg (by omega)]
  | succ d ih =>
    intro i hi
    have hlt : i < t.length := by omega
    have hlt2 : i < (t.map to49).length := by rw [List.length_map]; exact hlt
    refine Ev.step (fun k => ?_) (ih (i + 1) (by omega))
    simp only [penstocklaw21_same.l0]
    rw [if_pos (by omega), if_pos (by omega), if_pos (by omega), if_pos (by omega), rdT37_at hlt, rdT49_at hlt2, List.getElem_map, if_pos (show t[i].f0 = (to49 t[i]).f0 from rfl), if_pos (show t[i].f1 = (to49 t[i]).f1 from rfl), if_pos (show t[i].f2.toList = (to49 t[i]).f2.toList from rfl), wrap_next hlt (by omega)]

theorem same_ev (t : List S37) (hn : t.length < 4398046511104) : Ev (fun k => penstocklaw21_same.f k t (t.map to49)) true :=
  Ev.congr (fun k => by unfold penstocklaw21_same.f; rw [if_pos (by rw [List.length_map])]; rfl) (same_loop t hn t.length 0 (by omega))
end Go.Proofs.Ytnbdlkjphdfkpaa

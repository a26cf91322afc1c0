/- The printed functions below, Same and SameList, plain: what they answer. No conditions. -/
import Derived.Test.YtnbdlkjphdfkpaaP2
import Derived.Test.YtnbdlkjphdfkpaaH4
import Derived.Test.YtnbdlkjphdfkpaaH8
namespace Go.Proofs.Ytnbdlkjphdfkpaa
open Go Go.RowKit H Go.Proofs.YtnbdlkjphdfkpaaW.PrintWords Go.Proofs.YtnbdlkjphdfkpaaW.PrintMore

/-! ### below -/
theorem pre_get (l : List S41) (high : Int) {i : Nat} (h : i < (pre l high).length) (hl : i < l.length) : toOf l[i] ≤ high := by
  have e : (pre l high)[i]? = some l[i] := by rw [pre_eq_take, List.getElem?_take, if_pos h, List.getElem?_eq_getElem hl]
  exact pre_le l high _ (List.mem_of_getElem? e)

theorem pre_at (l : List S41) (high : Int) : ∀ (hl : (pre l high).length < l.length), high < toOf l[(pre l high).length] := by
  induction l with
  | nil => intro hl; simp at hl
  | cons b l ih =>
    by_cases hb : toOf b ≤ high
    · have e : pre (b :: l) high = b :: pre l high := by simp only [pre, List.takeWhile_cons]; rw [if_pos (by simpa using hb)]
      intro hl
      have hl2 : (pre l high).length < l.length := by rw [e] at hl; simpa using hl
      have h1 := ih hl2
      simp only [e, List.length_cons, List.getElem_cons_succ]
      exact h1
    · have e : pre (b :: l) high = [] := by simp only [pre, List.takeWhile_cons]; rw [if_neg (by simpa using hb)]
      intro hl
      simp only [e, List.length_nil, List.getElem_cons_zero]
      omega

theorem below_loop (l : List S41) (high : Int) (at_ : Nat) (ha : at_ < l.length) (hn : l.length ≤ 9223372036854775807) (d : Nat) : ∀ i : Nat, i + d = at_ + 1 → i ≤ (pre l high).length → Ev (fun k => penstockref21_below.l0 k l high at_ i) (decide (at_ < (pre l high).length)) := by
  induction d with
  | zero =>
    intro i hi hp
    refine Ev.step (f := fun _ => some (decide (at_ < (pre l high).length))) (fun k => ?_) (Ev.now _)
    simp only [penstockref21_below.l0]
    rw [if_neg (by omega), decide_eq_true (by omega)]
  | succ d ih =>
    intro i hi hp
    have hlt : i < l.length := by omega
    have hto : wrap64 (l[i].f0 + szOf l[i]) = toOf l[i] := rfl
    by_cases hle : toOf l[i] ≤ high
    · have hp2 : i + 1 ≤ (pre l high).length := by
        rcases Nat.lt_or_ge i (pre l high).length with h | h
        · exact h
        · exfalso
          have e : (pre l high).length = i := by omega
          have := pre_at l high (by rw [e]; exact hlt)
          simp only [e] at this
          omega
      refine Ev.step (fun k => ?_) (ih (i + 1) (by omega) hp2)
      simp only [penstockref21_below.l0]
      rw [if_pos (by omega), if_pos (by omega), if_pos (by omega), rdT41_at hlt, size_f, Option.bind_some, hto, if_neg (by omega), wrap_next hlt hn]
    · refine Ev.step (f := fun _ => some (decide (at_ < (pre l high).length))) (fun k => ?_) (Ev.now _)
      simp only [penstockref21_below.l0]
      rw [if_pos (by omega), if_pos (by omega), if_pos (by omega), rdT41_at hlt, size_f, Option.bind_some, hto, if_pos (by omega)]
      rw [decide_eq_false]
      intro h
      exact hle (pre_get l high (by omega) hlt)

theorem below_ev (l : List S41) (high : Int) (at_ : Nat) (ha : at_ < l.length) (hn : l.length ≤ 9223372036854775807) : Ev (fun k => penstockref21_below.f k l high at_) (decide (at_ < (pre l high).length)) :=
  Ev.congr (fun k => rfl) (below_loop l high at_ ha hn (at_ + 1) 0 (by omega) (by omega))

/-! ### Same -/
theorem rd_at {x : List Int} {i : Nat} (h : i < x.length) : rd x (i : Int) = x[i] := by simp [rd, List.getD_eq_getElem?_getD, h]

theorem same3_loop (a b : List Int) (he : a.length = b.length) (hn : a.length ≤ 9223372036854775807) (d : Nat) : ∀ i : Nat, i + d = a.length → Ev (fun k => penstockref03_Same.l0 k a b i) (a.drop i == b.drop i) := by
  induction d with
  | zero =>
    intro i hi
    refine Ev.step (f := fun _ => some (a.drop i == b.drop i)) (fun k => ?_) (Ev.now _)
    simp only [penstockref03_Same.l0]
    rw [if_neg (by omega), List.drop_eq_nil_of_le (by omega), List.drop_eq_nil_of_le (by omega)]
    rfl
  | succ d ih =>
    intro i hi
    have ha : i < a.length := by omega
    have hb : i < b.length := by omega
    rw [List.drop_eq_getElem_cons ha, List.drop_eq_getElem_cons hb]
    by_cases hab : a[i] = b[i]
    · have e : (a[i] :: a.drop (i + 1) == b[i] :: b.drop (i + 1)) = (a.drop (i + 1) == b.drop (i + 1)) := by show (a[i] == b[i] && (a.drop (i + 1) == b.drop (i + 1))) = _; rw [beq_iff_eq.mpr hab, Bool.true_and]
      rw [e]
      refine Ev.step (fun k => ?_) (ih (i + 1) (by omega))
      simp only [penstockref03_Same.l0]
      rw [if_pos (by omega), if_pos (by omega), if_pos (by omega), rd_at ha, rd_at hb, if_pos hab, wrap_next ha hn]
    · have e : (a[i] :: a.drop (i + 1) == b[i] :: b.drop (i + 1)) = false := by show (a[i] == b[i] && (a.drop (i + 1) == b.drop (i + 1))) = _; rw [beq_eq_false_iff_ne.mpr hab, Bool.false_and]
      rw [e]
      refine Ev.step (f := fun _ => some false) (fun k => ?_) (Ev.now _)
      simp only [penstockref03_Same.l0]
      rw [if_pos (by omega), if_pos (by omega), if_pos (by omega), rd_at ha, rd_at hb, if_neg hab]

theorem same3_ev (a b : List Int) (hn : a.length ≤ 9223372036854775807) : Ev (fun k => penstockref03_Same.f k a b) (a == b) := by
  by_cases he : a.length = b.length
  · refine Ev.congr (fun k => ?_) (same3_loop a b he hn a.length 0 (by omega))
    unfold penstockref03_Same.f
    rw [if_pos (by omega)]
    rfl
  · refine Ev.congr (f := fun _ => some (a == b)) (fun k => ?_) (Ev.now _)
    unfold penstockref03_Same.f
    rw [if_neg (by omega)]
    have : (a == b) = false := by
      rw [beq_eq_false_iff_ne]
      intro e
      exact he (by rw [e])
    rw [this]

/-- Are two batches one? -/
def sameB (a b : S41) : Bool := a.f0 == b.f0 && a.f1 == b.f1 && a.f2 == b.f2 && a.f3 == b.f3 && a.f4 == b.f4 && a.f5 == b.f5 && a.f6 == b.f6 && a.f7 == b.f7 && a.f8 == b.f8

theorem sameB_iff (a b : S41) : sameB a b = true ↔ a = b := by
  obtain ⟨a0, a1, a2, a3, a4, a5, a6, a7, a8⟩ := a
  obtain ⟨b0, b1, b2, b3, b4, b5, b6, b7, b8⟩ := b
  simp [sameB, and_assoc]

theorem same7_loop (a b : S41) (he : a.f8.length = b.f8.length) (hf : Fits a) (d : Nat) : ∀ i : Nat, i + d = a.f8.length →
    Ev (fun k => penstockref07_Same.l0 k i a.f0 a.f1 a.f2 a.f3 a.f4 a.f5 a.f6 a.f7 a.f8 b.f0 b.f1 b.f2 b.f3 b.f4 b.f5 b.f6 b.f7 b.f8) (a.f8.drop i == b.f8.drop i) := by
  induction d with
  | zero =>
    intro i hi
    refine Ev.step (f := fun _ => some (a.f8.drop i == b.f8.drop i)) (fun k => ?_) (Ev.now _)
    simp only [penstockref07_Same.l0]
    rw [if_neg (by omega), List.drop_eq_nil_of_le (by omega), List.drop_eq_nil_of_le (by omega)]
    rfl
  | succ d ih =>
    intro i hi
    have ha : i < a.f8.length := by omega
    have hb : i < b.f8.length := by omega
    rw [List.drop_eq_getElem_cons ha, List.drop_eq_getElem_cons hb]
    have h3 := same3_ev a.f8[i] b.f8[i] (by have := hf.2 _ (List.getElem_mem ha); omega)
    refine Ev.step (f := fun k => (penstockref03_Same.f k a.f8[i] b.f8[i]).bind fun t => if t = true then penstockref07_Same.l0 k ((i + 1 : Nat) : Int) a.f0 a.f1 a.f2 a.f3 a.f4 a.f5 a.f6 a.f7 a.f8 b.f0 b.f1 b.f2 b.f3 b.f4 b.f5 b.f6 b.f7 b.f8 else some false) (fun k => ?_) (Ev.bind h3 ?_)
    · simp only [penstockref07_Same.l0]
      rw [if_pos (by omega), if_pos (by omega), if_pos (by omega), rdL1_at ha, rdL1_at hb, wrap_next ha (by have := hf.1; omega)]
    · by_cases hab : a.f8[i] = b.f8[i]
      · have e : (a.f8[i] :: a.f8.drop (i + 1) == b.f8[i] :: b.f8.drop (i + 1)) = (a.f8.drop (i + 1) == b.f8.drop (i + 1)) := by show (a.f8[i] == b.f8[i] && (a.f8.drop (i + 1) == b.f8.drop (i + 1))) = _; rw [beq_iff_eq.mpr hab, Bool.true_and]
        rw [e]
        refine Ev.congr (fun k => ?_) (ih (i + 1) (by omega))
        rw [if_pos (by simpa using hab)]
      · have e : (a.f8[i] :: a.f8.drop (i + 1) == b.f8[i] :: b.f8.drop (i + 1)) = false := by show (a.f8[i] == b.f8[i] && (a.f8.drop (i + 1) == b.f8.drop (i + 1))) = _; rw [beq_eq_false_iff_ne.mpr hab, Bool.false_and]
        rw [e]
        refine Ev.congr (f := fun _ => some false) (fun k => ?_) (Ev.now _)
        rw [if_neg (by simpa using hab)]

theorem same7_ev (a b : S41) (hf : Fits a) : Ev (fun k => penstockref07_Same.f k a.f0 a.f1 a.f2 a.f3 a.f4 a.f5 a.f6 a.f7 a.f8 b.f0 b.f1 b.f2 b.f3 b.f4 b.f5 b.f6 b.f7 b.f8) (sameB a b) := by
  have hno : sameB a b = false → Ev (fun k => penstockref07_Same.j0 k true a.f0 a.f1 a.f2 a.f3 a.f4 a.f5 a.f6 a.f7 a.f8 b.f0 b.f1 b.f2 b.f3 b.f4 b.f5 b.f6 b.f7 b.f8) (sameB a b) := fun h => by
    rw [h]
    refine Ev.step (f := fun _ => some false) (fun k => ?_) (Ev.now _)
    simp only [penstockref07_Same.j0]
    rw [if_pos trivial]
  have hne : ∀ {p : Prop}, ¬ p → (a = b → p) → sameB a b = false := fun hp hq => by
    cases h : sameB a b with
    | false => rfl
    | true => exact absurd (hq ((sameB_iff a b).1 h)) hp
  unfold penstockref07_Same.f
  by_cases h0 : a.f0 = b.f0
  case neg => exact Ev.congr (fun k => if_neg h0) (hno (hne h0 (fun e => by rw [e])))
  by_cases h1 : a.f1 = b.f1
  case neg => exact Ev.congr (fun k => by rw [if_pos h0, if_neg h1]) (hno (hne h1 (fun e => by rw [e])))
  by_cases h2 : a.f2 = b.f2
  case neg => exact Ev.congr (fun k => by rw [if_pos h0, if_pos h1, if_neg h2]) (hno (hne h2 (fun e => by rw [e])))
  by_cases h3 : a.f3 = b.f3
  case neg => exact Ev.congr (fun k => by rw [if_pos h0, if_pos h1, if_pos h2, if_neg h3]) (hno (hne h3 (fun e => by rw [e])))
  by_cases h4 : a.f4 = b.f4
  case neg => exact Ev.congr (fun k => by rw [if_pos h0, if_pos h1, if_pos h2, if_pos h3, if_neg h4]) (hno (hne h4 (fun e => by rw [e])))
  by_cases h5 : (a.f5 != b.f5) = true
  case pos => exact Ev.congr (fun k => by rw [if_pos h0, if_pos h1, if_pos h2, if_pos h3, if_pos h4, if_pos h5]) (hno (hne (p := a.f5 = b.f5) (by simpa using h5) (fun e => by rw [e])))
  by_cases h6 : (a.f6 != b.f6) = true
  case pos => exact Ev.congr (fun k => by rw [if_pos h0, if_pos h1, if_pos h2, if_pos h3, if_pos h4, if_neg h5, if_pos h6]) (hno (hne (p := a.f6 = b.f6) (by simpa using h6) (fun e => by rw [e])))
  by_cases h7 : (a.f7 != b.f7) = true
  case pos => exact Ev.congr (fun k => by rw [if_pos h0, if_pos h1, if_pos h2, if_pos h3, if_pos h4, if_neg h5, if_neg h6, if_pos h7]) (hno (hne (p := a.f7 = b.f7) (by simpa using h7) (fun e => by rw [e])))
  by_cases h8 : a.f8.length = b.f8.length
  case neg =>
    refine Ev.congr (fun k => ?_) (hno (hne h8 (fun e => by rw [e])))
    rw [if_pos h0, if_pos h1, if_pos h2, if_pos h3, if_pos h4, if_neg h5, if_neg h6, if_neg h7]
    have : ((a.f8.length : Int) != (b.f8.length : Int)) = true := by simp; omega
    rw [this]
  have hl := same7_loop a b h8 hf a.f8.length 0 (by omega)
  have e : sameB a b = (a.f8 == b.f8) := by
    have h5' : a.f5 = b.f5 := by simpa using h5
    have h6' : a.f6 = b.f6 := by simpa using h6
    have h7' : a.f7 = b.f7 := by simpa using h7
    unfold sameB
    rw [h0, h1, h2, h3, h4, h5', h6', h7']
    simp
  rw [e]
  refine Ev.congr (f := fun k => penstockref07_Same.j0 k false a.f0 a.f1 a.f2 a.f3 a.f4 a.f5 a.f6 a.f7 a.f8 b.f0 b.f1 b.f2 b.f3 b.f4 b.f5 b.f6 b.f7 b.f8) (fun k => ?_) (Ev.step (fun k => ?_) hl)
  · rw [if_pos h0, if_pos h1, if_pos h2, if_pos h3, if_pos h4, if_neg h5, if_neg h6, if_neg h7]
    have : ((a.f8.length : Int) != (b.f8.length : Int)) = false := by simp; omega
    rw [this]
  · simp only [penstockref07_Same.j0]
    rw [if_neg (by simp)]
    rfl

/-- A list and its copy are one. -/
theorem sameList_loop (l : List S41) (hf : FitsAll l) (d : Nat) : ∀ i : Nat, i + d = l.length → Ev (fun k => penstockref07_SameList.l0 k l l i) true := by
  induction d with
  | zero =>
    intro i hi
    refine Ev.step (f := fun _ => some true) (fun k => ?_) (Ev.now _)
    simp only [penstockref07_SameList.l0]
    rw [if_neg (by omega)]
  | succ d ih =>
    intro i hi
    have hlt : i < l.length := by omega
    have h7 := same7_ev l[i] l[i] (hf.2 _ (List.getElem_mem hlt))
    rw [(sameB_iff l[i] l[i]).2 rfl] at h7
    refine Ev.step (f := fun k => (penstockref07_Same.f k l[i].f0 l[i].f1 l[i].f2 l[i].f3 l[i].f4 l[i].f5 l[i].f6 l[i].f7 l[i].f8 l[i].f0 l[i].f1 l[i].f2 l[i].f3 l[i].f4 l[i].f5 l[i].f6 l[i].f7 l[i].f8).bind fun t => if t = true then penstockref07_SameList.l0 k l l ((i + 1 : Nat) : Int) else some false) (fun k => ?_) (Ev.bind h7 ?_)
    · simp only [penstockref07_SameList.l0]
      rw [if_pos (by omega), if_pos (by omega), if_pos (by omega), rdT41_at hlt, wrap_next hlt (by have := hf.1; omega)]
    · exact Ev.congr (fun k => by rw [if_pos rfl]) (ih (i + 1) (by omega))

theorem sameList_ev (l : List S41) (hf : FitsAll l) : Ev (fun k => penstockref07_SameList.f k l l) true :=
  Ev.congr (fun k => by unfold penstockref07_SameList.f; rw [if_pos rfl]; rfl) (sameList_loop l hf l.length 0 (by omega))
end Go.Proofs.Ytnbdlkjphdfkpaa

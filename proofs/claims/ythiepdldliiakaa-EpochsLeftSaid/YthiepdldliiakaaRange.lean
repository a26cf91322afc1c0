/- A range over a function whose loop variables are plain slots: the law of the kit with its assigning code empty. No conditions. -/
import Derived.Maps.AppendAt
import Derived.Test.YthiepdldliiakaaAll
namespace Go.Proofs.Ythiepdldliiakaa
open Go Go.RowKit Go.Shelf

attribute [local go_sem] Oper.semAt_some

/-- The frame in which a round's body begins. -/
def roundAct (ps : Array Tmp) (xs : Array Value) (a : Act) : Act := { tmps := (ps.zip xs).foldl (fun t (p, v) => t.setIfInBounds p v) a.tmps, defers := [] }

theorem rangeFunc_plain {F : Fence} {n : Nat} {P : Program} {α : Type} {g : Operand} {ps : Array Tmp} {body : Code} {Q : Exit → Act → World → Prop} {a : Act} {w : World}
    (hro : F.round = none) (h1 : 1 ≤ n) {gf : Nat} {lb : Array Value} (hg : a.eval g = .func (.func gf) #[] lb) (hFg : F.fn gf) (eg : ∀ args w, (callFunc gf args).run P w = .ok (.enter gf args) w)
    {encs : α → Array Value} {n₀ : Nat} {S Sp : List α → Prop} {N : Nat} {w0 : World} (hseq : SeqStopsK F (n - 1) P gf lb encs (Below n₀) S Sp N w0) (hn₀ : n₀ ≤ w.heap.size)
    (hb0 : Below w0.heap.size w0 w) (hps : ∀ x, (encs x).size = ps.size)
    (I : List α → World → Prop) (Ix : Code → List α → World → Prop) (hI : OwnFrom w.heap.size I) (hIx : ∀ c, OwnFrom w.heap.size (Ix c)) (h0 : I [] w)
    (hbody : ∀ (l : Nat) (pre : List α) (x : α) (W : World), I pre W → pre.length < N → body.wpIn (F.inRound l) (n - 1 - 1) P (ownPostG w.heap.size (Below n₀) I Ix (pre ++ [x]) W) (roundAct ps (encs x) a) W)
    (hdone : ∀ (D : Nat) (xs : List α) (W : World), w.heap.size ≤ D → S xs → I xs W → W.heap[D]? = some (.deferred (some [])) → Q .normal { a with defers := { target := .collected D, args := #[] } :: a.defers } W)
    (hstop : ∀ (D : Nat) (c : Code) (pre : List α) (W : World), w.heap.size ≤ D → Sp pre → Ix c pre W → W.heap[D]? = some (.deferred (some [])) → c.wpIn F n P Q { a with defers := { target := .collected D, args := #[] } :: a.defers } W) :
    (Code.rangeFunc g ps .skip body).wpIn F n P Q a w := by
  refine wpIn_rangeFunc_ownG hro h1 hg hFg eg hseq belowK_t (fun W l o o' hl h _ _ => belowK_b hn₀ W l o o' hl h ‹_› ‹_›) hb0 hps I Ix hI hIx h0 (fun x => roundAct ps (encs x) a) ?_ hbody hdone hstop
  intro l x W K hK
  show Code.wpIn _ _ _ Code.skip _ (roundAct ps (encs x) a) W
  gi_wp2
  exact hK

theorem rangeFunc_asg {F : Fence} {n : Nat} {P : Program} {α : Type} {g : Operand} {ps : Array Tmp} {assign body : Code} {Q : Exit → Act → World → Prop} {a : Act} {w : World}
    (hro : F.round = none) (h1 : 1 ≤ n) {gf : Nat} {lb : Array Value} (hg : a.eval g = .func (.func gf) #[] lb) (hFg : F.fn gf) (eg : ∀ args w, (callFunc gf args).run P w = .ok (.enter gf args) w)
    {encs : α → Array Value} {n₀ : Nat} {S Sp : List α → Prop} {N : Nat} {w0 : World} (hseq : SeqStopsK F (n - 1) P gf lb encs (Below n₀) S Sp N w0) (hn₀ : n₀ ≤ w.heap.size)
    (hb0 : Below w0.heap.size w0 w) (hps : ∀ x, (encs x).size = ps.size)
    (I : List α → World → Prop) (Ix : Code → List α → World → Prop) (hI : OwnFrom w.heap.size I) (hIx : ∀ c, OwnFrom w.heap.size (Ix c)) (h0 : I [] w)
    (asg : Act → Act) (hasg : ∀ (l : Nat) (a' : Act) (W : World) (K : Act → World → Prop), K (asg a') W → assign.wpIn (F.inRound l) (n - 1 - 1) P (Exit.then K (fun _ _ _ => False)) a' W)
    (hbody : ∀ (l : Nat) (pre : List α) (x : α) (W : World), I pre W → pre.length < N → body.wpIn (F.inRound l) (n - 1 - 1) P (ownPostG w.heap.size (Below n₀) I Ix (pre ++ [x]) W) (asg (roundAct ps (encs x) a)) W)
    (hdone : ∀ (D : Nat) (xs : List α) (W : World), w.heap.size ≤ D → S xs → I xs W → W.heap[D]? = some (.deferred (some [])) → Q .normal { a with defers := { target := .collected D, args := #[] } :: a.defers } W)
    (hstop : ∀ (D : Nat) (c : Code) (pre : List α) (W : World), w.heap.size ≤ D → Sp pre → Ix c pre W → W.heap[D]? = some (.deferred (some [])) → c.wpIn F n P Q { a with defers := { target := .collected D, args := #[] } :: a.defers } W) :
    (Code.rangeFunc g ps assign body).wpIn F n P Q a w := by
  refine wpIn_rangeFunc_ownG hro h1 hg hFg eg hseq belowK_t (fun W l o o' hl h _ _ => belowK_b hn₀ W l o o' hl h ‹_› ‹_›) hb0 hps I Ix hI hIx h0 (fun x => asg (roundAct ps (encs x) a)) ?_ hbody hdone hstop
  intro l x W K hK
  exact hasg l _ W K hK

/-- Two loop variables that are assigned. -/
def asg2 (d1 s1 d2 s2 : Nat) (a : Act) : Act := { tmps := (a.tmps.setIfInBounds d1 (a.tmps[s1]?.getD undef)).setIfInBounds d2 (a.tmps[s2]?.getD undef), defers := a.defers }

theorem cell_one_set (w : World) (p : Addr) (u x : Value) (t : TypeId) : ∀ (j : Nat) (z : Value), [x][j]? = some z → ((w.setCell p u).alloc (.cells #[x] t)).cell? ((⟨w.heap.size, 0, none⟩ : Addr).add j) = some z := by
  have h := cell_one_new (w.setCell p u) x t
  rw [show (w.setCell p u).heap.size = w.heap.size by simp [World.setCell]] at h
  exact h

theorem IsCache.below {B : Nat} {a b : World} {g : Nat} {v : Value} {xs : List (Int × Int)} (hc : IsCache a g v xs) (hb : Below B a b) (hg : g < B) (hv : ∀ k, v.ownBlock = some k → k < B) : IsCache b g v xs := by
  refine ⟨by rw [hb.block g hg]; exact hc.1, hc.2.1, ?_⟩
  rcases hc.2.2 with hn | ⟨r, cap, cur, rfl, h1, h2, rest⟩
  · exact .inl hn
  · exact .inr ⟨r, cap, cur, rfl, h1, by rw [hb.block r (hv r rfl)]; exact h2, rest⟩

theorem row_kept {X Y : World} {row : Option Nat} {n₀ e size n : Nat} {v : Value} {xs : List Value} (h : X.ownsRow n₀ e size v n xs) (hg : X.grownBy Y row) (hrow : ∀ r, row = some r → ∃ o : Obj, X.heap[r]? = some o ∧ o.isCells = false) : Y.ownsRow n₀ e size v n xs := by
  refine h.kept hg ?_
  rcases h.2 with ⟨rfl, _⟩ | ⟨g, cap, cur, rfl, _, hgb, _⟩
  · exact .inl rfl
  · refine .inr fun e' => ?_
    obtain ⟨o, ho, hc⟩ := hrow g (by simpa [Value.ownBlock] using e'.symm)
    rw [hgb] at ho; cases ho; cases hc

theorem box_kept {X Y : World} {row : Option Nat} {B t : Nat} {v : Value} (h : Boxed X B t v) (hg : X.grownBy Y row) (hrow : ∀ r, row = some r → ∃ o : Obj, X.heap[r]? = some o ∧ o.isCells = false) : Boxed Y B t v :=
  h.kept hg (fun e' => by
    obtain ⟨o, ho, hc⟩ := hrow B e'.symm
    rw [show X.heap[B]? = _ from h] at ho; cases ho; cases hc)

theorem Fr.box {w0 w : World} (h : Fr (fun _ => False) w0 w) : Below w0.heap.size w0 w := h.below (fun _ _ x => x)

theorem put_below {w0 W : World} {D : Nat} (h : Below w0.heap.size w0 W) (hD : w0.heap.size ≤ D) (hK : W.heap[D]? = some (.deferred (some []))) : Below w0.heap.size w0 (W.putObj D (.deferred none)) :=
  h.trans (belowK_b (w := w0) (Nat.le_refl _) W D _ _ hD hK rfl rfl)

/-- A function whose only range over a function has run to its end leaves. -/
theorem leave_one {F : Fence} {n : Nat} {P : Program} {fn : Func} {tmps : Array Value} {R : Ending → World → Prop} {D : Nat} {W : World} {v : Value}
    (hK : W.heap[D]? = some (.deferred (some []))) (hres : (results fn tmps).run P (W.putObj D (.deferred none)) = .ok v (W.putObj D (.deferred none))) (h : R (.returned v) (W.putObj D (.deferred none))) :
    LeavesInM F n P fn tmps R [{ target := .collected D, args := #[] }] .returning W :=
  ⟨by simp, .inl ⟨_, _, rfl, run_takeDeferred hK, ⟨v, hres, h⟩⟩⟩

end Go.Proofs.Ythiepdldliiakaa

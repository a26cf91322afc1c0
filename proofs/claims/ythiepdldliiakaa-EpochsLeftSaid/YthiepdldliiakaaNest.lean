/- A range over a function within a round of another: the kit's two laws at caches' iterators, the loop variables assigned. No conditions. -/
import Derived.Test.YthiepdldliiakaaRange
import Derived.RangeFuncNested
namespace Go.Proofs.Ythiepdldliiakaa
open Go Go.RowKit Go.Shelf

theorem rangeFunc_asgH {F : Fence} {n : Nat} {P : Program} {α : Type} {g : Operand} {ps : Array Tmp} {assign body : Code} {Q : Exit → Act → World → Prop} {a : Act} {w : World}
    (hro : F.round = none) (h1 : 1 ≤ n) {gf : Nat} {lb : Array Value} (hg : a.eval g = .func (.func gf) #[] lb) (hFg : F.fn gf) (eg : ∀ args w, (callFunc gf args).run P w = .ok (.enter gf args) w)
    {encs : α → Array Value} {n₀ : Nat} {S Sp : List α → Prop} {N : Nat} {w0 : World} (hseq : SeqStopsK F (n - 1) P gf lb encs (Below n₀) S Sp N w0) (hn₀ : n₀ ≤ w.heap.size)
    (hb0 : Below w0.heap.size w0 w) (hps : ∀ x, (encs x).size = ps.size)
    (I : List α → World → Prop) (Ix : Code → List α → World → Prop) (hI : OwnFrom w.heap.size I) (hIx : ∀ c, OwnFrom w.heap.size (Ix c)) (h0 : I [] w)
    (asg : Act → Act) (hasg : ∀ (l : Nat) (a' : Act) (W : World) (K : Act → World → Prop), K (asg a') W → assign.wpIn (F.inRound l) (n - 1 - 1) P (Exit.then K (fun _ _ _ => False)) a' W)
    (hbody : ∀ (l : Nat) (pre : List α) (x : α) (W : World), w.heap.size ≤ l → (∃ r, W.heap[l]? = some (.loop r)) → I pre W → pre.length < N → body.wpIn (F.inRound l) (n - 1 - 1) P (ownPostG w.heap.size (Below n₀) I Ix (pre ++ [x]) W) (asg (roundAct ps (encs x) a)) W)
    (hdone : ∀ (D : Nat) (xs : List α) (W : World), w.heap.size ≤ D → S xs → I xs W → W.heap[D]? = some (.deferred (some [])) → Q .normal { a with defers := { target := .collected D, args := #[] } :: a.defers } W)
    (hstop : ∀ (D : Nat) (c : Code) (pre : List α) (W : World), w.heap.size ≤ D → Sp pre → Ix c pre W → W.heap[D]? = some (.deferred (some [])) → c.wpIn F n P Q { a with defers := { target := .collected D, args := #[] } :: a.defers } W) :
    (Code.rangeFunc g ps assign body).wpIn F n P Q a w := by
  refine wpIn_rangeFunc_ownH hro h1 hg hFg eg hseq belowK_t (fun W l o o' hl h _ _ => belowK_b hn₀ W l o o' hl h ‹_› ‹_›) hb0 hps I Ix hI hIx h0 (fun x a' _ => a' = asg (roundAct ps (encs x) a)) (fun _ _ _ _ _ _ hs _ _ => hs) ?_ ?_ hdone hstop
  · intro l pre x W K hi hK
    exact hasg l _ W K (hK _ _ (KeepsFrom.refl _ _) (Below.refl _ _) hi rfl)
  · rintro l pre x a' W hl hr hi rfl hlt
    exact hbody l pre x W hl hr hi hlt

theorem rangeFunc_asgN {F : Fence} {n : Nat} {P : Program} {α : Type} {g : Operand} {ps : Array Tmp} {assign body : Code} {Q : Exit → Act → World → Prop} {a : Act} {w : World}
    {l₀ : Nat} {r₀ : Loop} (hro : F.round = some l₀) (hl₀ : w.heap[l₀]? = some (.loop r₀)) (h1 : 1 ≤ n) {gf : Nat} {lb : Array Value} (hg : a.eval g = .func (.func gf) #[] lb) (hFg : F.fn gf) (eg : ∀ args w, (callFunc gf args).run P w = .ok (.enter gf args) w)
    {encs : α → Array Value} {n₀ : Nat} {S Sp : List α → Prop} {N : Nat} {w0 : World} (hseq : SeqStopsK F (n - 1) P gf lb encs (Below n₀) S Sp N w0) (hn₀ : n₀ ≤ w.heap.size)
    (hb0 : Below w0.heap.size w0 w) (hps : ∀ x, (encs x).size = ps.size)
    (I : List α → World → Prop) (Ix : Code → List α → World → Prop) (hI : OwnFrom w.heap.size I) (hIx : ∀ c, OwnFrom w.heap.size (Ix c)) (h0 : I [] w)
    (asg : Act → Act) (hasg : ∀ (l : Nat) (a' : Act) (W : World) (K : Act → World → Prop), K (asg a') W → assign.wpIn (F.inRound l) (n - 1 - 1) P (Exit.then K (fun _ _ _ => False)) a' W)
    (hbody : ∀ (l : Nat) (pre : List α) (x : α) (W : World), I pre W → pre.length < N → body.wpIn (F.inRound l) (n - 1 - 1) P (ownPostG w.heap.size (Below n₀) I Ix (pre ++ [x]) W) (asg (roundAct ps (encs x) a)) W)
    (hdone : ∀ (xs : List α) (W : World), S xs → I xs W → Q .normal a W)
    (hstop : ∀ (c : Code) (pre : List α) (W : World), Sp pre → Ix c pre W → c.wpIn F n P Q a W) :
    (Code.rangeFunc g ps assign body).wpIn F n P Q a w := by
  refine wpIn_rangeFunc_ownN hro hl₀ h1 hg hFg eg hseq belowK_t (fun W l o o' hl h _ _ => belowK_b hn₀ W l o o' hl h ‹_› ‹_›) hb0 hps I Ix hI hIx h0 (fun x a' _ => a' = asg (roundAct ps (encs x) a)) (fun _ _ _ _ _ _ hs _ _ => hs) ?_ ?_ hdone hstop
  · intro l pre x W K hi hK
    exact hasg l _ W K (hK _ _ (KeepsFrom.refl _ _) (Below.refl _ _) hi rfl)
  · rintro l pre x a' W hl hr hi rfl hlt
    exact hbody l pre x W hi hlt
end Go.Proofs.Ythiepdldliiakaa

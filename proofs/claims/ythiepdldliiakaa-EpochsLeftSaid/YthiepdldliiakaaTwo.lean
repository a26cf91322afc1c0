/- A cache and the reference's, side by side. No conditions. -/
import Derived.Test.YthiepdldliiakaaSame
namespace Go.Proofs.Ythiepdldliiakaa
open Go Go.RowKit

theorem own_type {w : World} {base : Nat} {e : TypeId} {size n : Nat} {v : Value} {xs : List Value} (h : w.ownsRow base e size v n xs) {k : Nat} (hk : v.ownBlock = some k) : ∃ cs, w.heap[k]? = some (.cells cs e (0, 0)) := by
  rcases h.2 with ⟨rfl, _⟩ | ⟨r, c, cur, rfl, _, hr, _⟩
  · simp [Value.ownBlock] at hk
  · simp [Value.ownBlock] at hk
    subst hk
    exact ⟨cur, hr⟩

theorem type_ne {w : World} {k : Nat} {cs cs' : Array Value} {t t' : TypeId} {r r' : Nat × Nat} (h : w.heap[k]? = some (.cells cs t r)) (h' : w.heap[k]? = some (.cells cs' t' r')) : t = t' := by
  rw [h] at h'
  injection h' with h'
  injection h' with _ h' _

theorem Moved.keep {w w' : World} {g : Nat} {v v' : Value} {xs : List (Int × Int)} (hm : Moved g v v' w w') (hc : IsCache w g v xs) {b : Nat} {cs : Array Value} {t : TypeId} (hb : w.heap[b]? = some (.cells cs t (0, 0))) (h1 : t ≠ 50) (h2 : t ≠ 52) : w'.heap[b]? = some (.cells cs t (0, 0)) := by
  refine hm.fr.heap hb (fun hs => ?_)
  rcases hs with rfl | hs
  · exact h1 (type_ne hb hc.1)
  · obtain ⟨_, ho⟩ := own_type hc.2 hs
    exact h2 (type_ne hb ho)

theorem Moved2.keep {w w' : World} {g : Nat} {va vb va' vb' : Value} {xs : List (Int × Int)} (hm : Moved2 g va vb va' vb' w w') (hc : IsRef w g va vb xs) {b : Nat} {cs : Array Value} {t : TypeId} (hb : w.heap[b]? = some (.cells cs t (0, 0))) (h1 : t ≠ 28) (h2 : t ≠ 3) : w'.heap[b]? = some (.cells cs t (0, 0)) := by
  refine hm.fr.heap hb (fun hs => ?_)
  rcases hs with rfl | hs | hs
  · exact h1 (type_ne hb hc.blk)
  · obtain ⟨_, ho⟩ := own_type hc.ra hs
    exact h2 (type_ne hb ho)
  · obtain ⟨_, ho⟩ := own_type hc.rb hs
    exact h2 (type_ne hb ho)

/-- Both caches, new since w0. -/
structure Two (w0 w : World) (g : Nat) (v : Value) (xs : List (Int × Int)) (gr : Nat) (va vb : Value) (ys : List (Int × Int)) : Prop where
  c : IsCache w g v xs
  r : IsRef w gr va vb ys
  fr : Fr (fun _ => False) w0 w
  hg : w0.heap.size ≤ g
  hv : ∀ k, v.ownBlock = some k → w0.heap.size ≤ k
  hgr : w0.heap.size ≤ gr
  hr : ∀ k, va.ownBlock = some k ∨ vb.ownBlock = some k → w0.heap.size ≤ k

section
variable {w0 w w' : World} {g gr : Nat} {v va vb v' va' vb' : Value} {xs ys xs' ys' : List (Int × Int)}

theorem Two.step (h : Two w0 w g v xs gr va vb ys) (hf : Fr (fun _ => False) w w') : Two w0 w' g v xs gr va vb ys :=
  ⟨h.c.fr hf (fun x => x) (fun _ _ x => x), h.r.fr hf (fun x => x) (fun _ _ x => x), h.fr.trans hf, h.hg, h.hv, h.hgr, h.hr⟩

theorem Two.alloc (h : Two w0 w g v xs gr va vb ys) (o : Obj) : Two w0 (w.alloc o) g v xs gr va vb ys := h.step ((Fr.refl _ _).alloc o)

theorem Two.moved (h : Two w0 w g v xs gr va vb ys) (hc : IsCache w' g v' xs') (hm : Moved g v v' w w') : Two w0 w' g v' xs' gr va vb ys := by
  obtain ⟨f1, f2⟩ := hm.fr_new h.fr h.hg h.hv
  refine ⟨hc, h.r.fr hm.fr (fun hs => ?_) (fun k hk hs => ?_), f1, h.hg, f2, h.hgr, h.hr⟩
  · rcases hs with e | hs
    · have := type_ne (e ▸ h.r.blk) h.c.1
      cases this
    · obtain ⟨_, ho⟩ := own_type h.c.2 hs
      have := type_ne h.r.blk ho
      cases this
  · obtain ⟨_, hk'⟩ : ∃ cs, w.heap[k]? = some (.cells cs 3 (0, 0)) := hk.elim (own_type h.r.ra) (own_type h.r.rb)
    rcases hs with e | hs
    · subst e
      have := type_ne hk' h.c.1
      cases this
    · obtain ⟨_, ho⟩ := own_type h.c.2 hs
      have := type_ne hk' ho
      cases this

theorem Two.moved2 (h : Two w0 w g v xs gr va vb ys) (hr : IsRef w' gr va' vb' ys') (hm : Moved2 gr va vb va' vb' w w') : Two w0 w' g v xs gr va' vb' ys' := by
  refine ⟨h.c.fr hm.fr (fun hs => ?_) (fun k hk hs => ?_), hr, h.fr.trans' hm.fr (fun i hi hs => ?_), h.hg, h.hv, h.hgr, fun k hk => (hm.own k hk).elim (h.hr k) (fun hl => Nat.le_trans h.fr.size hl)⟩
  · rcases hs with e | hs
    · have := type_ne (e ▸ h.c.1) h.r.blk
      cases this
    · obtain ⟨_, ho⟩ : ∃ cs, w.heap[g]? = some (.cells cs 3 (0, 0)) := hs.elim (own_type h.r.ra) (own_type h.r.rb)
      have := type_ne h.c.1 ho
      cases this
  · obtain ⟨_, hk'⟩ := own_type h.c.2 hk
    rcases hs with e | hs
    · subst e
      have := type_ne hk' h.r.blk
      cases this
    · obtain ⟨_, ho⟩ : ∃ cs, w.heap[k]? = some (.cells cs 3 (0, 0)) := hs.elim (own_type h.r.ra) (own_type h.r.rb)
      have := type_ne hk' ho
      cases this
  · rcases hs with rfl | hs
    · exact absurd h.hgr (by omega)
    · exact absurd (h.hr i hs) (by omega)
end

theorem rassign_rise (g : Nat) (va vb : Value) (xs : List (Int × Int)) (e a : Int) (w : World) (h : IsRef w g va vb xs) (hlen : xs.length < 8796093022200) (hR : Rise xs) :
    Calls Try.prog 12 #[.pointer (some ⟨g, 0, none⟩), .int .i64 e, .int .i64 a] w fun en w' => en = .returned (.int .i64 (assign xs e a).1) ∧ ∃ va' vb', IsRef w' g va' vb' (assign xs e a).2 ∧ Moved2 g va vb va' vb' w w' := by
  refine (rassign_calls g va vb xs e a w h hlen).mono ?_
  rintro en w' ⟨rfl, va', vb', h1, h2⟩
  rw [rassign_eq hR] at h1 ⊢
  exact ⟨rfl, va', vb', h1, h2⟩

theorem rcut_rise (g : Nat) (va vb : Value) (xs : List (Int × Int)) (a : Int) (w : World) (h : IsRef w g va vb xs) (hlen : xs.length < 8796093022200) (hR : Rise xs) :
    Calls Try.prog 14 #[.pointer (some ⟨g, 0, none⟩), .int .i64 a] w fun e w' => e = .returned (.tuple #[]) ∧ ∃ va' vb', IsRef w' g va' vb' (cut xs a) ∧ Moved2 g va vb va' vb' w w' := by
  have := rcut_calls g va vb xs a w h hlen
  rwa [keep_eq hR] at this

theorem new_ref (w : World) : IsRef (w.alloc (.cells #[.slice none 0 0, .slice none 0 0] 28)) w.heap.size (.slice none 0 0) (.slice none 0 0) [] :=
  ⟨heap_alloc_new w _, World.ownsRow_nil _ _ _ _, World.ownsRow_nil _ _ _ _, fun j hj => by cases hj⟩

/-- One call of a script. -/
def playStep (xs : List (Int × Int)) (o : OpD) : List (Int × Int) := if o.kind = 0 then (assign xs o.epoch o.at_).2 else cut xs o.at_

/-- What the caches hold behind calls. -/
def plays (os : List OpD) : List (Int × Int) := os.foldl playStep []

theorem plays_take (os : List OpD) (k : Nat) (o : OpD) (h : os[k]? = some o) : plays (os.take (k + 1)) = playStep (plays (os.take k)) o := by
  rw [List.take_add_one, h]
  simp [plays]

theorem playStep_len (xs : List (Int × Int)) (o : OpD) : (playStep xs o).length ≤ xs.length + 1 := by
  unfold playStep
  split
  · exact assign_len _ _ _
  · unfold cut; rw [List.length_take]; omega

theorem plays_len (os : List OpD) (k : Nat) : (plays (os.take k)).length ≤ k := by
  induction k with
  | zero => simp [plays]
  | succ k ih =>
    by_cases hk : k < os.length
    · rw [plays_take os k _ (List.getElem?_eq_getElem hk)]
      have := playStep_len (plays (os.take k)) os[k]
      omega
    · rw [List.take_of_length_le (by omega)]
      rw [List.take_of_length_le (by omega)] at ih
      omega

theorem plays_rise (os : List OpD) (hb : ∀ o ∈ os, o.epoch ≤ 9223372036854775807 ∧ o.at_ ≤ 9223372036854775807) (k : Nat) : Rise (plays (os.take k)) := by
  induction k with
  | zero => exact rise_nil
  | succ k ih =>
    by_cases hk : k < os.length
    · rw [plays_take os k _ (List.getElem?_eq_getElem hk)]
      have hbo := hb _ (List.getElem_mem hk)
      unfold playStep
      split
      · exact rise_assign ih _ _ hbo.1 hbo.2
      · exact rise_cut ih _
    · rw [List.take_of_length_le (by omega)]
      rwa [List.take_of_length_le (by omega)] at ih
end Go.Proofs.Ythiepdldliiakaa

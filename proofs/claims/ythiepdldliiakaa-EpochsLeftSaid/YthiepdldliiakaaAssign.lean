/- The program's Cache: Cut and Last in one word each, Assign by contract. No conditions. -/
import Derived.Test.YthiepdldliiakaaCut
import Derived.WalkSmall
import Derived.Deep.AppendLies
namespace Go.Proofs.Ythiepdldliiakaa
open Go Go.RowKit

/-- A cache's list is written in place or anew; all else stands. -/
structure Moved (g : Nat) (v v' : Value) (w w' : World) : Prop where
  fr : Fr (fun k => k = g ∨ v.ownBlock = some k) w w'
  own : ∀ k, v'.ownBlock = some k → v.ownBlock = some k ∨ w.heap.size ≤ k

theorem Moved.refl (g : Nat) (v : Value) (w : World) : Moved g v v w w := ⟨Fr.refl _ _, fun _ h => .inl h⟩
theorem Moved.of_fr {g : Nat} {v : Value} {w w' : World} (h : Fr (fun _ => False) w w') : Moved g v v w w' := ⟨h.weak (fun _ _ h => h.elim), fun _ h => .inl h⟩
theorem Moved.trans {g : Nat} {v v1 v2 : Value} {a b c : World} (h : Moved g v v1 a b) (k : Moved g v1 v2 b c) : Moved g v v2 a c :=
  ⟨h.fr.trans' k.fr (fun i hi hs => hs.elim .inl (fun e => (h.own i e).elim .inr (fun hl => by omega))), fun i e => (k.own i e).elim (h.own i) (fun hl => .inr (Nat.le_trans h.fr.size hl))⟩

/-- What a cache holds behind a Cut. -/
def cut (xs : List (Int × Int)) (at_ : Int) : List (Int × Int) := xs.take (cutTo xs at_ xs.length)

theorem IsCache.fr {S : Nat → Prop} {w w' : World} {g : Nat} {v : Value} {xs : List (Int × Int)} (h : IsCache w g v xs) (hf : Fr S w w') (hg : ¬ S g) (hs : ∀ k, v.ownBlock = some k → ¬ S k) : IsCache w' g v xs :=
  ⟨hf.heap h.1 hg, hf.row h.2 hs⟩

theorem IsCache.ne {w : World} {g : Nat} {v : Value} {xs : List (Int × Int)} (h : IsCache w g v xs) : v.ownBlock ≠ some g := by
  intro he
  rcases h.2.2 with ⟨rfl, _⟩ | ⟨r, c, cur, rfl, _, hr, _⟩
  · simp [Value.ownBlock] at he
  · simp [Value.ownBlock] at he
    subst he
    rw [h.1] at hr
    injection hr with hr
    injection hr with _ hr
    cases hr

theorem IsCache.cut {w : World} {g : Nat} {v : Value} {xs : List (Int × Int)} (h : IsCache w g v xs) (k : Nat) (hk : k ≤ xs.length) :
    IsCache (w.setCell ⟨g, 0, none⟩ (cutV v k)) g (cutV v k) (xs.take k) ∧ Moved g v (cutV v k) w (w.setCell ⟨g, 0, none⟩ (cutV v k)) := by
  have hne := h.ne
  have ho : (cutV v k).ownBlock = v.ownBlock := by
    rcases row_cases h.2 with ⟨rfl, _⟩ | ⟨r, c, rfl, _⟩ <;> rfl
  refine ⟨⟨one_setCell h.1, ?_⟩, ⟨(Fr.refl _ w).setCell (fun _ => .inl rfl) _, fun i hi => .inl (by rw [← ho]; exact hi)⟩⟩
  have hl : (xs.take k).length = k := by rw [List.length_take]; omega
  refine ownsRow_setCell_other ?_ (by rw [ho]; exact hne) _
  rw [hl, cellsOf_take]
  rcases row_cases h.2 with ⟨rfl, hn⟩ | ⟨r, c, rfl, _⟩
  · have hx : xs = [] := List.eq_nil_of_length_eq_zero hn
    subst hx
    have hk0 : k = 0 := by simpa using hk
    subst hk0
    exact h.2
  · exact row_take h.2 hk

/-- Cut, in one word. -/
def CutPost (g : Nat) (v : Value) (xs : List (Int × Int)) (at_ : Int) (w : World) (e : Ending) (w' : World) : Prop :=
  e = .returned (.tuple #[]) ∧ ∃ v', IsCache w' g v' (cut xs at_) ∧ Moved g v v' w w'

theorem cut_calls (g : Nat) (v : Value) (xs : List (Int × Int)) (at_ : Int) (w : World) (h : IsCache w g v xs) :
    Calls Try.prog 13 #[.pointer (some ⟨g, 0, none⟩), .int .i64 at_] w (CutPost g v xs at_ w) := by
  refine (cut_some g v xs at_ w h).mono ?_
  rintro e w' ⟨rfl, rfl⟩
  exact ⟨rfl, _, (h.cut _ (cutTo_le _ _ _)).1, (h.cut _ (cutTo_le _ _ _)).2⟩

/-- The last pair, and whether there is one. -/
def lastOf (xs : List (Int × Int)) : Int × Int × Bool :=
  match xs.getLast? with
  | some x => (x.1, x.2, true)
  | none => (0, 0, false)

theorem last_calls (g : Nat) (v : Value) (xs : List (Int × Int)) (w : World) (h : IsCache w g v xs) :
    Calls Try.prog 19 #[.pointer (some ⟨g, 0, none⟩)] w fun en w' => en = .returned (.tuple #[.int .i64 (lastOf xs).1, .int .i64 (lastOf xs).2.1, .bool (lastOf xs).2.2]) ∧ Fr (fun _ => False) w w' := by
  rcases List.eq_nil_or_concat xs with rfl | ⟨ys, ⟨e, a⟩, rfl⟩
  · refine (last_none g v w h).mono ?_
    rintro e w' ⟨rfl, rfl⟩
    exact ⟨rfl, Fr.refl _ _⟩
  · rw [List.concat_eq_append] at h ⊢
    refine (last_some g v ys e a w h).mono ?_
    rintro en w' ⟨rfl, hf⟩
    exact ⟨by simp [lastOf], hf⟩

/-- What Assign answers, and what the cache holds behind it. -/
def assign (xs : List (Int × Int)) (epoch at_ : Int) : Int × List (Int × Int) :=
  if epoch < 0 ∨ at_ < 0 then (1, xs)
  else if (lastOf xs).2.2 = true ∧ epoch ≤ (lastOf xs).1 then (if epoch = (lastOf xs).1 then (0, xs) else (5, xs))
  else (0, cut xs at_ ++ [(epoch, at_)])

theorem assign_nil (epoch at_ : Int) (w : World) : Calls Try.prog 11 #[.pointer none, .int .i64 epoch, .int .i64 at_] w fun e w' => e = .returned (.int .i64 5) ∧ w' = w := by
  go_enter Try.func11, Try.ntmps11
  go_wp2
  go_ret
  exact ⟨rfl, rfl⟩

/-- Assign, in one word. -/
def AssignPost (g : Nat) (v : Value) (xs : List (Int × Int)) (epoch at_ : Int) (w : World) (e : Ending) (w' : World) : Prop :=
  e = .returned (.int .i64 (assign xs epoch at_).1) ∧ ∃ v', IsCache w' g v' (assign xs epoch at_).2 ∧ Moved g v v' w w'

theorem info52 : (Try.prog.info? 52).map (fun i => (i.zero, i.size, i.bytes)) = some (some (.agg #[.int .i64 0, .int .i64 0]), 2, 16) := by kernel_rfl

theorem row_some {w : World} {base : Nat} {e : TypeId} {size n : Nat} {v : Value} {xs : List Value} (h : w.ownsRow base e size v (n + 1) xs) : ∃ r c, v = .slice (some ⟨r, 0, none⟩) (n + 1) c := by
  rcases row_cases h with ⟨_, h0⟩ | ⟨r, c, rfl, _⟩
  · omega
  · exact ⟨r, c, rfl⟩

theorem assign_heap {g : Nat} {v2 : Value} {ys : List (Int × Int)} {w2 w3 : World} {o : Obj} (hc2 : IsCache w2 g v2 ys) (hg3 : (w2.alloc o).grownBy w3 v2.ownBlock) : w3.heap[g]? = some (.cells #[v2] 50 (0, 0)) := by
  rw [hg3.block g (by have := lt_of_block hc2.1; simp; omega) (fun e => hc2.ne e.symm), Below.heap_alloc _ _ _ (lt_of_block hc2.1)]
  exact hc2.1

theorem assign_fin {g : Nat} {v v2 : Value} {r3 c3 : Nat} {xs : List (Int × Int)} {epoch at_ : Int} {w w1 w2 w3 : World} {o : Obj} (h : IsCache w g v xs) (hf : Fr (fun _ => False) w w1) (hc2 : IsCache w2 g v2 (cut xs at_)) (hm2 : Moved g v v2 w1 w2)
    (ho3 : w3.ownsRow 0 52 2 (.slice (some ⟨r3, 0, none⟩) ((cut xs at_).length + 1) c3) ((cut xs at_).length + 1) (cellsOf (cut xs at_) ++ [.int .i64 epoch, .int .i64 at_])) (hg3 : (w2.alloc o).grownBy w3 v2.ownBlock) (hh : w3.heap[g]? = some (.cells #[v2] 50 (0, 0))) (hat : v2.ownBlock = some r3 ∨ w2.heap.size ≤ r3)
    (hp : assign xs epoch at_ = (0, cut xs at_ ++ [(epoch, at_)])) : AssignPost g v xs epoch at_ w (.returned (.int .i64 0)) (w3.setCell ⟨g, 0, none⟩ (.slice (some ⟨r3, 0, none⟩) ((cut xs at_).length + 1) c3)) := by
  generalize hv3 : Value.slice (some ⟨r3, 0, none⟩) ((cut xs at_).length + 1) c3 = v3 at ho3 ⊢
  have hob : v3.ownBlock = some r3 := by rw [← hv3]; rfl
  clear hv3
  have hne : v3.ownBlock ≠ some g := by
    intro he
    rcases ho3.2 with ⟨rfl, _⟩ | ⟨r, c, cur, rfl, _, hr, _⟩
    · simp [Value.ownBlock] at he
    · simp [Value.ownBlock] at he
      subst he
      rw [hh] at hr
      injection hr with hr
      injection hr with _ hr
      cases hr
  have hfr : Fr (fun k => k = g ∨ v.ownBlock = some k) w (w3.setCell ⟨g, 0, none⟩ v3) := by
    refine Fr.setCell ?_ (fun _ => .inl rfl) _
    refine ((hf.weak (fun _ _ x => x.elim)).trans' hm2.fr (fun _ _ x => x)).trans' (T := fun k => v2.ownBlock = some k) ((Fr.alloc (Fr.refl _ _) o).grown hg3 (fun k hk _ => hk)) ?_
    intro i hi e
    rcases hm2.own i e with h1 | h1
    · exact .inr h1
    · have := hf.size; omega
  refine ⟨by rw [hp], v3, ?_, hfr, ?_⟩
  · rw [hp]
    refine ⟨one_setCell hh, ?_⟩
    simp only [List.length_append, List.length_cons, List.length_nil, Nat.zero_add, cellsOf_append, cellsOf]
    exact ownsRow_setCell_other ho3 hne _
  · intro k hk
    rw [hob] at hk
    injection hk with hk
    subst hk
    rcases hat with h1 | h1
    · rcases hm2.own _ h1 with h2 | h2
      · exact .inl h2
      · exact .inr (Nat.le_trans hf.size h2)
    · exact .inr (Nat.le_trans hf.size (Nat.le_trans hm2.fr.size h1))

theorem assign_calls (g : Nat) (v : Value) (xs : List (Int × Int)) (epoch at_ : Int) (w : World) (h : IsCache w g v xs) (hlen : xs.length < 8796093022200) :
    Calls Try.prog 11 #[.pointer (some ⟨g, 0, none⟩), .int .i64 epoch, .int .i64 at_] w (AssignPost g v xs epoch at_ w) := by
  by_cases h1 : epoch < 0
  · have hp : assign xs epoch at_ = (1, xs) := by unfold assign; rw [if_pos (.inl h1)]
    have HP := Lib.hid hp
    clear hp
    go_enter Try.func11, Try.ntmps11
    go_wp2
    go_ret
    exact ⟨by rw [HP.out]; rfl, v, by rw [HP.out]; exact h, Moved.refl _ _ _⟩
  by_cases h2 : at_ < 0
  · have hp : assign xs epoch at_ = (1, xs) := by unfold assign; rw [if_pos (.inr h2)]
    have HP := Lib.hid hp
    clear hp
    go_enter Try.func11, Try.ntmps11
    go_wp2
    go_ret
    exact ⟨by rw [HP.out]; rfl, v, by rw [HP.out]; exact h, Moved.refl _ _ _⟩
  have hl := last_calls g v xs w h
  have hp : assign xs epoch at_ = if (lastOf xs).2.2 = true ∧ epoch ≤ (lastOf xs).1 then (if epoch = (lastOf xs).1 then (0, xs) else (5, xs)) else (0, cut xs at_ ++ [(epoch, at_)]) := by
    unfold assign; rw [if_neg (by omega)]
  generalize lastOf xs = l at hl hp
  obtain ⟨le, la, lb⟩ := l
  have HL := Lib.hid hl
  have HP := Lib.hid hp
  clear hl hp
  by_cases hb : lb = true ∧ epoch ≤ le
  · obtain ⟨rfl, hle⟩ := hb
    by_cases heq : epoch = le
    · subst heq
      have hp : assign xs epoch at_ = (0, xs) := by rw [HP.out, if_pos ⟨rfl, hle⟩, if_pos rfl]
      clear HP
      have HP := Lib.hid hp
      clear hp
      go_enter Try.func11, Try.ntmps11
      go_wp2_with (go_at_call 19; refine HL.out.mono ?_; rintro e w' ⟨rfl, hf⟩)
      go_ret
      exact ⟨by rw [HP.out]; rfl, v, by rw [HP.out]; exact h.fr hf (fun x => x) (fun _ _ x => x), Moved.of_fr hf⟩
    · have hp : assign xs epoch at_ = (5, xs) := by rw [HP.out, if_pos ⟨rfl, hle⟩, if_neg heq]
      clear HP
      have HP := Lib.hid hp
      clear hp
      go_enter Try.func11, Try.ntmps11
      go_wp2_with (go_at_call 19; refine HL.out.mono ?_; rintro e w' ⟨rfl, hf⟩)
      go_ret
      exact ⟨by rw [HP.out]; rfl, v, by rw [HP.out]; exact h.fr hf (fun x => x) (fun _ _ x => x), Moved.of_fr hf⟩
  · have hp : assign xs epoch at_ = (0, cut xs at_ ++ [(epoch, at_)]) := by rw [HP.out, if_neg hb]
    clear HP
    have HP := Lib.hid hp
    clear hp
    have hlb : lb = true → le < epoch := fun hl => by
      by_cases hx : epoch ≤ le
      · exact absurd ⟨hl, hx⟩ hb
      · omega
    clear hb
    obtain ⟨i0, hi, hz0, hz1, hz2⟩ := info_parts info52
    have hcl : (cut xs at_).length ≤ xs.length := by unfold cut; rw [List.length_take]; omega
    cases lb
    · go_enter Try.func11, Try.ntmps11
      go_wp2_with (go_at_call 19; refine HL.out.mono ?_; rintro e w1 ⟨rfl, hf⟩)
      refine (cut_calls g v xs at_ _ (h.fr hf (fun x => x) (fun _ _ x => x))).mono ?_
      rintro e w2 ⟨rfl, v2, hc2, hm2⟩
      have k0 := cell_of_one hc2.1
      have f0 := free_of_one hc2.1
      go_wp2_with (at_builtin; refine wpList_append_lies _ rfl (.tmp 42) (.tmp 46) 48 rfl 0 52 i0 _ 2 16 Try.underlying48 hi hz0 hz1 hz2 rfl (by decide) _ _ _ rfl (hc2.2.alloc _) ⟨w2.heap.size, 0, none⟩ 1 1 [.int .i64 epoch, .int .i64 at_] rfl rfl (cell_two_new _ _ _ _) (by simp [Value.oneCell']) (by decide) (by unfold maxLen; omega) (by omega) (Nat.zero_le _) _ rfl ?_; intro r3 c3 w3 ho3 hg3 hat3 _; have hh := assign_heap hc2 hg3; have k3 := cell_of_one hh; have f3 := free_of_one hh)
      go_ret
      exact assign_fin h hf hc2 hm2 ho3 hg3 hh (hat3.elim .inl (fun e => .inr (by rw [e]; simp))) HP.out
    · have hlb := hlb rfl
      go_enter Try.func11, Try.ntmps11
      go_wp2_with (go_at_call 19; refine HL.out.mono ?_; rintro e w1 ⟨rfl, hf⟩)
      refine (cut_calls g v xs at_ _ (h.fr hf (fun x => x) (fun _ _ x => x))).mono ?_
      rintro e w2 ⟨rfl, v2, hc2, hm2⟩
      have k0 := cell_of_one hc2.1
      have f0 := free_of_one hc2.1
      go_wp2_with (at_builtin; refine wpList_append_lies _ rfl (.tmp 42) (.tmp 46) 48 rfl 0 52 i0 _ 2 16 Try.underlying48 hi hz0 hz1 hz2 rfl (by decide) _ _ _ rfl (hc2.2.alloc _) ⟨w2.heap.size, 0, none⟩ 1 1 [.int .i64 epoch, .int .i64 at_] rfl rfl (cell_two_new _ _ _ _) (by simp [Value.oneCell']) (by decide) (by unfold maxLen; omega) (by omega) (Nat.zero_le _) _ rfl ?_; intro r3 c3 w3 ho3 hg3 hat3 _; have hh := assign_heap hc2 hg3; have k3 := cell_of_one hh; have f3 := free_of_one hh)
      go_ret
      exact assign_fin h hf hc2 hm2 ho3 hg3 hh (hat3.elim .inl (fun e => .inr (by rw [e]; simp))) HP.out
end Go.Proofs.Ythiepdldliiakaa

/- Plain laws of layer 10: what Assign makes rises; where epochs end. No conditions. -/
import Derived.Test.YthiepdldliiakaaOps
namespace Go.Proofs.Ythiepdldliiakaa

/-- What a cache holds behind Assigns. -/
def assigns (xs : List (Int × Int)) : List OpD → List (Int × Int)
  | [] => xs
  | o :: os => assigns (assign xs o.epoch o.at_).2 os

theorem assigns_snoc (xs : List (Int × Int)) (os : List OpD) (o : OpD) : assigns xs (os ++ [o]) = (assign (assigns xs os) o.epoch o.at_).2 := by
  induction os generalizing xs with
  | nil => rfl
  | cons p os ih => exact ih _

theorem assigns_take (os : List OpD) (k : Nat) (o : OpD) (h : os[k]? = some o) : assigns [] (os.take (k + 1)) = (assign (assigns [] (os.take k)) o.epoch o.at_).2 := by
  have hk := (List.getElem?_eq_some_iff.1 h).1
  rw [List.take_add_one, h]
  exact assigns_snoc _ _ _

theorem assign_len (xs : List (Int × Int)) (e a : Int) : (assign xs e a).2.length ≤ xs.length + 1 := by
  unfold assign cut
  split
  · simp
  · split
    · split <;> simp
    · simp only [List.length_append, List.length_take, List.length_cons, List.length_nil]
      omega

theorem assigns_len (xs : List (Int × Int)) (os : List OpD) : (assigns xs os).length ≤ xs.length + os.length := by
  induction os generalizing xs with
  | nil => simp [assigns]
  | cons o os ih =>
    have h1 := ih (assign xs o.epoch o.at_).2
    have h2 := assign_len xs o.epoch o.at_
    simp only [assigns, List.length_cons]
    omega

/-- Epochs and where they begin rise, from 0 on, and stay below a bound. -/
def Rise (xs : List (Int × Int)) : Prop := xs.Pairwise (fun a b => a.1 < b.1 ∧ a.2 < b.2) ∧ ∀ x ∈ xs, 0 ≤ x.1 ∧ 0 ≤ x.2 ∧ x.1 ≤ 9223372036854775807 ∧ x.2 ≤ 9223372036854775807

theorem rise_nil : Rise [] := ⟨List.Pairwise.nil, fun x hx => by simp at hx⟩

theorem cutTo_lt (xs : List (Int × Int)) (at_ : Int) (k : Nat) (h : cutTo xs at_ k ≠ 0) : (xs.getD (cutTo xs at_ k - 1) (0, 0)).2 < at_ := by
  induction k with
  | zero => exact absurd rfl h
  | succ k ih =>
    unfold cutTo at h ⊢
    split
    · rename_i hle
      rw [if_pos hle] at h
      exact ih h
    · simp only [Nat.add_sub_cancel]
      omega

theorem rise_take {xs : List (Int × Int)} (h : Rise xs) (k : Nat) : Rise (xs.take k) :=
  ⟨h.1.sublist (List.take_sublist k xs), fun x hx => h.2 x (List.mem_of_mem_take hx)⟩

theorem pair_lt {xs : List (Int × Int)} (h : Rise xs) {i j : Nat} (hij : i < j) (hj : j < xs.length) : (xs.getD i (0, 0)).1 < (xs.getD j (0, 0)).1 ∧ (xs.getD i (0, 0)).2 < (xs.getD j (0, 0)).2 := by
  have hi : i < xs.length := by omega
  simp only [List.getD, List.getElem?_eq_getElem hi, List.getElem?_eq_getElem hj, Option.getD_some]
  exact List.pairwise_iff_getElem.1 h.1 i j hi hj hij

theorem mem_bound {xs : List (Int × Int)} (h : Rise xs) {i : Nat} (hi : i < xs.length) : 0 ≤ (xs.getD i (0, 0)).1 ∧ 0 ≤ (xs.getD i (0, 0)).2 ∧ (xs.getD i (0, 0)).1 ≤ 9223372036854775807 ∧ (xs.getD i (0, 0)).2 ≤ 9223372036854775807 := by
  simp only [List.getD, List.getElem?_eq_getElem hi, Option.getD_some]
  exact h.2 _ (List.getElem_mem hi)

theorem lastOf_some {xs : List (Int × Int)} (h : xs ≠ []) : lastOf xs = ((xs.getD (xs.length - 1) (0, 0)).1, (xs.getD (xs.length - 1) (0, 0)).2, true) := by
  rcases List.eq_nil_or_concat xs with rfl | ⟨ys, x, rfl⟩
  · exact absurd rfl h
  · simp [lastOf, List.getD]

theorem rise_assign {xs : List (Int × Int)} (h : Rise xs) (e a : Int) (he : e ≤ 9223372036854775807) (ha : a ≤ 9223372036854775807) : Rise (assign xs e a).2 := by
  unfold assign
  split
  · exact h
  · rename_i hneg
    split
    · split <;> exact h
    · rename_i hlast
      have hc : Rise (cut xs a) := rise_take h _
      refine ⟨List.pairwise_append.2 ⟨hc.1, List.pairwise_singleton _ _, ?_⟩, ?_⟩
      · intro x hx y hy
        have : y = (e, a) := by simpa using hy
        subst this
        obtain ⟨i, hi, rfl⟩ := List.getElem_of_mem hx
        have hlen : (cut xs a).length = cutTo xs a xs.length := by
          unfold cut; rw [List.length_take]; have := cutTo_le xs a xs.length; omega
        have hle := cutTo_le xs a xs.length
        have hix : i < xs.length := by omega
        have hget : (cut xs a)[i] = xs.getD i (0, 0) := by simp [cut, List.getD, hix]
        rw [hget]
        have hne : xs ≠ [] := by intro e0; subst e0; simp at hix
        have hl := lastOf_some hne
        have hlt := cutTo_lt xs a xs.length (by omega)
        constructor
        · have h1 : (xs.getD i (0, 0)).1 ≤ (xs.getD (xs.length - 1) (0, 0)).1 := by
            rcases Nat.lt_or_ge i (xs.length - 1) with h2 | h2
            · exact Int.le_of_lt (pair_lt h h2 (by omega)).1
            · rw [show i = xs.length - 1 by omega]; exact Int.le_refl _
          rw [hl] at hlast
          simp only [true_and, Int.not_le] at hlast
          exact Int.lt_of_le_of_lt h1 hlast
        · have h1 : (xs.getD i (0, 0)).2 ≤ (xs.getD (cutTo xs a xs.length - 1) (0, 0)).2 := by
            rcases Nat.lt_or_ge i (cutTo xs a xs.length - 1) with h2 | h2
            · exact Int.le_of_lt (pair_lt h h2 (by omega)).2
            · rw [show i = cutTo xs a xs.length - 1 by omega]; exact Int.le_refl _
          exact Int.lt_of_le_of_lt h1 hlt
      · intro x hx
        rcases List.mem_append.1 hx with hx | hx
        · exact hc.2 x hx
        · have : x = (e, a) := by simpa using hx
          subst this
          exact ⟨by simp only; omega, by simp only; omega, he, ha⟩

theorem rise_cut {xs : List (Int × Int)} (h : Rise xs) (a : Int) : Rise (cut xs a) := rise_take h _

theorem rise_assigns {xs : List (Int × Int)} (h : Rise xs) (os : List OpD) (hb : ∀ o ∈ os, o.epoch ≤ 9223372036854775807 ∧ o.at_ ≤ 9223372036854775807) : Rise (assigns xs os) := by
  induction os generalizing xs with
  | nil => exact h
  | cons o os ih => exact ih (rise_assign h _ _ (hb o (List.mem_cons_self)).1 (hb o (List.mem_cons_self)).2) (fun p hp => hb p (List.mem_cons_of_mem _ hp))

theorem endTo_down (xs : List (Int × Int)) (E e : Int) (j k : Nat) (hjk : j ≤ k) (h : ∀ i, j ≤ i → i < k → E < (xs.getD i (0, 0)).1) : endTo xs E e k = endTo xs E (if j < k then (xs.getD j (0, 0)).2 else e) j := by
  induction k generalizing e with
  | zero =>
    have : j = 0 := by omega
    subst this
    rfl
  | succ k ih =>
    rcases Nat.lt_or_ge j (k + 1) with hlt | hge
    · have h1 := h k (by omega) (by omega)
      rw [endTo, if_pos h1, ih _ (by omega) (fun i h2 h3 => h i h2 (by omega)), if_pos hlt]
      rcases Nat.lt_or_ge j k with h4 | h4
      · rw [if_pos h4]
      · have : j = k := by omega
        subst this
        rw [if_neg (by omega)]
    · have : j = k + 1 := by omega
      subst this
      rw [if_neg (by omega)]

/-- Where an epoch ends that is there, or lies ahead of the next one. -/
theorem endTo_at {xs : List (Int × Int)} (h : Rise xs) (E e : Int) (i : Nat) (hi : i < xs.length) (h1 : (xs.getD i (0, 0)).1 ≤ E) (h2 : i + 1 < xs.length → E < (xs.getD (i + 1) (0, 0)).1) :
    endTo xs E e xs.length = ((xs.getD i (0, 0)).1, (if i + 1 < xs.length then (xs.getD (i + 1) (0, 0)).2 else e), true) := by
  rw [endTo_down xs E e (i + 1) xs.length (by omega) (fun j hj hjl => by
    have h3 := h2 (by omega)
    rcases Nat.lt_or_ge (i + 1) j with h4 | h4
    · exact Int.lt_trans h3 (pair_lt h h4 hjl).1
    · rw [show j = i + 1 by omega]; exact h3), endTo, if_neg (by omega)]

theorem endTo_none {xs : List (Int × Int)} (h : Rise xs) (E e : Int) (h1 : 0 < xs.length → E < (xs.getD 0 (0, 0)).1) : endTo xs E e xs.length = (0, 0, false) := by
  rw [endTo_down xs E e 0 xs.length (Nat.zero_le _) (fun j _ hjl => by
    have h3 := h1 (by omega)
    rcases Nat.lt_or_ge 0 j with h4 | h4
    · exact Int.lt_trans h3 (pair_lt h h4 hjl).1
    · rw [show j = 0 by omega]; exact h3)]
  rfl

end Go.Proofs.Ythiepdldliiakaa

/- The contracts of model.Stable and model.Committed in the printer's form. No conditions. -/
import Derived.Test.YtnbdlkjphdfkpaaComm
namespace Go.Proofs.Ytnbdlkjphdfkpaa
open Go Go.RowKit H Go.Proofs.YtnbdlkjphdfkpaaW.PrintWords

/-- The batches' numbers are of their kinds. -/
def wfAll (l : List S41) : Bool := l.all fun b => (Lit.int .u64 b.f2).wf && (Lit.int .i64 b.f0).wf

theorem wfAll_mem {l : List S41} (h : wfAll l = true) : ∀ b ∈ l, (Lit.int .u64 b.f2).wf = true ∧ (Lit.int .i64 b.f0).wf = true := by
  intro b hb
  have := List.all_eq_true.1 h b hb
  rwa [Bool.and_eq_true] at this

/-- The batches below an offset. -/
def pre (l : List S41) (high : Int) : List S41 := l.takeWhile fun b => decide (toOf b ≤ high)

theorem snoc_rec {α : Type} {P : List α → Prop} (h0 : P []) (h1 : ∀ xs x, P xs → P (xs ++ [x])) (xs : List α) : P xs := by
  have h : ∀ ys : List α, P ys.reverse := by
    intro ys
    induction ys with
    | nil => exact h0
    | cons y ys ih => rw [List.reverse_cons]; exact h1 _ _ ih
  simpa using h xs.reverse

theorem opens_snoc (bs : List S41) (b : S41) (p : Int) : opens (bs ++ [b]) p = opn p (opens bs p) b := by simp [opens]

theorem opens_some {bs : List S41} : ∀ {p a : Int}, opens bs p = some a → ∃ b ∈ bs, b.f2 = p := by
  refine snoc_rec (P := fun bs => ∀ {p a : Int}, opens bs p = some a → ∃ b ∈ bs, b.f2 = p) ?_ ?_ bs
  · intro p a h; cases h
  · intro bs b ih p a h
    rw [opens_snoc] at h
    unfold opn at h
    by_cases hp : b.f2 = p
    · exact ⟨b, by simp, hp⟩
    · rw [if_neg hp] at h
      obtain ⟨c, hc, e⟩ := ih h
      exact ⟨c, List.mem_append_left _ hc, e⟩

/-- The least of the open transactions' beginnings and the end. -/
def lessOf (o : Option Int) (e : Int) : Int := match o with | some a => if a < e then a else e | none => e
def leastOf (f : Int → Option Int) (e : Int) (ps : List Int) : Int := ps.foldl (fun e p => lessOf (f p) e) e

theorem leastOf_le (f : Int → Option Int) : ∀ (ps : List Int) (e : Int), leastOf f e ps ≤ e ∧ (∀ p ∈ ps, ∀ a, f p = some a → leastOf f e ps ≤ a) ∧ (leastOf f e ps = e ∨ ∃ p ∈ ps, f p = some (leastOf f e ps)) := by
  intro ps
  induction ps with
  | nil => intro e; exact ⟨Int.le_refl _, fun p hp => (by cases hp), .inl rfl⟩
  | cons p ps ih =>
    intro e
    have hstep : leastOf f e (p :: ps) = leastOf f (lessOf (f p) e) ps := rfl
    rw [hstep]
    obtain ⟨h1, h2, h3⟩ := ih (lessOf (f p) e)
    have hle : lessOf (f p) e ≤ e := by unfold lessOf; split <;> (try split) <;> omega
    refine ⟨Int.le_trans h1 hle, fun q hq a ha => ?_, ?_⟩
    · rcases List.mem_cons.1 hq with rfl | hq
      · refine Int.le_trans h1 ?_
        rw [ha]
        simp only [lessOf]
        split <;> omega
      · exact h2 q hq a ha
    · rcases h3 with h3 | ⟨q, hq, h3⟩
      · rw [h3]
        cases hp : f p with
        | none => exact .inl rfl
        | some a0 =>
          simp only [lessOf]
          split
          · exact .inr ⟨p, List.mem_cons_self, hp⟩
          · exact .inl rfl
      · exact .inr ⟨q, List.mem_cons_of_mem _ hq, h3⟩

/-- The stable offset of a log that lies below. -/
def stabF (bs : List S41) : Int := leastOf (opens bs) ((bs.getLast?.map toOf).getD 0) (bs.map (·.f2))

theorem stabF_is (bs : List S41) : StabIs bs (stabF bs) := by
  obtain ⟨h1, h2, h3⟩ := leastOf_le (opens bs) (bs.map (·.f2)) ((bs.getLast?.map toOf).getD 0)
  refine ⟨h1, fun p a ha => ?_, ?_⟩
  · obtain ⟨b, hb, rfl⟩ := opens_some ha
    exact h2 b.f2 (List.mem_map_of_mem hb) a ha
  · rcases h3 with h3 | ⟨p, _, h3⟩
    · exact .inl h3
    · exact .inr ⟨p, h3⟩

theorem stab_le {bs : List S41} {u v : Int} (hu : StabIs bs u) (hv : StabIs bs v) : u ≤ v := by
  rcases hv.2.2 with h | ⟨p, h⟩
  · rw [h]; exact hu.1
  · exact hu.2.1 p v h

theorem stab_unique {bs : List S41} {u v : Int} (hu : StabIs bs u) (hv : StabIs bs v) : u = v := Int.le_antisymm (stab_le hu hv) (stab_le hv hu)

/-- The records that are committed below an offset. -/
def commF (l : List S41) (high : Int) : List S37 := upto l (ends l (pre l high).length) l.length

theorem pre_take {l : List S41} {high : Int} {k : Nat} (h : pre l high = l.take k) (hk : k ≤ l.length) : k = (pre l high).length := by rw [h, List.length_take]; omega

theorem reps37 (w : World) (base : Nat) (ok : Nat → Prop) (xs : List S37) : Reps (k37.M w base ok) 3 xs (xs.flatMap cells37) := by
  refine snoc_rec (P := fun xs => Reps (k37.M w base ok) 3 xs (xs.flatMap cells37)) (Reps.none _ _) ?_ xs
  · intro xs x ih
    rw [List.flatMap_append]
    refine Reps.snoc ih ?_ rfl
    simpa [cells37] using k37_mkM w base ok x

namespace H
def model_Stable.f (_k : Nat) (l0 : List S41) (a1 : Int) : Option Int := if l0.length < maxLen ∧ wfAll l0 = true then some (stabF (pre l0 a1)) else none
theorem model_Stable.mono : ∀ a0 a1 k, LeO (model_Stable.f k a0 a1) (model_Stable.f (k + 1) a0 a1) := fun _ _ _ => LeO.refl _
theorem model_Stable.calls (k : Nat) (A0 : Option Addr) (c0 : Nat) (l0 : List (S41)) (a1 : Int) (r : Int) (w : World) (hr0 : Kd.C k41 w A0 l0.length l0) (hc0 : l0.length ≤ c0) (h : model_Stable.f k l0 a1 = some r) :
    Calls Try.prog 15 #[.slice A0 l0.length c0, .int .i64 a1] w fun e w' => e = .returned (.int .i64 r) ∧ Below w.heap.size w w' := by
  unfold model_Stable.f at h
  split at h
  case isFalse => cases h
  case isTrue hc =>
    obtain rfl := Option.some.inj h
    refine (stable_calls A0 c0 l0 a1 w hr0 hc0 hc.1 (wfAll_mem hc.2)).mono ?_
    rintro e w' ⟨v, rfl, hv, hb⟩
    obtain rfl := stab_unique hv (stabF_is _)
    exact ⟨rfl, hb⟩
def model_Committed.f (_k : Nat) (l0 : List S41) (a1 : Int) : Option (List S37) :=
  if l0.length * 72 ≤ 140737488355328 ∧ wfAll l0 = true ∧ (commF l0 a1).length * 32 ≤ 140737488355328 then some (commF l0 a1) else none
theorem model_Committed.mono : ∀ a0 a1 k, LeO (model_Committed.f k a0 a1) (model_Committed.f (k + 1) a0 a1) := fun _ _ _ => LeO.refl _
theorem model_Committed.calls (k : Nat) (A0 : Option Addr) (c0 : Nat) (l0 : List (S41)) (a1 : Int) (r : List (S37)) (w : World) (hr0 : Kd.C k41 w A0 l0.length l0) (hc0 : l0.length ≤ c0) (h : model_Committed.f k l0 a1 = some r) :
    Calls Try.prog 12 #[.slice A0 l0.length c0, .int .i64 a1] w fun e w' => ∃ v0_ : Value, e = .returned (v0_) ∧ Kd.R k37 37 w' w.heap.size (fun _ => True) v0_ r ∧ Below w.heap.size w w' := by
  unfold model_Committed.f at h
  split at h
  case isFalse => cases h
  case isTrue hc =>
    obtain rfl := Option.some.inj h
    obtain ⟨h72, hwf, hsz⟩ := hc
    refine (comm_walk A0 c0 l0 a1 w hr0 hc0 h72 (wfAll_mem hwf) (fun k h1 h2 => ?_)).mono ?_
    · have := pre_take h1 h2
      subst this
      exact hsz
    · rintro e w' ⟨v, k, rfl, h1, h2, ho, hb⟩
      have := pre_take h1 h2
      subst this
      exact ⟨v, rfl, ⟨fun _ _ => trivial, _, ho, reps37 _ _ _ _⟩, hb⟩
end H
end Go.Proofs.Ytnbdlkjphdfkpaa

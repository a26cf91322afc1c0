/- Places that are open, plain; a step by a helper's answer. No conditions. -/
import Derived.Test.YtnbdlkjphdfkpaaP3
namespace Go.Proofs.Ytnbdlkjphdfkpaa
open Go Go.RowKit H Go.Proofs.YtnbdlkjphdfkpaaW.PrintWords Go.Proofs.YtnbdlkjphdfkpaaW.PrintMore

theorem rdT37_at {l : List S37} {i : Nat} (h : i < l.length) : rd_T37 l (i : Int) = l[i] := by simp [rd_T37, List.getD_eq_getElem?_getD, h]

theorem filter_step {α : Type} (q : α → Bool) (t : List α) (i : Nat) (h : i < t.length) : (t.take (i + 1)).filter q = (t.take i).filter q ++ if q t[i] = true then [t[i]] else [] := by
  rw [List.take_succ_eq_append_getElem h, List.filter_append]
  congr 1
  by_cases hq : q t[i] = true <;> simp [hq]

theorem filter_len {α : Type} (q : α → Bool) (t : List α) (i : Nat) : ((t.take i).filter q).length ≤ t.length := Nat.le_trans (List.length_filter_le _ _) (by rw [List.length_take]; omega)

theorem comm_ev (x : List S41) (high : Int) (h72 : x.length * 72 ≤ 140737488355328) (hwf : wfAll x = true) (hc : (commF x high).length * 32 ≤ 140737488355328) (k : Nat) : model_Committed.f k x high = some (commF x high) := if_pos ⟨h72, hwf, hc⟩
theorem stab_ev (x : List S41) (high : Int) (h72 : x.length * 72 ≤ 140737488355328) (hwf : wfAll x = true) (k : Nat) : model_Stable.f k x high = some (stabF (pre x high)) := if_pos ⟨by unfold maxLen; omega, hwf⟩

theorem grp_succ {l : List S41} {n : Nat} {c : S41} (hc : l[n]? = some c) (p : Int) : grp l p (n + 1) = if c.f2 = p then (if c.f6 = true then [] else if c.f5 = true then grp l p n ++ [(n : Int)] else grp l p n) else grp l p n := by
  conv => lhs; unfold grp
  rw [hc]

/-- A place is open: a batch of a transaction with no marker of its producer behind it. -/
theorem grp_iff (l : List S41) (p : Int) (j : Nat) (b : S41) (hb : l[j]? = some b) : ∀ n, n ≤ l.length → ((j : Int) ∈ grp l p n ↔ j < n ∧ b.f2 = p ∧ b.f5 = true ∧ b.f6 = false ∧ ∀ m c, j < m → m < n → l[m]? = some c → ¬ (c.f6 = true ∧ c.f2 = p)) := by
  intro n
  induction n with
  | zero => intro _; simp [grp]
  | succ n ih =>
    intro hn
    have ih := ih (by omega)
    obtain ⟨c, hc⟩ : ∃ c, l[n]? = some c := ⟨l[n]'(by omega), List.getElem?_eq_getElem _⟩
    rw [grp_succ hc]
    by_cases hp : c.f2 = p
    · rw [if_pos hp]
      by_cases h6 : c.f6 = true
      · rw [if_pos h6]
        constructor
        · intro h; cases h
        · rintro ⟨h1, h2, h3, h4, h5⟩
          exfalso
          rcases Nat.lt_or_ge j n with hj | hj
          · exact h5 n c hj (by omega) hc ⟨h6, hp⟩
          · have : j = n := by omega
            subst this
            rw [hb] at hc
            obtain rfl := Option.some.inj hc
            rw [h4] at h6; cases h6
      · rw [if_neg h6]
        have hnext : (∀ m c', j < m → m < n → l[m]? = some c' → ¬ (c'.f6 = true ∧ c'.f2 = p)) → ∀ m c', j < m → m < n + 1 → l[m]? = some c' → ¬ (c'.f6 = true ∧ c'.f2 = p) := by
          intro h m c' h1 h2 h3
          rcases Nat.lt_or_ge m n with h4 | h4
          · exact h m c' h1 h4 h3
          · have : m = n := by omega
            subst this
            rw [hc] at h3
            obtain rfl := Option.some.inj h3
            exact fun h => h6 h.1
        by_cases h5 : c.f5 = true
        · rw [if_pos h5, List.mem_append]
          constructor
          · rintro (h | h)
            · obtain ⟨g1, g2, g3, g4, g5⟩ := ih.1 h
              exact ⟨by omega, g2, g3, g4, hnext g5⟩
            · have : j = n := by simp at h; omega
              subst this
              rw [hb] at hc
              obtain rfl := Option.some.inj hc
              exact ⟨by omega, hp, h5, by simpa using h6, fun m c' h1 h2 => by omega⟩
          · rintro ⟨g1, g2, g3, g4, g5⟩
            rcases Nat.lt_or_ge j n with hj | hj
            · exact .inl (ih.2 ⟨hj, g2, g3, g4, fun m c' h1 h2 => g5 m c' h1 (by omega)⟩)
            · have : j = n := by omega
              subst this
              exact .inr (by simp)
        · rw [if_neg h5]
          constructor
          · intro h
            obtain ⟨g1, g2, g3, g4, g5⟩ := ih.1 h
            exact ⟨by omega, g2, g3, g4, hnext g5⟩
          · rintro ⟨g1, g2, g3, g4, g5⟩
            rcases Nat.lt_or_ge j n with hj | hj
            · exact ih.2 ⟨hj, g2, g3, g4, fun m c' h1 h2 => g5 m c' h1 (by omega)⟩
            · have : j = n := by omega
              subst this
              rw [hb] at hc
              obtain rfl := Option.some.inj hc
              exact absurd g3 h5
    · rw [if_neg hp]
      constructor
      · intro h
        obtain ⟨g1, g2, g3, g4, g5⟩ := ih.1 h
        refine ⟨by omega, g2, g3, g4, fun m c' h1 h2 h3 => ?_⟩
        rcases Nat.lt_or_ge m n with h4 | h4
        · exact g5 m c' h1 h4 h3
        · have : m = n := by omega
          subst this
          rw [hc] at h3
          obtain rfl := Option.some.inj h3
          exact fun h => hp h.2
      · rintro ⟨g1, g2, g3, g4, g5⟩
        rcases Nat.lt_or_ge j n with hj | hj
        · exact ih.2 ⟨hj, g2, g3, g4, fun m c' h1 h2 => g5 m c' h1 (by omega)⟩
        · have : j = n := by omega
          subst this
          rw [hb] at hc
          obtain rfl := Option.some.inj hc
          exact absurd g2 hp

theorem opens_grp (l : List S41) (p : Int) : ∀ n, n ≤ l.length → ∀ a, opens (l.take n) p = some a → ∃ (j : Nat) (b : S41), (j : Int) ∈ grp l p n ∧ l[j]? = some b ∧ b.f0 = a := by
  intro n
  induction n with
  | zero => intro _ a h; cases h
  | succ n ih =>
    intro hn a h
    have ih := ih (by omega)
    obtain ⟨c, hc⟩ : ∃ c, l[n]? = some c := ⟨l[n]'(by omega), List.getElem?_eq_getElem _⟩
    rw [opens_take l n c p hc] at h
    rw [grp_succ hc]
    unfold opn at h
    by_cases hp : c.f2 = p
    · rw [if_pos hp] at h ⊢
      by_cases h6 : c.f6 = true
      · rw [if_pos h6] at h; cases h
      · rw [if_neg h6] at h ⊢
        by_cases h5 : c.f5 = true
        · rw [if_pos h5] at h ⊢
          obtain rfl := Option.some.inj h
          cases ho : opens (l.take n) p with
          | none => exact ⟨n, c, by simp, hc, rfl⟩
          | some a0 =>
            dsimp only
            split
            · exact ⟨n, c, by simp, hc, rfl⟩
            · obtain ⟨j, b, h1, h2, h3⟩ := ih a0 ho
              exact ⟨j, b, List.mem_append_left _ h1, h2, h3⟩
        · rw [if_neg h5] at h ⊢
          exact ih a h
    · rw [if_neg hp] at h ⊢
      exact ih a h

theorem ev_via {α β : Type} {g f : Nat → Option α} {h : Nat → Option β} {b : β} {r : α} (hb : Ev h b) (hf : Ev f r) (hs : ∀ k, h k = some b → g (k + 1) = f k) : Ev g r := by
  obtain ⟨K1, h1⟩ := hb
  obtain ⟨K2, h2⟩ := hf
  refine ⟨max K1 K2 + 1, fun k hk => ?_⟩
  obtain ⟨m, rfl⟩ : ∃ m, k = m + 1 := ⟨k - 1, by omega⟩
  rw [hs m (h1 m (by omega)), h2 m (by omega)]

theorem log_fitsAll (l : List S41) (h : FitsAll l) (at_ : Int) : FitsAll (logF at_ l) := by
  refine ⟨by rw [log_len]; exact h.1, ?_⟩
  have h2 := h.2
  clear h
  revert at_
  induction l with
  | nil => intro _ b hb; cases hb
  | cons c l ih =>
    intro at_ b hb
    rcases List.mem_cons.1 hb with rfl | hb
    · exact h2 c List.mem_cons_self
    · exact ih (fun b hb => h2 b (List.mem_cons_of_mem _ hb)) _ b hb

end Go.Proofs.Ytnbdlkjphdfkpaa

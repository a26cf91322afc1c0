/- The document's Stable, plain: it answers what the program's does; ModelStables, plain. Conditions: what came in is of a size that fits memory, and of its kinds. -/
import Derived.Test.YtnbdlkjphdfkpaaP3
import Derived.Test.YtnbdlkjphdfkpaaHSt
namespace Go.Proofs.Ytnbdlkjphdfkpaa
open Go Go.RowKit H Go.Proofs.YtnbdlkjphdfkpaaW.PrintWords Go.Proofs.YtnbdlkjphdfkpaaW.PrintMore

theorem grp_succ {l : List S41} {n : Nat} {c : S41} (hc : l[n]? = some c) (p : Int) : grp l p (n + 1) = if c.f2 = p then (if c.f6 = true then [] else if c.f5 = true then grp l p n ++ [(n : Int)] else grp l p n) else grp l p n := by
  conv => lhs; unfold grp
  rw [hc]

/-- A place is open: a batch of a transaction with no marker of its producer behind it. -/
theorem grp_iff (l : List S41) (p : Int) (j : Nat) (b : S41) (hb : l[j]? = some b) : ∀ n, n ≤ l.length → ((j : Int) ∈ grp l p n ↔ j < n ∧ b.f2 = p ∧ b.f5 = true ∧ b.f6 = false ∧ ∀ m c, j < m → m < n → l[m]? = some c → ¬ (c.f6 = true ∧ c.f2 = p)) := by
  intro n
  induction n with
  | zero => intro _; simp [grp]
  | succ n ih =>
    intro hn
    have ih := ih (by omega)
    obtain ⟨c, hc⟩ : ∃ c, l[n]? = some c := ⟨l[n]'(by omega), List.getElem?_eq_getElem _⟩
    rw [grp_succ hc]
    by_cases hp : c.f2 = p
    · rw [if_pos hp]
      by_cases h6 : c.f6 = true
      · rw [if_pos h6]
        constructor
        · intro h; cases h
        · rintro ⟨h1, h2, h3, h4, h5⟩
          exfalso
          rcases Nat.lt_or_ge j n with hj | hj
          · exact h5 n c hj (by omega) hc ⟨h6, hp⟩
          · have : j = n := by omega
            subst this
            rw [hb] at hc
            obtain rfl := Option.some.inj hc
            rw [h4] at h6; cases h6
      · rw [if_neg h6]
        have hnext : (∀ m c', j < m → m < n → l[m]? = some c' → ¬ (c'.f6 = true ∧ c'.f2 = p)) → ∀ m c', j < m → m < n + 1 → l[m]? = some c' → ¬ (c'.f6 = true ∧ c'.f2 = p) := by
          intro h m c' h1 h2 h3
          rcases Nat.lt_or_ge m n with h4 | h4
          · exact h m c' h1 h4 h3
          · have : m = n := by omega
            subst this
            rw [hc] at h3
            obtain rfl := Option.some.inj h3
            exact fun h => h6 h.1
        by_cases h5 : c.f5 = true
        · rw [if_pos h5, List.mem_append]
          constructor
          · rintro (h | h)
            · obtain ⟨g1, g2, g3, g4, g5⟩ := ih.1 h
              exact ⟨by omega, g2, g3, g4, hnext g5⟩
            · have : j = n := by simp at h; omega
              subst this
              rw [hb] at hc
              obtain rfl := Option.some.inj hc
              exact ⟨by omega, hp, h5, by simpa using h6, fun m c' h1 h2 => by omega⟩
          · rintro ⟨g1, g2, g3, g4, g5⟩
            rcases Nat.lt_or_ge j n with hj | hj
            · exact .inl (ih.2 ⟨hj, g2, g3, g4, fun m c' h1 h2 => g5 m c' h1 (by omega)⟩)
            · have : j = n := by omega
              subst this
              exact .inr (by simp)
        · rw [if_neg h5]
          constructor
          · intro h
            obtain ⟨g1, g2, g3, g4, g5⟩ := ih.1 h
            exact ⟨by omega, g2, g3, g4, hnext g5⟩
          · rintro ⟨g1, g2, g3, g4, g5⟩
            rcases Nat.lt_or_ge j n with hj | hj
            · exact ih.2 ⟨hj, g2, g3, g4, fun m c' h1 h2 => g5 m c' h1 (by omega)⟩
            · have : j = n := by omega
              subst this
              rw [hb] at hc
              obtain rfl := Option.some.inj hc
              exact absurd g3 h5
    · rw [if_neg hp]
      constructor
      · intro h
        obtain ⟨g1, g2, g3, g4, g5⟩ := ih.1 h
        refine ⟨by omega, g2, g3, g4, fun m c' h1 h2 h3 => ?_⟩
        rcases Nat.lt_or_ge m n with h4 | h4
        · exact g5 m c' h1 h4 h3
        · have : m = n := by omega
          subst this
          rw [hc] at h3
          obtain rfl := Option.some.inj h3
          exact fun h => hp h.2
      · rintro ⟨g1, g2, g3, g4, g5⟩
        rcases Nat.lt_or_ge j n with hj | hj
        · exact ih.2 ⟨hj, g2, g3, g4, fun m c' h1 h2 => g5 m c' h1 (by omega)⟩
        · have : j = n := by omega
          subst this
          rw [hb] at hc
          obtain rfl := Option.some.inj hc
          exact absurd g2 hp

theorem opens_grp (l : List S41) (p : Int) : ∀ n, n ≤ l.length → ∀ a, opens (l.take n) p = some a → ∃ (j : Nat) (b : S41), (j : Int) ∈ grp l p n ∧ l[j]? = some b ∧ b.f0 = a := by
  intro n
  induction n with
  | zero => intro _ a h; cases h
  | succ n ih =>
    intro hn a h
    have ih := ih (by omega)
    obtain ⟨c, hc⟩ : ∃ c, l[n]? = some c := ⟨l[n]'(by omega), List.getElem?_eq_getElem _⟩
    rw [opens_take l n c p hc] at h
    rw [grp_succ hc]
    unfold opn at h
    by_cases hp : c.f2 = p
    · rw [if_pos hp] at h ⊢
      by_cases h6 : c.f6 = true
      · rw [if_pos h6] at h; cases h
      · rw [if_neg h6] at h ⊢
        by_cases h5 : c.f5 = true
        · rw [if_pos h5] at h ⊢
          obtain rfl := Option.some.inj h
          cases ho : opens (l.take n) p with
          | none => exact ⟨n, c, by simp, hc, rfl⟩
          | some a0 =>
            dsimp only
            split
            · exact ⟨n, c, by simp, hc, rfl⟩
            · obtain ⟨j, b, h1, h2, h3⟩ := ih a0 ho
              exact ⟨j, b, List.mem_append_left _ h1, h2, h3⟩
        · rw [if_neg h5] at h ⊢
          exact ih a h
    · rw [if_neg hp] at h ⊢
      exact ih a h

theorem ev_via {α β : Type} {g f : Nat → Option α} {h : Nat → Option β} {b : β} {r : α} (hb : Ev h b) (hf : Ev f r) (hs : ∀ k, h k = some b → g (k + 1) = f k) : Ev g r := by
  obtain ⟨K1, h1⟩ := hb
  obtain ⟨K2, h2⟩ := hf
  refine ⟨max K1 K2 + 1, fun k hk => ?_⟩
  obtain ⟨m, rfl⟩ : ∃ m, k = m + 1 := ⟨k - 1, by omega⟩
  rw [hs m (h1 m (by omega)), h2 m (by omega)]

/-! ### the document's Stable -/
section
variable (l : List S41) (high : Int) (hn : l.length * 72 ≤ 140737488355328)

/-- A batch of the prefix that is open at its end. -/
def OpenAt (j : Nat) (b : S41) : Prop := l[j]? = some b ∧ (j : Int) ∈ grp l b.f2 (pre l high).length

include hn in
theorem ref_l2 (i : Nat) (b : S41) (hb : l[i]? = some b) (hi : i < (pre l high).length) (h5 : b.f5 = true) (h6 : b.f6 = false) (v r : Int)
    (hopen : OpenAt l high i b → Ev (fun k => penstockref21_Stable.l1 k l high (if b.f0 < v then b.f0 else v) ((i + 1 : Nat) : Int)) r) (hshut : ¬ OpenAt l high i b → Ev (fun k => penstockref21_Stable.l1 k l high v ((i + 1 : Nat) : Int)) r) (d : Nat) :
    ∀ (j : Nat) (cl : Bool), i < j → j + d = (pre l high).length → (cl = true ↔ ∃ m c, i < m ∧ m < j ∧ l[m]? = some c ∧ c.f6 = true ∧ c.f2 = b.f2) → Ev (fun k => penstockref21_Stable.l2 k l high v i cl j) r := by
  have hpl := pre_len l high
  have hil : i < l.length := by omega
  have hbi : l[i] = b := by rw [List.getElem?_eq_getElem hil] at hb; exact Option.some.inj hb
  have hend : ∀ cl : Bool, (cl = true ↔ ∃ m c, i < m ∧ m < (pre l high).length ∧ l[m]? = some c ∧ c.f6 = true ∧ c.f2 = b.f2) →
      Ev (fun k => if cl = true then penstockref21_Stable.l1 k l high v ((i + 1 : Nat) : Int) else if b.f0 < v then penstockref21_Stable.l1 k l high b.f0 ((i + 1 : Nat) : Int) else penstockref21_Stable.l1 k l high v ((i + 1 : Nat) : Int)) r := by
    intro cl hcl
    by_cases hc : cl = true
    · obtain ⟨m, c, g1, g2, g3, g4, g5⟩ := hcl.1 hc
      refine Ev.congr (fun k => if_pos hc) (hshut fun h => ?_)
      exact ((grp_iff l b.f2 i b hb _ hpl).1 h.2).2.2.2.2 m c g1 g2 g3 ⟨g4, g5⟩
    · have ho : OpenAt l high i b := ⟨hb, (grp_iff l b.f2 i b hb _ hpl).2 ⟨hi, rfl, h5, h6, fun m c g1 g2 g3 g => hc (hcl.2 ⟨m, c, g1, g2, g3, g.1, g.2⟩)⟩⟩
      refine Ev.congr (fun k => ?_) (hopen ho)
      rw [if_neg hc]
      split <;> rfl
  induction d with
  | zero =>
    intro j cl hij hj hcl
    have hjn : j = (pre l high).length := by omega
    rw [← hjn] at hend
    by_cases hjl : j < l.length
    · have hbel := below_ev l high j hjl (by omega)
      rw [decide_eq_false (by omega)] at hbel
      refine ev_via hbel (hend cl hcl) (fun k hk => ?_)
      simp only [penstockref21_Stable.l2]
      rw [if_pos (by omega), hk, Option.bind_some, if_neg (by simp), rdT41_at hil, hbi, wrap_next hil (by omega), if_pos (by omega : (0:Int) ≤ i), if_pos (by omega : (i : Int) < l.length)]
    · refine Ev.step (fun k => ?_) (hend cl hcl)
      simp only [penstockref21_Stable.l2]
      rw [if_neg (by omega), rdT41_at hil, hbi, wrap_next hil (by omega), if_pos (by omega : (0:Int) ≤ i), if_pos (by omega : (i : Int) < l.length)]
  | succ d ih =>
    intro j cl hij hj hcl
    have hjl : j < l.length := by omega
    have hbel := below_ev l high j hjl (by omega)
    rw [decide_eq_true (by omega)] at hbel
    have hext : ∀ cl' : Bool, (cl' = true ↔ cl = true ∨ (l[j].f6 = true ∧ l[j].f2 = b.f2)) → (cl' = true ↔ ∃ m c, i < m ∧ m < j + 1 ∧ l[m]? = some c ∧ c.f6 = true ∧ c.f2 = b.f2) := by
      intro cl' h
      rw [h, hcl]
      constructor
      · rintro (⟨m, c, g1, g2, g3⟩ | ⟨g1, g2⟩)
        · exact ⟨m, c, g1, by omega, g3⟩
        · exact ⟨j, l[j], hij, by omega, List.getElem?_eq_getElem hjl, g1, g2⟩
      · rintro ⟨m, c, g1, g2, g3, g4, g5⟩
        rcases Nat.lt_or_ge m j with h | h
        · exact .inl ⟨m, c, g1, h, g3, g4, g5⟩
        · have : m = j := by omega
          subst this
          rw [List.getElem?_eq_getElem hjl] at g3
          obtain rfl := Option.some.inj g3
          exact .inr ⟨g4, g5⟩
    by_cases hc : cl = true
    · subst hc
      refine ev_via hbel (ih (j + 1) true (by omega) (by omega) (hext true (by simp))) (fun k hk => ?_)
      simp only [penstockref21_Stable.l2]
      rw [if_pos (by omega), hk, Option.bind_some, if_pos rfl, if_pos trivial, wrap_next hjl (by omega)]
    · have hcf : cl = false := by simpa using hc
      subst hcf
      by_cases hj6 : l[j].f6 = true
      · refine ev_via hbel (ih (j + 1) (l[j].f2 == b.f2) (by omega) (by omega) (hext _ (by simp [hj6]))) (fun k hk => ?_)
        simp only [penstockref21_Stable.l2]
        rw [if_pos (by omega), hk, Option.bind_some, if_pos rfl, if_neg (by simp), if_pos (by omega), rdT41_at hjl, if_pos hj6, if_pos (by omega), if_pos (by omega), rdT41_at hil, hbi, wrap_next hjl (by omega)]
      · refine ev_via hbel (ih (j + 1) false (by omega) (by omega) (hext _ (by simp [hj6]))) (fun k hk => ?_)
        simp only [penstockref21_Stable.l2]
        rw [if_pos (by omega), hk, Option.bind_some, if_pos rfl, if_neg (by simp), if_pos (by omega), rdT41_at hjl, if_neg hj6, wrap_next hjl (by omega)]

include hn in
theorem ref_l1 (d : Nat) : ∀ (i : Nat) (v : Int), i + d = (pre l high).length →
    ∃ r, Ev (fun k => penstockref21_Stable.l1 k l high v i) r ∧ r ≤ v ∧ (∀ j b, i ≤ j → OpenAt l high j b → r ≤ b.f0) ∧ (r = v ∨ ∃ j b, OpenAt l high j b ∧ r = b.f0) := by
  have hpl := pre_len l high
  induction d with
  | zero =>
    intro i v hi
    refine ⟨v, ?_, Int.le_refl _, fun j b hj ho => ?_, .inl rfl⟩
    · by_cases hil : i < l.length
      · have hbel := below_ev l high i hil (by omega)
        rw [decide_eq_false (by omega)] at hbel
        refine ev_via (f := fun k => penstockref21_Stable.j3 k l high v i false) hbel (Ev.step (f := fun _ => some v) (fun k => ?_) (Ev.now _)) (fun k hk => ?_)
        · simp only [penstockref21_Stable.j3]
          rw [if_neg (by simp)]
        · skip
          simp only [penstockref21_Stable.l1]
          rw [if_pos (by omega), hk, Option.bind_some]
      · refine Ev.step (f := fun k => penstockref21_Stable.j3 k l high v i false) (fun k => ?_) (Ev.step (f := fun _ => some v) (fun k => ?_) (Ev.now _))
        · simp only [penstockref21_Stable.l1]
          rw [if_neg (by omega)]
        · simp only [penstockref21_Stable.j3]
          rw [if_neg (by simp)]
    · have := (grp_iff l b.f2 j b ho.1 _ hpl).1 ho.2
      omega
  | succ d ih =>
    intro i v hi
    have hip : i < (pre l high).length := by omega
    have hil : i < l.length := by omega
    have hb : l[i]? = some l[i] := List.getElem?_eq_getElem hil
    have hbel := below_ev l high i hil (by omega)
    rw [decide_eq_true (by omega)] at hbel
    -- one round, behind the guard
    have hround : ∀ r, (OpenAt l high i l[i] → Ev (fun k => penstockref21_Stable.l1 k l high (if l[i].f0 < v then l[i].f0 else v) ((i + 1 : Nat) : Int)) r) → (¬ OpenAt l high i l[i] → Ev (fun k => penstockref21_Stable.l1 k l high v ((i + 1 : Nat) : Int)) r) → Ev (fun k => penstockref21_Stable.l1 k l high v i) r := by
      intro r h1 h2
      refine ev_via (f := fun k => penstockref21_Stable.j3 k l high v i true) hbel ?_ (fun k hk => by
        simp only [penstockref21_Stable.l1]
        rw [if_pos (by omega), hk, Option.bind_some])
      by_cases h5 : l[i].f5 = true
      · refine Ev.step (f := fun k => penstockref21_Stable.j4 k l high v i l[i].f6) (fun k => ?_) ?_
        · simp only [penstockref21_Stable.j3]
          rw [if_pos trivial, if_pos (by omega), if_pos (by omega), rdT41_at hil, if_pos h5]
        · by_cases h6 : l[i].f6 = true
          · have hno : ¬ OpenAt l high i l[i] := fun h => by
              have := (grp_iff l _ i _ hb _ hpl).1 h.2
              rw [h6] at this
              exact absurd this.2.2.2.1 (by simp)
            refine Ev.step (fun k => ?_) (h2 hno)
            simp only [penstockref21_Stable.j4]
            rw [if_pos h6, wrap_next hil (by omega)]
          · have hl2 := ref_l2 l high hn i l[i] hb hip h5 (by simpa using h6) v r h1 h2 d (i + 1) false (by omega) (by omega) ⟨fun h => (by cases h), fun ⟨m, c, g1, g2, _⟩ => (by omega)⟩
            refine Ev.step (fun k => ?_) hl2
            simp only [penstockref21_Stable.j4]
            rw [if_neg h6, wrap_next hil (by omega)]
      · have hno : ¬ OpenAt l high i l[i] := fun h => by
          have := (grp_iff l _ i _ hb _ hpl).1 h.2
          exact h5 this.2.2.1
        refine Ev.step (f := fun k => penstockref21_Stable.j4 k l high v i true) (fun k => ?_) (Ev.step (fun k => ?_) (h2 hno))
        · simp only [penstockref21_Stable.j3]
          rw [if_pos trivial, if_pos (by omega), if_pos (by omega), rdT41_at hil, if_neg h5]
        · simp only [penstockref21_Stable.j4]
          rw [if_pos trivial, wrap_next hil (by omega)]
    by_cases ho : OpenAt l high i l[i]
    · obtain ⟨r, hr, h1, h2, h3⟩ := ih (i + 1) (if l[i].f0 < v then l[i].f0 else v) (by omega)
      refine ⟨r, hround r (fun _ => hr) (fun h => absurd ho h), ?_, ?_, ?_⟩
      · split at h1 <;> omega
      · intro j b hj hob
        rcases Nat.lt_or_ge i j with h | h
        · exact h2 j b h hob
        · have : j = i := by omega
          subst this
          have e := hob.1
          rw [hb] at e
          obtain rfl := Option.some.inj e
          split at h1 <;> omega
      · rcases h3 with h3 | h3
        · split at h3
          · exact .inr ⟨i, l[i], ho, h3⟩
          · exact .inl h3
        · exact .inr h3
    · obtain ⟨r, hr, h1, h2, h3⟩ := ih (i + 1) v (by omega)
      refine ⟨r, hround r (fun h => absurd h ho) (fun _ => hr), h1, ?_, h3⟩
      intro j b hj hob
      rcases Nat.lt_or_ge i j with h | h
      · exact h2 j b h hob
      · have : j = i := by omega
        subst this
        have e := hob.1
        rw [hb] at e
        obtain rfl := Option.some.inj e
        exact absurd hob ho

include hn in
theorem ref_l0 (d : Nat) : ∀ (i : Nat), i + d = (pre l high).length → ∀ r, Ev (fun k => penstockref21_Stable.l1 k l high (((pre l high).getLast?.map toOf).getD 0) 0) r →
    Ev (fun k => penstockref21_Stable.l0 k l high (((l.take i).getLast?.map toOf).getD 0) i) r := by
  have hpl := pre_len l high
  induction d with
  | zero =>
    intro i hi r hr
    have hip : l.take i = pre l high := by rw [show i = (pre l high).length by omega]; exact (pre_eq_take l high).symm
    have hj : Ev (fun k => penstockref21_Stable.j1 k l high (((pre l high).getLast?.map toOf).getD 0)) r := Ev.step (fun k => by simp only [penstockref21_Stable.j1]) hr
    rw [hip]
    by_cases hil : i < l.length
    · have hbel := below_ev l high i hil (by omega)
      rw [decide_eq_false (by omega)] at hbel
      refine ev_via hbel hj (fun k hk => ?_)
      simp only [penstockref21_Stable.l0]
      rw [if_pos (by omega), hk, Option.bind_some, if_neg (by simp)]
    · refine Ev.step (fun k => ?_) hj
      simp only [penstockref21_Stable.l0]
      rw [if_neg (by omega)]
  | succ d ih =>
    intro i hi r hr
    have hil : i < l.length := by omega
    have hbel := below_ev l high i hil (by omega)
    rw [decide_eq_true (by omega)] at hbel
    have hnext := ih (i + 1) (by omega) r hr
    have hlast : ((l.take (i + 1)).getLast?.map toOf).getD 0 = toOf l[i] := by
      rw [List.take_succ_eq_append_getElem hil, List.getLast?_append]
      rfl
    rw [hlast] at hnext
    refine ev_via hbel hnext (fun k hk => ?_)
    simp only [penstockref21_Stable.l0]
    rw [if_pos (by omega), hk, Option.bind_some, if_pos rfl, if_pos (by omega), rdT41_at hil, size_f, Option.bind_some, wrap_next hil (by omega)]
    rfl

include hn in
theorem ref_stable_ev : Ev (fun k => penstockref21_Stable.f k l high) (stabF (pre l high)) := by
  have hpl := pre_len l high
  obtain ⟨r, hr, h1, h2, h3⟩ := ref_l1 l high hn (pre l high).length 0 (((pre l high).getLast?.map toOf).getD 0) (by omega)
  have h0 := ref_l0 l high hn (pre l high).length 0 (by omega) r hr
  have hst : StabIs (pre l high) r := by
    refine ⟨h1, fun p a ha => ?_, ?_⟩
    · rw [pre_eq_take] at ha
      obtain ⟨j, b, g1, g2, rfl⟩ := opens_grp l p _ hpl a ha
      have hp := ((grp_iff l p j b g2 _ hpl).1 g1).2.1
      subst hp
      exact h2 j b (Nat.zero_le _) ⟨g2, g1⟩
    · rcases h3 with h3 | ⟨j, b, ho, h3⟩
      · exact .inl h3
      · refine .inr ⟨b.f2, ?_⟩
        obtain ⟨a, ha, hle⟩ := grp_opens l b.f2 j b ho.1 _ ho.2
        obtain ⟨j', b', g1, g2, g3⟩ := opens_grp l b.f2 _ hpl a ha
        have hp := ((grp_iff l b.f2 j' b' g2 _ hpl).1 g1).2.1
        have := h2 j' b' (Nat.zero_le _) ⟨g2, by rw [hp]; exact g1⟩
        rw [← pre_eq_take] at ha
        rw [ha]
        congr 1
        omega
  rw [← stab_unique hst (stabF_is _)]
  refine Ev.congr (fun k => ?_) h0
  unfold penstockref21_Stable.f
  simp
end
end Go.Proofs.Ytnbdlkjphdfkpaa

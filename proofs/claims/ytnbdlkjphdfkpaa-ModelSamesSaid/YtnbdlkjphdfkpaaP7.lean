/- ModelSames, plain: the function answers true. Conditions: what came in is of a size that fits memory. -/
import Derived.Test.YtnbdlkjphdfkpaaP4A
import Derived.Test.YtnbdlkjphdfkpaaHSm
namespace Go.Proofs.Ytnbdlkjphdfkpaa
open Go Go.RowKit H Go.Proofs.YtnbdlkjphdfkpaaW.PrintWords Go.Proofs.YtnbdlkjphdfkpaaW.PrintMore

/-- Are two logs one, as far as both are below an offset? -/
def agreeF (high : Int) : List S41 → List S41 → Bool
  | b :: bs, c :: cs => if b.f0 ≥ high ∨ c.f0 ≥ high then true else if sameB b c = true then agreeF high bs cs else false
  | [], _ => true
  | _ :: _, [] => true

theorem msame_ev (a b : S41) (hf : Fits a) (k : Nat) : model_Same.f k a.f0 a.f1 a.f2 a.f3 a.f4 a.f5 a.f6 a.f7 a.f8 b.f0 b.f1 b.f2 b.f3 b.f4 b.f5 b.f6 b.f7 b.f8 = some (sameB a b) :=
  if_pos ⟨by have := hf.1; omega, List.all_eq_true.2 fun v hv => decide_eq_true (hf.2 v hv)⟩

theorem agree_loop (x y : List S41) (high : Int) (hn : x.length ≤ 9223372036854775807) (hf : ∀ b ∈ x, Fits b) (d : Nat) : ∀ i : Nat, i + d = x.length → Ev (fun k => model_Agree.l0 k x y high i) (agreeF high (x.drop i) (y.drop i)) := by
  induction d with
  | zero =>
    intro i hi
    have e : agreeF high (x.drop i) (y.drop i) = true := by rw [List.drop_eq_nil_of_le (by omega)]; simp only [agreeF]
    rw [e]
    refine Ev.step (f := fun k => model_Agree.j1 k x y high i false) (fun k => ?_) (Ev.step (f := fun _ => some true) (fun k => ?_) (Ev.now _))
    · simp only [model_Agree.l0]
      rw [if_neg (by omega)]
    · simp only [model_Agree.j1]
      rw [if_neg (by simp)]
  | succ d ih =>
    intro i hi
    have hx : i < x.length := by omega
    by_cases hy : i < y.length
    · rw [List.drop_eq_getElem_cons hx, List.drop_eq_getElem_cons hy]
      have hs := ih (i + 1) (by omega)
      have hl : Ev (fun k => model_Agree.j2 k x y high i (decide (x[i].f0 ≥ high) || decide (y[i].f0 ≥ high))) (agreeF high (x[i] :: x.drop (i + 1)) (y[i] :: y.drop (i + 1))) := by
        simp only [agreeF]
        by_cases h : x[i].f0 ≥ high ∨ y[i].f0 ≥ high
        · rw [if_pos h]
          refine Ev.step (f := fun _ => some true) (fun k => ?_) (Ev.now _)
          simp only [model_Agree.j2]
          rw [if_pos (by simpa using h)]
        · rw [if_neg h]
          by_cases h2 : sameB x[i] y[i] = true
          · rw [if_pos h2]
            refine Ev.step (fun k => ?_) hs
            simp only [model_Agree.j2]
            rw [if_neg (by simpa using h), if_pos (by omega), if_pos (by omega), if_pos (by omega), rdT41_at hx, rdT41_at hy, msame_ev _ _ (hf _ (List.getElem_mem hx)), Option.bind_some, if_pos h2, wrap_next hx hn]
          · rw [if_neg h2]
            refine Ev.step (f := fun _ => some false) (fun k => ?_) (Ev.now _)
            simp only [model_Agree.j2]
            rw [if_neg (by simpa using h), if_pos (by omega), if_pos (by omega), if_pos (by omega), rdT41_at hx, rdT41_at hy, msame_ev _ _ (hf _ (List.getElem_mem hx)), Option.bind_some, if_neg h2]
      refine Ev.step (f := fun k => model_Agree.j1 k x y high i true) (fun k => ?_) (Ev.step (fun k => ?_) hl)
      · simp only [model_Agree.l0]
        rw [if_pos (by omega), decide_eq_true (by omega)]
      · simp only [model_Agree.j1]
        rw [if_pos trivial, if_pos (by omega), if_pos (by omega), rdT41_at hx]
        by_cases h : x[i].f0 ≥ high
        · rw [if_pos h, decide_eq_true h, Bool.true_or]
        · rw [if_neg h, if_pos (by omega), rdT41_at hy, decide_eq_false h, Bool.false_or]
    · have e : agreeF high (x.drop i) (y.drop i) = true := by
        rw [List.drop_eq_nil_of_le (by omega : y.length ≤ i), List.drop_eq_getElem_cons hx]
        simp only [agreeF]
      rw [e]
      refine Ev.step (f := fun k => model_Agree.j1 k x y high i false) (fun k => ?_) (Ev.step (f := fun _ => some true) (fun k => ?_) (Ev.now _))
      · simp only [model_Agree.l0]
        rw [if_pos (by omega), decide_eq_false (by omega)]
      · simp only [model_Agree.j1]
        rw [if_neg (by simp)]

theorem agree_ev (x y : List S41) (high : Int) (hn : x.length ≤ 9223372036854775807) (hf : ∀ b ∈ x, Fits b) : Ev (fun k => model_Agree.f k x y high) (agreeF high x y) :=
  Ev.congr (fun k => rfl) (agree_loop x y high hn hf x.length 0 (by omega))

theorem agree_prefix (high : Int) (x : List S41) : ∀ m, agreeF high x (x.take m) = true := by
  induction x with
  | nil => intro m; simp only [List.take_nil, agreeF]
  | cons b x ih =>
    intro m
    cases m with
    | zero => simp only [List.take_zero, agreeF]
    | succ m =>
      simp only [List.take_succ_cons, agreeF]
      rw [if_pos ((sameB_iff b b).2 rfl), ih m]
      split <;> rfl

theorem agree_self (high : Int) (x : List S41) : agreeF high x x = true := by
  have := agree_prefix high x x.length
  rwa [List.take_length] at this

theorem agree_set (high : Int) (z : S41) (x : List S41) : ∀ (k : Nat) (hk : k < x.length), z.f0 = x[k].f0 → sameB x[k] z = false → sameB z x[k] = false → (∀ i (hi : i < k), high ≤ (x[i]'(by omega)).f0 → high ≤ x[k].f0) →
    agreeF high x (x.set k z) = decide (x[k].f0 ≥ high) ∧ agreeF high (x.set k z) x = decide (x[k].f0 ≥ high) := by
  induction x with
  | nil => intro k hk; simp at hk
  | cons b x ih =>
    intro k hk hz h1 h2 hm
    cases k with
    | zero =>
      simp only [List.getElem_cons_zero] at hz h1 h2 ⊢
      simp only [List.set_cons_zero, agreeF]
      by_cases h : b.f0 ≥ high
      · have g1 : b.f0 ≥ high ∨ z.f0 ≥ high := .inl h
        have g2 : z.f0 ≥ high ∨ b.f0 ≥ high := .inr h
        rw [if_pos g1, if_pos g2, decide_eq_true h]; exact ⟨rfl, rfl⟩
      · have g1 : ¬ (b.f0 ≥ high ∨ z.f0 ≥ high) := by omega
        have g2 : ¬ (z.f0 ≥ high ∨ b.f0 ≥ high) := by omega
        rw [if_neg g1, if_neg g2, h1, h2, decide_eq_false h]; exact ⟨by simp, by simp⟩
    | succ k =>
      simp only [List.getElem_cons_succ] at hz h1 h2 ⊢
      simp only [List.set_cons_succ, agreeF]
      have hkx : k < x.length := by simpa using hk
      have hm0 : high ≤ b.f0 → high ≤ x[k].f0 := fun h => hm 0 (by omega) h
      have hmr : ∀ i (hi : i < k), high ≤ (x[i]'(by have := hk; simp at this; omega)).f0 → high ≤ x[k].f0 := fun i hi h => hm (i + 1) (by omega) h
      obtain ⟨e1, e2⟩ := ih k (by simpa using hk) hz h1 h2 hmr
      by_cases h : b.f0 ≥ high
      · have g1 : b.f0 ≥ high ∨ b.f0 ≥ high := .inl h
        rw [if_pos g1, if_pos g1, decide_eq_true (hm0 h)]; exact ⟨rfl, rfl⟩
      · have g1 : ¬ (b.f0 ≥ high ∨ b.f0 ≥ high) := by omega
        have g2 : sameB b b = true := (sameB_iff b b).2 rfl
        rw [if_neg g1, if_neg g1, if_pos g2, if_pos g2]; exact ⟨e1, e2⟩

/-- Where a batch near the log's beginning stands. -/
theorem log_base (l : List S41) (hf : ∀ b ∈ l, Fits b) : ∀ (at_ : Int) (i : Nat) (hi : i < (logF at_ l).length), 0 ≤ at_ → at_ + (i : Int) * 5864062014805 < 4611686018427387904 → (logF at_ l)[i].f0 = at_ + sumSz (l.take i) := by
  induction l with
  | nil => intro at_ i hi; simp [logF] at hi
  | cons b l ih =>
    intro at_ i hi h0 hb
    cases i with
    | zero => simp [logF, atB, sumSz]
    | succ i =>
      have hs := fits_sz (hf b List.mem_cons_self)
      have hs0 := szOf_nonneg b
      have hw : wrap64 (at_ + szOf b) = at_ + szOf b := wrap_in (by omega) (by omega)
      simp only [logF, List.getElem_cons_succ, List.take_succ_cons]
      rw [ih (fun c hc => hf c (List.mem_cons_of_mem _ hc)) _ i _ (by rw [hw]; omega) (by rw [hw]; omega), hw]
      simp [sumSz]
      omega

theorem sumSz_le (l : List S41) {i j : Nat} (h : i ≤ j) : sumSz (l.take i) ≤ sumSz (l.take j) := by
  induction j with
  | zero => obtain rfl : i = 0 := by omega
            exact Int.le_refl _
  | succ j ih =>
    rcases Nat.lt_or_ge i (j + 1) with h1 | h1
    · exact Int.le_trans (ih (by omega)) (sumSz_take_mono l j)
    · obtain rfl : i = j + 1 := by omega
      exact Int.le_refl _

theorem log_fitsB (l : List S41) (h : ∀ b ∈ l, Fits b) : ∀ at_, ∀ b ∈ logF at_ l, Fits b := by
  induction l with
  | nil => intro _ b hb; cases hb
  | cons c l ih =>
    intro at_ b hb
    rcases List.mem_cons.1 hb with rfl | hb
    · exact h c List.mem_cons_self
    · exact ih (fun b hb => h b (List.mem_cons_of_mem _ hb)) _ b hb

/-- A batch with another epoch. -/
def moreB (b : S41) : S41 := ⟨b.f0, wrap64 (b.f1 + 1), b.f2, b.f3, b.f4, b.f5, b.f6, b.f7, b.f8⟩

theorem more_ne (b : S41) : sameB b (moreB b) = false ∧ sameB (moreB b) b = false := by
  have h : b.f1 ≠ wrap64 (b.f1 + 1) := by unfold wrap64; omega
  constructor
  · cases hs : sameB b (moreB b) with
    | false => rfl
    | true => exact absurd (congrArg S41.f1 ((sameB_iff _ _).1 hs)) h
  · cases hs : sameB (moreB b) b with
    | false => rfl
    | true => exact absurd (congrArg S41.f1 ((sameB_iff _ _).1 hs)).symm h

theorem sames_j1 (l : List S41) (at_ high : Int) (hf : FitsAll l) (ha : 0 ≤ at_ ∧ at_ ≤ 255) : Ev (fun k => penstocklaw21_ModelSames.j1 k at_ high (logF 0 l) (logF 0 l) false) true := by
  have hlen := log_len l 0
  by_cases h0 : (logF 0 l).length = 0
  · refine Ev.step (f := fun _ => some true) (fun k => ?_) (Ev.now _)
    simp only [penstocklaw21_ModelSames.j1]
    rw [if_neg (by simp), if_pos (by omega)]
  · obtain ⟨x, hx⟩ : ∃ x, x = logF 0 l := ⟨_, rfl⟩
    have hfx : ∀ b ∈ x, Fits b := by rw [hx]; exact log_fitsB l hf.2 0
    have hbase : ∀ (i : Nat) (hi : i < x.length), i ≤ 255 → x[i].f0 = sumSz (l.take i) := by
      intro i hi h255
      subst hx
      rw [log_base l hf.2 0 i hi (Int.le_refl _) (by omega)]
      omega
    rw [← hx] at h0 hlen ⊢
    have hxl : x.length ≤ 9223372036854775807 := by have := hf.1; omega
    have hw : wrap64 at_ = at_ := wrap_in (by omega) (by omega)
    obtain ⟨k, hk⟩ : ∃ k : Nat, (k : Int) = Int.tmod (wrap64 at_) (x.length : Int) := by
      refine ⟨(Int.tmod (wrap64 at_) (x.length : Int)).toNat, Int.toNat_of_nonneg ?_⟩
      rw [hw]
      exact Int.tmod_nonneg _ ha.1
    have hk1 : k < x.length := by
      have := Int.tmod_lt_of_pos (wrap64 at_) (show (0 : Int) < x.length by omega)
      omega
    have hk2 : k ≤ 255 := by
      have h3 : Int.tmod at_ (x.length : Int) ≤ at_ := by
        rw [Int.tmod_eq_emod_of_nonneg ha.1]
        have h4 := Int.emod_add_mul_ediv at_ (x.length : Int)
        have h5 : 0 ≤ (x.length : Int) * (at_ / (x.length : Int)) := Int.mul_nonneg (by omega) (Int.ediv_nonneg ha.1 (by omega))
        omega
      rw [hw] at hk
      omega
    have hset := agree_set high (moreB x[k]) x k hk1 rfl (more_ne x[k]).1 (more_ne x[k]).2 (fun i hi h => by
      rw [hbase i (by omega) (by omega)] at h
      rw [hbase k hk1 hk2]
      exact Int.le_trans h (sumSz_le l (by omega)))
    have hfy : ∀ b ∈ x.set k (moreB x[k]), Fits b := by
      intro b hb
      rcases List.mem_or_eq_of_mem_set hb with hb | rfl
      · exact hfx b hb
      · exact hfx x[k] (List.getElem_mem hk1)
    have e1 := agree_ev x (x.set k (moreB x[k])) high hxl hfx
    have e2 := agree_ev (x.set k (moreB x[k])) x high (by rw [List.length_set]; exact hxl) hfy
    rw [hset.1] at e1
    rw [hset.2] at e2
    obtain ⟨K1, g1⟩ := e1
    obtain ⟨K2, g2⟩ := e2
    refine ⟨max K1 K2 + 1, fun m hm => ?_⟩
    obtain ⟨n, rfl⟩ : ∃ n, m = n + 1 := ⟨m - 1, by omega⟩
    simp only [penstocklaw21_ModelSames.j1]
    rw [if_neg (by simp), if_neg (by omega), ← hk, if_pos (by omega), if_pos (by omega), Int.toNat_natCast, rdT41_at hk1]
    rw [show (⟨x[k].f0, wrap64 (x[k].f1 + 1), x[k].f2, x[k].f3, x[k].f4, x[k].f5, x[k].f6, x[k].f7, x[k].f8⟩ : S41) = moreB x[k] from rfl, Option.bind_some]
    rw [show model_Agree.f n x (x.set k (moreB x[k])) high = some (decide (x[k].f0 ≥ high)) from g1 n (by omega), Option.bind_some, if_pos (by omega), if_pos (by simp), show model_Agree.f n (x.set k (moreB x[k])) x high = some (decide (x[k].f0 ≥ high)) from g2 n (by omega), Option.bind_some, Option.bind_some]
    simp

theorem sames_j0 (l : List S41) (at_ high : Int) (hf : FitsAll l) (ha : 0 ≤ at_ ∧ at_ ≤ 255) : Ev (fun k => penstocklaw21_ModelSames.j0 k l at_ high false) true := by
  have hlog := log_ev l hf
  have hlen := log_len l 0
  have hfx : ∀ b ∈ logF 0 l, Fits b := log_fitsB l hf.2 0
  have hxl : (logF 0 l).length ≤ 9223372036854775807 := by have := hf.1; omega
  have e1 := agree_ev (logF 0 l) (logF 0 l) high hxl hfx
  rw [agree_self] at e1
  have hw : wrap64 (((logF 0 l).length : Int) / 2) = ((logF 0 l).length : Int) / 2 := wrap_in (by omega) (by omega)
  have e2 := agree_ev (logF 0 l) ((logF 0 l).take (((logF 0 l).length : Int) / 2).toNat) high hxl hfx
  rw [agree_prefix] at e2
  obtain ⟨K0, g0⟩ := hlog
  obtain ⟨K1, g1⟩ := e1
  obtain ⟨K2, g2⟩ := e2
  obtain ⟨K3, g3⟩ := sames_j1 l at_ high hf ha
  refine ⟨max (max K0 K1) (max K2 K3) + 1, fun m hm => ?_⟩
  obtain ⟨n, rfl⟩ : ∃ n, m = n + 1 := ⟨m - 1, by omega⟩
  simp only [penstocklaw21_ModelSames.j0]
  rw [if_neg (by simp), show penstocklaw21_log.f n l = some (logF 0 l) from g0 n (by omega), Option.bind_some, Option.bind_some, show model_Agree.f n (logF 0 l) (logF 0 l) high = some true from g1 n (by omega), Option.bind_some, if_pos rfl, hw, if_pos (by omega), if_pos (by omega), show model_Agree.f n (logF 0 l) ((logF 0 l).take (((logF 0 l).length : Int) / 2).toNat) high = some true from g2 n (by omega), Option.bind_some]
  exact g3 n (by omega)

theorem sames_true (a b : S41) (l : List S41) (at_ high : Int) (hfa : Fits a) (hfb : Fits b) (hf : FitsAll l) (ha : 0 ≤ at_ ∧ at_ ≤ 255) :
    ∃ k, penstocklaw21_ModelSames.f k a.f0 a.f1 a.f2 a.f3 a.f4 a.f5 a.f6 a.f7 a.f8 b.f0 b.f1 b.f2 b.f3 b.f4 b.f5 b.f6 b.f7 b.f8 l at_ high = some true := by
  obtain ⟨K0, g0⟩ := copy_ev a hfa
  obtain ⟨K1, g1⟩ := copy_ev b hfb
  obtain ⟨K2, g2⟩ := same7_ev a b hfa
  obtain ⟨K3, g3⟩ := sames_j0 l at_ high hf ha
  refine ⟨max (max K0 K1) (max K2 K3), ?_⟩
  have h0 := g0 (max (max K0 K1) (max K2 K3)) (by omega)
  have h1 := g1 (max (max K0 K1) (max K2 K3)) (by omega)
  have h2 := g2 (max (max K0 K1) (max K2 K3)) (by omega)
  have h3 := g3 (max (max K0 K1) (max K2 K3)) (by omega)
  dsimp only at h0 h1 h2 h3
  unfold penstocklaw21_ModelSames.f penstocklaw21_awake.f
  rw [Option.bind_some, if_pos rfl, h0, Option.bind_some, h1, Option.bind_some]
  dsimp only
  rw [msame_ev a b hfa, Option.bind_some, h2, Option.bind_some, if_neg (by simp), Option.bind_some, msame_ev a a hfa, Option.bind_some, (sameB_iff a a).2 rfl]
  exact h3
end Go.Proofs.Ytnbdlkjphdfkpaa

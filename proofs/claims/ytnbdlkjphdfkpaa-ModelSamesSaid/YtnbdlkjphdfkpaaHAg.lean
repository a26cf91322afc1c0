/- Agree: what it computes. No conditions. -/
import Derived.Test.YtnbdlkjphdfkpaaHM2
namespace Go.Proofs.Ytnbdlkjphdfkpaa.H
open Go.RowKit Go.Proofs.YtnbdlkjphdfkpaaW.PrintWords Go.Proofs.YtnbdlkjphdfkpaaW.PrintLast Go.Proofs.YtnbdlkjphdfkpaaW.PrintMore
attribute [local go_sem] max2_int min2_int max_two min_two max_three min_three max_four min_four   -- for this text's walks alone
set_option linter.unusedVariables false
set_option linter.unusedSimpArgs false

/-! ### model_Agree: function 20 -/
mutual
def model_Agree.l0 : Nat → List (S41) → List (S41) → Int → Int → Option (Bool)
  | 0, _, _, _, _ => none
  | k + 1, x0, x1, x2, x7 => if x7 < (x0.length : Int) then (model_Agree.j1 k x0 x1 x2 x7 (decide (x7 < (x1.length : Int)))) else (model_Agree.j1 k x0 x1 x2 x7 false)
def model_Agree.j1 : Nat → List (S41) → List (S41) → Int → Int → Bool → Option (Bool)
  | 0, _, _, _, _, _ => none
  | k + 1, x0, x1, x2, x7, x17 => if x17 = true then (if 0 ≤ x7 then (if x7 < (x0.length : Int) then (if ((rd_T41 x0 x7).f0) ≥ x2 then (model_Agree.j2 k x0 x1 x2 x7 true) else (if x7 < (x1.length : Int) then (model_Agree.j2 k x0 x1 x2 x7 (decide (((rd_T41 x1 x7).f0) ≥ x2))) else (none))) else (none)) else (none)) else (some true)
def model_Agree.j2 : Nat → List (S41) → List (S41) → Int → Int → Bool → Option (Bool)
  | 0, _, _, _, _, _ => none
  | k + 1, x0, x1, x2, x7, x35 => if x35 = true then (some true) else (if 0 ≤ x7 then (if x7 < (x0.length : Int) then (if x7 < (x1.length : Int) then ((model_Same.f k ((rd_T41 x0 x7).f0) ((rd_T41 x0 x7).f1) ((rd_T41 x0 x7).f2) ((rd_T41 x0 x7).f3) ((rd_T41 x0 x7).f4) ((rd_T41 x0 x7).f5) ((rd_T41 x0 x7).f6) ((rd_T41 x0 x7).f7) ((rd_T41 x0 x7).f8) ((rd_T41 x1 x7).f0) ((rd_T41 x1 x7).f1) ((rd_T41 x1 x7).f2) ((rd_T41 x1 x7).f3) ((rd_T41 x1 x7).f4) ((rd_T41 x1 x7).f5) ((rd_T41 x1 x7).f6) ((rd_T41 x1 x7).f7) ((rd_T41 x1 x7).f8)).bind fun t187 => (if t187 = true then (model_Agree.l0 k x0 x1 x2 (wrap64 (x7 + 1))) else (some false))) else (none)) else (none)) else (none))
end
def model_Agree.f (k : Nat) (l0 : List (S41)) (l1 : List (S41)) (a2 : Int) : Option (Bool) := model_Agree.l0 k l0 l1 a2 0
theorem model_Agree.mono_l : ∀ k, (∀ y0 y1 y2 y3, LeO (model_Agree.l0 k y0 y1 y2 y3) (model_Agree.l0 (k + 1) y0 y1 y2 y3)) ∧ (∀ y0 y1 y2 y3 y4, LeO (model_Agree.j1 k y0 y1 y2 y3 y4) (model_Agree.j1 (k + 1) y0 y1 y2 y3 y4)) ∧ (∀ y0 y1 y2 y3 y4, LeO (model_Agree.j2 k y0 y1 y2 y3 y4) (model_Agree.j2 (k + 1) y0 y1 y2 y3 y4))
  | 0 => ⟨fun _ _ _ _ r h => by simp [model_Agree.l0] at h, fun _ _ _ _ _ r h => by simp [model_Agree.j1] at h, fun _ _ _ _ _ r h => by simp [model_Agree.j2] at h⟩
  | k + 1 => by
    obtain ⟨ih0, ih1, ih2⟩ := model_Agree.mono_l k
    refine ⟨?_, ?_, ?_⟩
    · intro y0 y1 y2 y3
      unfold model_Agree.l0
      repeat' first
      | (with_reducible exact ih0 _ _ _ _)
      | (with_reducible exact ih1 _ _ _ _ _)
      | (with_reducible exact ih2 _ _ _ _ _)
      | (with_reducible exact model_Same.mono _ _ _ _ _ _ _ _ _ _ _ _ _ _ _ _ _ _ _)
      | (with_reducible exact LeO.refl _)
      | (with_reducible exact LeO.none _)
      | (with_reducible refine LeO.ite ?_ ?_)
      | (with_reducible refine LeO.bind ?_ (fun _ => ?_))
      | exact ih0 _ _ _ _
      | exact ih1 _ _ _ _ _
      | exact ih2 _ _ _ _ _
      | exact model_Same.mono _ _ _ _ _ _ _ _ _ _ _ _ _ _ _ _ _ _ _
      | exact LeO.none _
      | refine LeO.ite ?_ ?_
      | refine LeO.bind ?_ (fun _ => ?_)
    · intro y0 y1 y2 y3 y4
      unfold model_Agree.j1
      repeat' first
      | (with_reducible exact ih0 _ _ _ _)
      | (with_reducible exact ih1 _ _ _ _ _)
      | (with_reducible exact ih2 _ _ _ _ _)
      | (with_reducible exact model_Same.mono _ _ _ _ _ _ _ _ _ _ _ _ _ _ _ _ _ _ _)
      | (with_reducible exact LeO.refl _)
      | (with_reducible exact LeO.none _)
      | (with_reducible refine LeO.ite ?_ ?_)
      | (with_reducible refine LeO.bind ?_ (fun _ => ?_))
      | exact ih0 _ _ _ _
      | exact ih1 _ _ _ _ _
      | exact ih2 _ _ _ _ _
      | exact model_Same.mono _ _ _ _ _ _ _ _ _ _ _ _ _ _ _ _ _ _ _
      | exact LeO.none _
      | refine LeO.ite ?_ ?_
      | refine LeO.bind ?_ (fun _ => ?_)
    · intro y0 y1 y2 y3 y4
      unfold model_Agree.j2
      repeat' first
      | (with_reducible exact ih0 _ _ _ _)
      | (with_reducible exact ih1 _ _ _ _ _)
      | (with_reducible exact ih2 _ _ _ _ _)
      | (with_reducible exact model_Same.mono _ _ _ _ _ _ _ _ _ _ _ _ _ _ _ _ _ _ _)
      | (with_reducible exact LeO.refl _)
      | (with_reducible exact LeO.none _)
      | (with_reducible refine LeO.ite ?_ ?_)
      | (with_reducible refine LeO.bind ?_ (fun _ => ?_))
      | exact ih0 _ _ _ _
      | exact ih1 _ _ _ _ _
      | exact ih2 _ _ _ _ _
      | exact model_Same.mono _ _ _ _ _ _ _ _ _ _ _ _ _ _ _ _ _ _ _
      | exact LeO.none _
      | refine LeO.ite ?_ ?_
      | refine LeO.bind ?_ (fun _ => ?_)
theorem model_Agree.mono : ∀ a0 a1 a2 k, LeO (model_Agree.f k a0 a1 a2) (model_Agree.f (k + 1) a0 a1 a2) := by
  intro a0 a1 a2 k
  obtain ⟨ih0, ih1, ih2⟩ := model_Agree.mono_l k
  unfold model_Agree.f
  repeat' first
      | (with_reducible exact ih0 _ _ _ _)
      | (with_reducible exact ih1 _ _ _ _ _)
      | (with_reducible exact ih2 _ _ _ _ _)
      | (with_reducible exact model_Same.mono _ _ _ _ _ _ _ _ _ _ _ _ _ _ _ _ _ _ _)
      | (with_reducible exact LeO.refl _)
      | (with_reducible exact LeO.none _)
      | (with_reducible refine LeO.ite ?_ ?_)
      | (with_reducible refine LeO.bind ?_ (fun _ => ?_))
      | exact ih0 _ _ _ _
      | exact ih1 _ _ _ _ _
      | exact ih2 _ _ _ _ _
      | exact model_Same.mono _ _ _ _ _ _ _ _ _ _ _ _ _ _ _ _ _ _ _
      | exact LeO.none _
      | refine LeO.ite ?_ ?_
      | refine LeO.bind ?_ (fun _ => ?_)
def model_Agree.T5 : Bool × List (List Nat × List Nat) := (true, [([], []), ([], []), ([0, 1], [0, 1]), ([2], [2]), ([], []), ([], []), ([4, 5], [4, 5]), ([6], [6]), ([3, 7], [3, 7]), ([8], [8])])
def model_Agree.B5 : List Nat := [0, 0, 3, 7, 0, 0, 48, 112, 255, 511]
theorem model_Agree.tab5 : rtab .any (opsOf Try.f20 5) = model_Agree.T5 := by kernel_rfl
theorem model_Agree.bits5 : waitsOk model_Agree.T5.2 model_Agree.B5 = true := by kernel_rfl
set_option maxHeartbeats 8000000 in
set_option maxRecDepth 100000 in
theorem model_Agree.calls (k : Nat) (A0 : Option Addr) (c0 : Nat) (l0 : List (S41)) (A1 : Option Addr) (c1 : Nat) (l1 : List (S41)) (a2 : Int) (r : Bool) (w : World) (hr0 : Kd.C k41 w A0 l0.length l0) (hc0 : l0.length ≤ c0) (hr1 : Kd.C k41 w A1 l1.length l1) (hc1 : l1.length ≤ c1) (h : model_Agree.f k l0 l1 a2 = some r) :
    Calls Try.prog 20 #[.slice A0 l0.length c0, .slice A1 l1.length c1, .int .i64 a2] w fun e w' => e = .returned (.bool r) ∧ Below w.heap.size w w' := by
  have hu41 := Try.underlying41
  have HR0 := Aside0.mk hr0
  have HC0 := Aside0.mk hc0
  clear hr0 hc0
  have HR1 := Aside0.mk hr1
  have HC1 := Aside0.mk hc1
  clear hr1 hc1
  have HB := Aside0.mk (Below.refl w.heap.size w)
  have H : (model_Agree.l0 k l0 l1 a2 0) = some r := h
  clear h
  have H' := Aside0.mk H
  clear H
  go_enter Try.func20, Try.ntmps20
  go_wp2
  go_loopg [7] k (fun kq v7 w' => ∃ (x7_1 : Int), v7 = .int .i64 x7_1 ∧ Aside0 (model_Agree.l0 kq l0 l1 a2 x7_1 = some r) ∧ Aside0 (kq ≤ k) ∧ Aside0 (Below w.heap.size w w'))
  case atStart => exact ⟨(0), (by first | rfl | (simp; done) | (simp [*]; done)), H', ⟨Nat.le_refl _⟩, ⟨by repeat (first | (with_reducible first | exact HB.out | apply below_alloc | apply pw_below_drewN | apply below_drew1) | exact HB.out)⟩⟩
  case round =>
    clear H'
    try clear c1
    try clear c2
    try clear p2
    obtain ⟨x7_1, rfl, HA, HK1, HB⟩ := hrel
    cases gk with
    | zero => exact absurd HA.out (by simp [model_Agree.l0])
    | succ k1 =>
      have H := HA.out
      clear HA
      simp only [model_Agree.l0] at H
      have HC4 := Aside0.mk H
      clear H
      go_upto_region 2 with (fail)
      go_cut [17] (fun v17 wc => ∃ (kq : Nat) (x17_3 : Bool), v17 = .bool x17_3 ∧ Aside0 (model_Agree.j1 kq l0 l1 a2 x7_1 x17_3 = some r) ∧ Aside0 (kq ≤ k1) ∧ Aside0 (Below w.heap.size w wc))
      case first =>
        have H := HC4.out
        clear HC4
        by_cases c5 : x7_1 < (l0.length : Int)
        · rw [if_pos c5] at H
          have c5b0 : decide (x7_1 < (l0.length : Int)) = true := decide_eq_true c5
          clear c5
          (first | rw [c5b0] | (simp only [i64_w, i32_w]; rw [c5b0]) | skip)
          have H' := Aside0.mk H
          clear H
          go_wp2
          go_meet
          case rel => exact ⟨_, (decide (x7_1 < (l1.length : Int))), (by first | rfl | (simp; done) | (simp [*]; done)), H', ⟨by have := HK1.out; first | omega | exact Nat.le_refl _⟩, ⟨by repeat (first | (with_reducible first | exact HB.out | apply below_alloc | apply pw_below_drewN | apply below_drew1) | exact HB.out)⟩⟩
        · rw [if_neg c5] at H
          have c5b0 : decide (x7_1 < (l0.length : Int)) = false := decide_eq_false c5
          clear c5
          (first | rw [c5b0] | (simp only [i64_w, i32_w]; rw [c5b0]) | skip)
          have H' := Aside0.mk H
          clear H
          go_wp2
          go_meet
          case rel => exact ⟨_, (false), (by first | rfl | (simp; done) | (simp [*]; done)), H', ⟨by have := HK1.out; first | omega | exact Nat.le_refl _⟩, ⟨by repeat (first | (with_reducible first | exact HB.out | apply below_alloc | apply pw_below_drewN | apply below_drew1) | exact HB.out)⟩⟩
      case rest =>
        clear HC4
        try clear c1
        try clear c2
        try clear p2
        try clear c5
        try clear c5b0
        try clear p2
        obtain ⟨kq, x17_3, rfl, HA, HJ3, HB⟩ := hcut
        cases kq with
        | zero => exact absurd HA.out (by simp [model_Agree.j1])
        | succ kj3 =>
          have H := HA.out
          clear HA
          simp only [model_Agree.j1] at H
          by_cases c6 : x17_3 = true
          · subst c6
            have H1 : (if 0 ≤ x7_1 then (if x7_1 < (l0.length : Int) then (if ((rd_T41 l0 x7_1).f0) ≥ a2 then (model_Agree.j2 kj3 l0 l1 a2 x7_1 true) else (if x7_1 < (l1.length : Int) then (model_Agree.j2 kj3 l0 l1 a2 x7_1 (decide (((rd_T41 l1 x7_1).f0) ≥ a2))) else (none))) else (none)) else (none)) = some r := by rw [if_pos rfl] at H; exact H
            clear H
            have H := H1
            clear H1
            have HC7 := Aside0.mk H
            clear H
            go_upto_region 4 with (fail)
            go_cut [35] (fun v35 wc => ∃ (kq : Nat) (x35_6 : Bool), v35 = .bool x35_6 ∧ Aside0 (model_Agree.j2 kq l0 l1 a2 x7_1 x35_6 = some r) ∧ Aside0 (kq ≤ kj3) ∧ Aside0 (Below w.heap.size w wc))
            case first =>
              have H := HC7.out
              clear HC7
              by_cases c8 : 0 ≤ x7_1
              · rw [if_pos c8] at H
                have c8b0 : decide (0 ≤ x7_1) = true := decide_eq_true c8
                clear c8
                (first | rw [c8b0] | (simp only [i64_w, i32_w]; rw [c8b0]) | skip)
                by_cases c9 : x7_1 < (l0.length : Int)
                · rw [if_pos c9] at H
                  have c9b0 : decide (x7_1 < (l0.length : Int)) = true := decide_eq_true c9
                  clear c9
                  by_cases c10 : ((rd_T41 l0 x7_1).f0) ≥ a2
                  · rw [if_pos c10] at H
                    have c10b0 : decide (a2 ≤ ((rd_T41 l0 x7_1).f0)) = true := decide_eq_true c10
                    clear c10
                    have H' := Aside0.mk H
                    clear H
                    have p183 : 0 ≤ (x7_1 : Int) := of_decide_eq_true (by first | (with_reducible assumption) | assumption)
                    have q183 : x7_1 < (l0.length : Int) := of_decide_eq_true (by first | (with_reducible assumption) | assumption)
                    obtain ⟨ad183, A183_8, c183_8, e183, hx183_0, hx183_1, hx183_2, hx183_3, hx183_4, hx183_5, hx183_6, hx183_7, hx183_8, hl183_8, hi183_8⟩ := at_T41 HR0.out x7_1 p183 q183
                    cases e183
                    replace hx183_0 := (HB.out.cell (World.block_lt_of_cell? w _ hx183_0)).trans hx183_0
                    replace hx183_1 := (HB.out.cell (World.block_lt_of_cell? w _ hx183_1)).trans hx183_1
                    replace hx183_2 := (HB.out.cell (World.block_lt_of_cell? w _ hx183_2)).trans hx183_2
                    replace hx183_3 := (HB.out.cell (World.block_lt_of_cell? w _ hx183_3)).trans hx183_3
                    replace hx183_4 := (HB.out.cell (World.block_lt_of_cell? w _ hx183_4)).trans hx183_4
                    replace hx183_5 := (HB.out.cell (World.block_lt_of_cell? w _ hx183_5)).trans hx183_5
                    replace hx183_6 := (HB.out.cell (World.block_lt_of_cell? w _ hx183_6)).trans hx183_6
                    replace hx183_7 := (HB.out.cell (World.block_lt_of_cell? w _ hx183_7)).trans hx183_7
                    replace hx183_8 := (HB.out.cell (World.block_lt_of_cell? w _ hx183_8)).trans hx183_8
                    have HR183_8 := Aside0.mk hi183_8
                    have HC183_8 := Aside0.mk hl183_8
                    clear hi183_8 hl183_8
                    replace p183 := eq_true p183
                    replace q183 := eq_true q183
                    go_wp2
                    go_meet
                    case rel => exact ⟨_, (true), (by first | rfl | (simp; done) | (simp [*]; done)), H', ⟨by have := HK1.out; have := HJ3.out; first | omega | exact Nat.le_refl _⟩, ⟨by repeat (first | (with_reducible first | exact HB.out | apply below_alloc | apply pw_below_drewN | apply below_drew1) | exact HB.out)⟩⟩
                  · rw [if_neg c10] at H
                    have c10b0 : decide (a2 ≤ ((rd_T41 l0 x7_1).f0)) = false := decide_eq_false c10
                    clear c10
                    by_cases c11 : x7_1 < (l1.length : Int)
                    · rw [if_pos c11] at H
                      have c11b0 : decide (x7_1 < (l1.length : Int)) = true := decide_eq_true c11
                      clear c11
                      have H' := Aside0.mk H
                      clear H
                      have p183 : 0 ≤ (x7_1 : Int) := of_decide_eq_true (by first | (with_reducible assumption) | assumption)
                      have q183 : x7_1 < (l0.length : Int) := of_decide_eq_true (by first | (with_reducible assumption) | assumption)
                      obtain ⟨ad183, A183_8, c183_8, e183, hx183_0, hx183_1, hx183_2, hx183_3, hx183_4, hx183_5, hx183_6, hx183_7, hx183_8, hl183_8, hi183_8⟩ := at_T41 HR0.out x7_1 p183 q183
                      cases e183
                      replace hx183_0 := (HB.out.cell (World.block_lt_of_cell? w _ hx183_0)).trans hx183_0
                      replace hx183_1 := (HB.out.cell (World.block_lt_of_cell? w _ hx183_1)).trans hx183_1
                      replace hx183_2 := (HB.out.cell (World.block_lt_of_cell? w _ hx183_2)).trans hx183_2
                      replace hx183_3 := (HB.out.cell (World.block_lt_of_cell? w _ hx183_3)).trans hx183_3
                      replace hx183_4 := (HB.out.cell (World.block_lt_of_cell? w _ hx183_4)).trans hx183_4
                      replace hx183_5 := (HB.out.cell (World.block_lt_of_cell? w _ hx183_5)).trans hx183_5
                      replace hx183_6 := (HB.out.cell (World.block_lt_of_cell? w _ hx183_6)).trans hx183_6
                      replace hx183_7 := (HB.out.cell (World.block_lt_of_cell? w _ hx183_7)).trans hx183_7
                      replace hx183_8 := (HB.out.cell (World.block_lt_of_cell? w _ hx183_8)).trans hx183_8
                      have HR183_8 := Aside0.mk hi183_8
                      have HC183_8 := Aside0.mk hl183_8
                      clear hi183_8 hl183_8
                      replace p183 := eq_true p183
                      replace q183 := eq_true q183
                      have p184 : 0 ≤ (x7_1 : Int) := of_decide_eq_true (by first | (with_reducible assumption) | assumption)
                      have q184 : x7_1 < (l1.length : Int) := of_decide_eq_true (by first | (with_reducible assumption) | assumption)
                      obtain ⟨ad184, A184_8, c184_8, e184, hx184_0, hx184_1, hx184_2, hx184_3, hx184_4, hx184_5, hx184_6, hx184_7, hx184_8, hl184_8, hi184_8⟩ := at_T41 HR1.out x7_1 p184 q184
                      cases e184
                      replace hx184_0 := (HB.out.cell (World.block_lt_of_cell? w _ hx184_0)).trans hx184_0
                      replace hx184_1 := (HB.out.cell (World.block_lt_of_cell? w _ hx184_1)).trans hx184_1
                      replace hx184_2 := (HB.out.cell (World.block_lt_of_cell? w _ hx184_2)).trans hx184_2
                      replace hx184_3 := (HB.out.cell (World.block_lt_of_cell? w _ hx184_3)).trans hx184_3
                      replace hx184_4 := (HB.out.cell (World.block_lt_of_cell? w _ hx184_4)).trans hx184_4
                      replace hx184_5 := (HB.out.cell (World.block_lt_of_cell? w _ hx184_5)).trans hx184_5
                      replace hx184_6 := (HB.out.cell (World.block_lt_of_cell? w _ hx184_6)).trans hx184_6
                      replace hx184_7 := (HB.out.cell (World.block_lt_of_cell? w _ hx184_7)).trans hx184_7
                      replace hx184_8 := (HB.out.cell (World.block_lt_of_cell? w _ hx184_8)).trans hx184_8
                      have HR184_8 := Aside0.mk hi184_8
                      have HC184_8 := Aside0.mk hl184_8
                      clear hi184_8 hl184_8
                      replace p184 := eq_true p184
                      replace q184 := eq_true q184
                      go_wp2
                      go_meet
                      case rel => exact ⟨_, (decide (((rd_T41 l1 x7_1).f0) ≥ a2)), (by first | rfl | (simp; done) | (simp [*]; done)), H', ⟨by have := HK1.out; have := HJ3.out; first | omega | exact Nat.le_refl _⟩, ⟨by repeat (first | (with_reducible first | exact HB.out | apply below_alloc | apply pw_below_drewN | apply below_drew1) | exact HB.out)⟩⟩
                    · rw [if_neg c11] at H
                      exact absurd H (by simp)
                · rw [if_neg c9] at H
                  exact absurd H (by simp)
              · rw [if_neg c8] at H
                exact absurd H (by simp)
            case rest =>
              clear HC7
              try clear c1
              try clear p1
              try clear q1
              try clear hx1
              try clear c2
              try clear p2
              try clear c5
              try clear c5b0
              try clear c6
              try clear c8
              try clear c8b0
              try clear c9
              try clear c9b0
              try clear c10
              try clear c10b0
              try clear c11
              try clear c11b0
              try clear hx183_0
              try clear hx183_1
              try clear hx183_2
              try clear hx183_3
              try clear hx183_4
              try clear hx183_5
              try clear hx183_6
              try clear hx183_7
              try clear hx183_8
              try clear hx184_0
              try clear hx184_1
              try clear hx184_2
              try clear hx184_3
              try clear hx184_4
              try clear hx184_5
              try clear hx184_6
              try clear hx184_7
              try clear hx184_8
              try clear p183
              try clear p184
              try clear p2
              try clear q183
              try clear q184
              obtain ⟨kq, x35_6, rfl, HA, HJ6, HB⟩ := hcut
              cases kq with
              | zero => exact absurd HA.out (by simp [model_Agree.j2])
              | succ kj6 =>
                have H := HA.out
                clear HA
                simp only [model_Agree.j2] at H
                by_cases c12 : x35_6 = true
                · subst c12
                  have H1 : (some true) = some r := by rw [if_pos rfl] at H; exact H
                  clear H
                  have H := H1
                  clear H1
                  obtain rfl := Option.some.inj H
                  go_wp2
                  go_ret
                  exact ⟨by first | rfl | (simp [errW_none, errW_some] <;> rfl) | (simp [*, errW_none, errW_some] <;> rfl), by repeat (first | (with_reducible first | exact HB.out | apply below_alloc | apply pw_below_drewN | apply below_drew1) | exact HB.out)⟩
                · replace c12 := Bool.eq_false_iff.mpr c12
                  subst c12
                  have H1 : (if 0 ≤ x7_1 then (if x7_1 < (l0.length : Int) then (if x7_1 < (l1.length : Int) then ((model_Same.f kj6 ((rd_T41 l0 x7_1).f0) ((rd_T41 l0 x7_1).f1) ((rd_T41 l0 x7_1).f2) ((rd_T41 l0 x7_1).f3) ((rd_T41 l0 x7_1).f4) ((rd_T41 l0 x7_1).f5) ((rd_T41 l0 x7_1).f6) ((rd_T41 l0 x7_1).f7) ((rd_T41 l0 x7_1).f8) ((rd_T41 l1 x7_1).f0) ((rd_T41 l1 x7_1).f1) ((rd_T41 l1 x7_1).f2) ((rd_T41 l1 x7_1).f3) ((rd_T41 l1 x7_1).f4) ((rd_T41 l1 x7_1).f5) ((rd_T41 l1 x7_1).f6) ((rd_T41 l1 x7_1).f7) ((rd_T41 l1 x7_1).f8)).bind fun t187 => (if t187 = true then (model_Agree.l0 kj6 l0 l1 a2 (wrap64 (x7_1 + 1))) else (some false))) else (none)) else (none)) else (none)) = some r := by rw [if_neg (show ¬ (false = true) by decide)] at H; exact H
                  clear H
                  have H := H1
                  clear H1
                  by_cases c13 : 0 ≤ x7_1
                  · rw [if_pos c13] at H
                    have c13b0 : decide (0 ≤ x7_1) = true := decide_eq_true c13
                    clear c13
                    by_cases c14 : x7_1 < (l0.length : Int)
                    · rw [if_pos c14] at H
                      have c14b0 : decide (x7_1 < (l0.length : Int)) = true := decide_eq_true c14
                      clear c14
                      by_cases c15 : x7_1 < (l1.length : Int)
                      · rw [if_pos c15] at H
                        have c15b0 : decide (x7_1 < (l1.length : Int)) = true := decide_eq_true c15
                        clear c15
                        replace H := Option.bind_eq_some_iff.mp H
                        obtain ⟨t187, A160, H⟩ := H
                        replace H : (if t187 = true then (model_Agree.l0 kj6 l0 l1 a2 (wrap64 (x7_1 + 1))) else (some false)) = some r := H
                        have A16 := Aside0.mk A160
                        clear A160
                        by_cases c17 : t187 = true
                        · subst c17
                          have H1 : (model_Agree.l0 kj6 l0 l1 a2 (wrap64 (x7_1 + 1))) = some r := by rw [if_pos rfl] at H; exact H
                          clear H
                          have H := H1
                          clear H1
                          have H' := Aside0.mk H
                          clear H
                          try go_wp2
                          have n0_ := Aside0.mk (below_drew1 HB.out)
                          clear HB
                          have HB := n0_
                          clear n0_
                          have p185 : 0 ≤ (x7_1 : Int) := of_decide_eq_true (by first | (with_reducible assumption) | assumption)
                          have q185 : x7_1 < (l0.length : Int) := of_decide_eq_true (by first | (with_reducible assumption) | assumption)
                          obtain ⟨ad185, A185_8, c185_8, e185, hx185_0, hx185_1, hx185_2, hx185_3, hx185_4, hx185_5, hx185_6, hx185_7, hx185_8, hl185_8, hi185_8⟩ := at_T41 HR0.out x7_1 p185 q185
                          have hw185_8 := hx185_8
                          have hw185_7 := hx185_7
                          have hw185_6 := hx185_6
                          have hw185_5 := hx185_5
                          have hw185_4 := hx185_4
                          have hw185_3 := hx185_3
                          have hw185_2 := hx185_2
                          have hw185_1 := hx185_1
                          have hw185_0 := hx185_0
                          cases e185
                          replace hx185_0 := (HB.out.cell (World.block_lt_of_cell? w _ hx185_0)).trans hx185_0
                          replace hx185_1 := (HB.out.cell (World.block_lt_of_cell? w _ hx185_1)).trans hx185_1
                          replace hx185_2 := (HB.out.cell (World.block_lt_of_cell? w _ hx185_2)).trans hx185_2
                          replace hx185_3 := (HB.out.cell (World.block_lt_of_cell? w _ hx185_3)).trans hx185_3
                          replace hx185_4 := (HB.out.cell (World.block_lt_of_cell? w _ hx185_4)).trans hx185_4
                          replace hx185_5 := (HB.out.cell (World.block_lt_of_cell? w _ hx185_5)).trans hx185_5
                          replace hx185_6 := (HB.out.cell (World.block_lt_of_cell? w _ hx185_6)).trans hx185_6
                          replace hx185_7 := (HB.out.cell (World.block_lt_of_cell? w _ hx185_7)).trans hx185_7
                          replace hx185_8 := (HB.out.cell (World.block_lt_of_cell? w _ hx185_8)).trans hx185_8
                          have HR185_8 := Aside0.mk hi185_8
                          have HC185_8 := Aside0.mk hl185_8
                          clear hi185_8 hl185_8
                          replace p185 := eq_true p185
                          replace q185 := eq_true q185
                          have p186 : 0 ≤ (x7_1 : Int) := of_decide_eq_true (by first | (with_reducible assumption) | assumption)
                          have q186 : x7_1 < (l1.length : Int) := of_decide_eq_true (by first | (with_reducible assumption) | assumption)
                          obtain ⟨ad186, A186_8, c186_8, e186, hx186_0, hx186_1, hx186_2, hx186_3, hx186_4, hx186_5, hx186_6, hx186_7, hx186_8, hl186_8, hi186_8⟩ := at_T41 HR1.out x7_1 p186 q186
                          have hw186_8 := hx186_8
                          have hw186_7 := hx186_7
                          have hw186_6 := hx186_6
                          have hw186_5 := hx186_5
                          have hw186_4 := hx186_4
                          have hw186_3 := hx186_3
                          have hw186_2 := hx186_2
                          have hw186_1 := hx186_1
                          have hw186_0 := hx186_0
                          cases e186
                          replace hx186_0 := (HB.out.cell (World.block_lt_of_cell? w _ hx186_0)).trans hx186_0
                          replace hx186_1 := (HB.out.cell (World.block_lt_of_cell? w _ hx186_1)).trans hx186_1
                          replace hx186_2 := (HB.out.cell (World.block_lt_of_cell? w _ hx186_2)).trans hx186_2
                          replace hx186_3 := (HB.out.cell (World.block_lt_of_cell? w _ hx186_3)).trans hx186_3
                          replace hx186_4 := (HB.out.cell (World.block_lt_of_cell? w _ hx186_4)).trans hx186_4
                          replace hx186_5 := (HB.out.cell (World.block_lt_of_cell? w _ hx186_5)).trans hx186_5
                          replace hx186_6 := (HB.out.cell (World.block_lt_of_cell? w _ hx186_6)).trans hx186_6
                          replace hx186_7 := (HB.out.cell (World.block_lt_of_cell? w _ hx186_7)).trans hx186_7
                          replace hx186_8 := (HB.out.cell (World.block_lt_of_cell? w _ hx186_8)).trans hx186_8
                          have HR186_8 := Aside0.mk hi186_8
                          have HC186_8 := Aside0.mk hl186_8
                          clear hi186_8 hl186_8
                          replace p186 := eq_true p186
                          replace q186 := eq_true q186
                          refine start_ (n := 10) (S := fun w' => w'.cell? (ad185.add ((x7_1).toNat * 9)) = some (.int .i64 ((rd_T41 l0 x7_1).f0)) ∧ w'.cell? ⟨(ad185.add ((x7_1).toNat * 9)).block, (ad185.add ((x7_1).toNat * 9)).off + 1, none⟩ = some (.int .i64 ((rd_T41 l0 x7_1).f1)) ∧ w'.cell? ⟨(ad185.add ((x7_1).toNat * 9)).block, (ad185.add ((x7_1).toNat * 9)).off + 2, none⟩ = some (.int .u64 ((rd_T41 l0 x7_1).f2)) ∧ w'.cell? ⟨(ad185.add ((x7_1).toNat * 9)).block, (ad185.add ((x7_1).toNat * 9)).off + 3, none⟩ = some (.int .i64 ((rd_T41 l0 x7_1).f3)) ∧ w'.cell? ⟨(ad185.add ((x7_1).toNat * 9)).block, (ad185.add ((x7_1).toNat * 9)).off + 4, none⟩ = some (.int .i64 ((rd_T41 l0 x7_1).f4)) ∧ w'.cell? ⟨(ad185.add ((x7_1).toNat * 9)).block, (ad185.add ((x7_1).toNat * 9)).off + 5, none⟩ = some (.bool ((rd_T41 l0 x7_1).f5)) ∧ w'.cell? ⟨(ad185.add ((x7_1).toNat * 9)).block, (ad185.add ((x7_1).toNat * 9)).off + 6, none⟩ = some (.bool ((rd_T41 l0 x7_1).f6)) ∧ w'.cell? ⟨(ad185.add ((x7_1).toNat * 9)).block, (ad185.add ((x7_1).toNat * 9)).off + 7, none⟩ = some (.bool ((rd_T41 l0 x7_1).f7)) ∧ w'.cell? ⟨(ad185.add ((x7_1).toNat * 9)).block, (ad185.add ((x7_1).toNat * 9)).off + 8, none⟩ = some (.slice A185_8 ((rd_T41 l0 x7_1).f8).length c185_8) ∧ w'.cell? (ad186.add ((x7_1).toNat * 9)) = some (.int .i64 ((rd_T41 l1 x7_1).f0)) ∧ w'.cell? ⟨(ad186.add ((x7_1).toNat * 9)).block, (ad186.add ((x7_1).toNat * 9)).off + 1, none⟩ = some (.int .i64 ((rd_T41 l1 x7_1).f1)) ∧ w'.cell? ⟨(ad186.add ((x7_1).toNat * 9)).block, (ad186.add ((x7_1).toNat * 9)).off + 2, none⟩ = some (.int .u64 ((rd_T41 l1 x7_1).f2)) ∧ w'.cell? ⟨(ad186.add ((x7_1).toNat * 9)).block, (ad186.add ((x7_1).toNat * 9)).off + 3, none⟩ = some (.int .i64 ((rd_T41 l1 x7_1).f3)) ∧ w'.cell? ⟨(ad186.add ((x7_1).toNat * 9)).block, (ad186.add ((x7_1).toNat * 9)).off + 4, none⟩ = some (.int .i64 ((rd_T41 l1 x7_1).f4)) ∧ w'.cell? ⟨(ad186.add ((x7_1).toNat * 9)).block, (ad186.add ((x7_1).toNat * 9)).off + 5, none⟩ = some (.bool ((rd_T41 l1 x7_1).f5)) ∧ w'.cell? ⟨(ad186.add ((x7_1).toNat * 9)).block, (ad186.add ((x7_1).toNat * 9)).off + 6, none⟩ = some (.bool ((rd_T41 l1 x7_1).f6)) ∧ w'.cell? ⟨(ad186.add ((x7_1).toNat * 9)).block, (ad186.add ((x7_1).toNat * 9)).off + 7, none⟩ = some (.bool ((rd_T41 l1 x7_1).f7)) ∧ w'.cell? ⟨(ad186.add ((x7_1).toNat * 9)).block, (ad186.add ((x7_1).toNat * 9)).off + 8, none⟩ = some (.slice A186_8 ((rd_T41 l1 x7_1).f8).length c186_8)) (ds := []) #[false, false, false, false, false, false, false, false, false, false] (by kernel_rfl) rfl rfl ⟨((HB.out.cell (World.block_lt_of_cell? w _ hw185_0)).trans hw185_0), ((HB.out.cell (World.block_lt_of_cell? w _ hw185_1)).trans hw185_1), ((HB.out.cell (World.block_lt_of_cell? w _ hw185_2)).trans hw185_2), ((HB.out.cell (World.block_lt_of_cell? w _ hw185_3)).trans hw185_3), ((HB.out.cell (World.block_lt_of_cell? w _ hw185_4)).trans hw185_4), ((HB.out.cell (World.block_lt_of_cell? w _ hw185_5)).trans hw185_5), ((HB.out.cell (World.block_lt_of_cell? w _ hw185_6)).trans hw185_6), ((HB.out.cell (World.block_lt_of_cell? w _ hw185_7)).trans hw185_7), ((HB.out.cell (World.block_lt_of_cell? w _ hw185_8)).trans hw185_8), ((HB.out.cell (World.block_lt_of_cell? w _ hw186_0)).trans hw186_0), ((HB.out.cell (World.block_lt_of_cell? w _ hw186_1)).trans hw186_1), ((HB.out.cell (World.block_lt_of_cell? w _ hw186_2)).trans hw186_2), ((HB.out.cell (World.block_lt_of_cell? w _ hw186_3)).trans hw186_3), ((HB.out.cell (World.block_lt_of_cell? w _ hw186_4)).trans hw186_4), ((HB.out.cell (World.block_lt_of_cell? w _ hw186_5)).trans hw186_5), ((HB.out.cell (World.block_lt_of_cell? w _ hw186_6)).trans hw186_6), ((HB.out.cell (World.block_lt_of_cell? w _ hw186_7)).trans hw186_7), ((HB.out.cell (World.block_lt_of_cell? w _ hw186_8)).trans hw186_8)⟩ (fun hHeld => ?_); refine with_tabW model_Agree.tab5 model_Agree.bits5 (fun HT_ HW_ => ?_)
                          generalize wc.drew = w18 at HB HR185_8 HR186_8 hx185_0 hx185_1 hx185_2 hx185_3 hx185_4 hx185_5 hx185_6 hx185_7 hx185_8 hx186_0 hx186_1 hx186_2 hx186_3 hx186_4 hx186_5 hx186_6 hx186_7 hx186_8 hHeld ⊢
                          refine pure_ (i := 0) (N := some 36) (v := ?_) (a' := ?_) #[true, false, false, false, false, false, false, false, false, false] rfl rfl (any_of HT_.out (by kernel_rfl)) (fun _ _ _ h => h) (Or.inl ⟨by rfl, ?_⟩) ?_ ?_
                          rotate_left
                          · intro w'
                            go_simp
                            with_reducible rfl
                          rotate_left
                          · simp only [Act.put, List.setIfInBounds_toArray, List.set_cons_zero, List.set_cons_succ, i64_w, i32_w]
                            rfl
                          refine pure_ (i := 1) (N := some 37) (v := ?_) (a' := ?_) #[true, true, false, false, false, false, false, false, false, false] rfl rfl (any_of HT_.out (by kernel_rfl)) (fun _ _ _ h => h) (Or.inl ⟨by rfl, ?_⟩) ?_ ?_
                          rotate_left
                          · intro w'
                            go_simp
                            with_reducible rfl
                          rotate_left
                          · simp only [Act.put, List.setIfInBounds_toArray, List.set_cons_zero, List.set_cons_succ, i64_w, i32_w]
                            rfl
                          refine pure_ (i := 2) (N := some 38) (v := ?_) (a' := ?_) #[true, true, true, false, false, false, false, false, false, false] rfl rfl (any_of HT_.out (by kernel_rfl)) (fun _ _ _ h => h) (Or.inl ⟨by rfl, ?_⟩) ?_ ?_
                          rotate_left
                          · intro w'
                            go_simp
                            with_reducible rfl
                          rotate_left
                          · simp only [Act.put, List.setIfInBounds_toArray, List.set_cons_zero, List.set_cons_succ, i64_w, i32_w]
                            rfl
                          refine pure_ (i := 4) (N := some 40) (v := ?_) (a' := ?_) #[true, true, true, false, true, false, false, false, false, false] rfl rfl (any_of HT_.out (by kernel_rfl)) (fun _ _ _ h => h) (Or.inl ⟨by rfl, ?_⟩) ?_ ?_
                          rotate_left
                          · intro w'
                            go_simp
                            with_reducible rfl
                          rotate_left
                          · simp only [Act.put, List.setIfInBounds_toArray, List.set_cons_zero, List.set_cons_succ, i64_w, i32_w]
                            rfl
                          refine pure_ (i := 5) (N := some 41) (v := ?_) (a' := ?_) #[true, true, true, false, true, true, false, false, false, false] rfl rfl (any_of HT_.out (by kernel_rfl)) (fun _ _ _ h => h) (Or.inl ⟨by rfl, ?_⟩) ?_ ?_
                          rotate_left
                          · intro w'
                            go_simp
                            with_reducible rfl
                          rotate_left
                          · simp only [Act.put, List.setIfInBounds_toArray, List.set_cons_zero, List.set_cons_succ, i64_w, i32_w]
                            rfl
                          refine pure_ (i := 6) (N := some 42) (v := ?_) (a' := ?_) #[true, true, true, false, true, true, true, false, false, false] rfl rfl (any_of HT_.out (by kernel_rfl)) (fun _ _ _ h => h) (Or.inl ⟨by rfl, ?_⟩) ?_ ?_
                          rotate_left
                          · intro w'
                            go_simp
                            with_reducible rfl
                          rotate_left
                          · simp only [Act.put, List.setIfInBounds_toArray, List.set_cons_zero, List.set_cons_succ, i64_w, i32_w]
                            rfl
                          refine take_ (i := 3) (N := some 39) (v := ?_) (a' := ?_) #[true, true, true, true, true, true, true, false, false, false] rfl rfl (take_ofW HT_.out HW_.out (by kernel_rfl)) (fun _ _ _ h => h) (Or.inl ⟨by rfl, ?_⟩) hHeld ?_ ?_
                          rotate_left
                          · rintro w' ⟨s0, s1, s2, s3, s4, s5, s6, s7, s8, s9, s10, s11, s12, s13, s14, s15, s16, s17⟩
                            go_simp
                            with_reducible rfl
                          rotate_left
                          · simp only [Act.put, List.setIfInBounds_toArray, List.set_cons_zero, List.set_cons_succ, i64_w, i32_w]
                            rfl
                          refine take_ (i := 7) (N := some 43) (v := ?_) (a' := ?_) #[true, true, true, true, true, true, true, true, false, false] rfl rfl (take_ofW HT_.out HW_.out (by kernel_rfl)) (fun _ _ _ h => h) (Or.inl ⟨by rfl, ?_⟩) hHeld ?_ ?_
                          rotate_left
                          · rintro w' ⟨s0, s1, s2, s3, s4, s5, s6, s7, s8, s9, s10, s11, s12, s13, s14, s15, s16, s17⟩
                            go_simp
                            with_reducible rfl
                          rotate_left
                          · simp only [Act.put, List.setIfInBounds_toArray, List.set_cons_zero, List.set_cons_succ, i64_w, i32_w]
                            rfl
                          refine one_ (i := 8) (N := some 44) #[true, true, true, true, true, true, true, true, true, false] rfl rfl (one_of HT_.out (by kernel_rfl)) (by decide) (fun K hK => ?_)
                          refine goes_ Try.func17 (by kernel_rfl) rfl #[.agg #[.int .i64 ((rd_T41 l0 x7_1).f0), .int .i64 ((rd_T41 l0 x7_1).f1), .int .u64 ((rd_T41 l0 x7_1).f2), .int .i64 ((rd_T41 l0 x7_1).f3), .int .i64 ((rd_T41 l0 x7_1).f4), .bool ((rd_T41 l0 x7_1).f5), .bool ((rd_T41 l0 x7_1).f6), .bool ((rd_T41 l0 x7_1).f7), .slice A185_8 ((rd_T41 l0 x7_1).f8).length c185_8], .agg #[.int .i64 ((rd_T41 l1 x7_1).f0), .int .i64 ((rd_T41 l1 x7_1).f1), .int .u64 ((rd_T41 l1 x7_1).f2), .int .i64 ((rd_T41 l1 x7_1).f3), .int .i64 ((rd_T41 l1 x7_1).f4), .bool ((rd_T41 l1 x7_1).f5), .bool ((rd_T41 l1 x7_1).f6), .bool ((rd_T41 l1 x7_1).f7), .slice A186_8 ((rd_T41 l1 x7_1).f8).length c186_8]] (by rfl) rfl rfl (by (try simp only [List.map_toArray, List.map_cons, List.map_nil]); first | done | rfl | (simp only [List.length_drop, List.length_take]; rfl)) ?_
                          with_reducible refine (model_Same.calls kj6 ((rd_T41 l0 x7_1).f0) ((rd_T41 l0 x7_1).f1) ((rd_T41 l0 x7_1).f2) ((rd_T41 l0 x7_1).f3) ((rd_T41 l0 x7_1).f4) ((rd_T41 l0 x7_1).f5) ((rd_T41 l0 x7_1).f6) ((rd_T41 l0 x7_1).f7) _ _ ((rd_T41 l0 x7_1).f8) ((rd_T41 l1 x7_1).f0) ((rd_T41 l1 x7_1).f1) ((rd_T41 l1 x7_1).f2) ((rd_T41 l1 x7_1).f3) ((rd_T41 l1 x7_1).f4) ((rd_T41 l1 x7_1).f5) ((rd_T41 l1 x7_1).f6) ((rd_T41 l1 x7_1).f7) _ _ ((rd_T41 l1 x7_1).f8) true _ ?side1 ?side2 ?side3 ?side4 A16.out).mono ?_
                          (case side1 => repeat (first | exact (Kd.C_below HR185_8.out HB.out) | (with_reducible refine Kd.C_alloc ?_ _) | (with_reducible refine Kd.C_drewN ?_ _) | (with_reducible refine Kd.C_drew ?_)))
                          (case side2 => exact HC185_8.out)
                          (case side3 => repeat (first | exact (Kd.C_below HR186_8.out HB.out) | (with_reducible refine Kd.C_alloc ?_ _) | (with_reducible refine Kd.C_drewN ?_ _) | (with_reducible refine Kd.C_drew ?_)))
                          (case side4 => exact HC186_8.out)
                          rintro e w19 ⟨rfl, hb⟩
                          refine ⟨_, rfl, ?_⟩
                          have n0_ := Aside0.mk (below_step (by repeat (first | (with_reducible first | exact HB.out | apply below_alloc | apply pw_below_drewN | apply below_drew1) | exact HB.out)) hb)
                          clear HB
                          have HB := n0_
                          clear n0_
                          (try clear hb)
                          (try clear hb2)
                          (try clear hk)
                          (try clear hi)
                          refine hK.out _ _ ⟨((HB.out.cell (World.block_lt_of_cell? w _ hw185_0)).trans hw185_0), ((HB.out.cell (World.block_lt_of_cell? w _ hw185_1)).trans hw185_1), ((HB.out.cell (World.block_lt_of_cell? w _ hw185_2)).trans hw185_2), ((HB.out.cell (World.block_lt_of_cell? w _ hw185_3)).trans hw185_3), ((HB.out.cell (World.block_lt_of_cell? w _ hw185_4)).trans hw185_4), ((HB.out.cell (World.block_lt_of_cell? w _ hw185_5)).trans hw185_5), ((HB.out.cell (World.block_lt_of_cell? w _ hw185_6)).trans hw185_6), ((HB.out.cell (World.block_lt_of_cell? w _ hw185_7)).trans hw185_7), ((HB.out.cell (World.block_lt_of_cell? w _ hw185_8)).trans hw185_8), ((HB.out.cell (World.block_lt_of_cell? w _ hw186_0)).trans hw186_0), ((HB.out.cell (World.block_lt_of_cell? w _ hw186_1)).trans hw186_1), ((HB.out.cell (World.block_lt_of_cell? w _ hw186_2)).trans hw186_2), ((HB.out.cell (World.block_lt_of_cell? w _ hw186_3)).trans hw186_3), ((HB.out.cell (World.block_lt_of_cell? w _ hw186_4)).trans hw186_4), ((HB.out.cell (World.block_lt_of_cell? w _ hw186_5)).trans hw186_5), ((HB.out.cell (World.block_lt_of_cell? w _ hw186_6)).trans hw186_6), ((HB.out.cell (World.block_lt_of_cell? w _ hw186_7)).trans hw186_7), ((HB.out.cell (World.block_lt_of_cell? w _ hw186_8)).trans hw186_8)⟩ (fun hHeld => ?_)
                          clear hK K
                          refine norm_ (a' := ?_) ?_ ?_
                          rotate_left
                          · show Act.put _ (some 44) _ = _
                            simp only [Act.put, List.setIfInBounds_toArray, List.set_cons_zero, List.set_cons_succ, i64_w, i32_w]
                            rfl
                          refine pure_ (i := 9) (N := some 45) (v := ?_) (a' := ?_) #[true, true, true, true, true, true, true, true, true, true] rfl rfl (any_of HT_.out (by kernel_rfl)) (fun _ _ _ h => h) (Or.inl ⟨by rfl, ?_⟩) ?_ ?_
                          rotate_left
                          · intro w'
                            go_simp
                            with_reducible rfl
                          rotate_left
                          · simp only [Act.put, List.setIfInBounds_toArray, List.set_cons_zero, List.set_cons_succ, i64_w, i32_w]
                            rfl
                          refine done_ (done_of HT_.out (by kernel_rfl)) ?_
                          try go_wp2
                          go_roundg kj6
                          case measure => have := HK1.out; have := HJ3.out; have := HJ6.out; omega
                          case rel => exact ⟨(wrap64 (x7_1 + 1)), (by first | rfl | (simp; done) | (simp [*]; done)), H', ⟨by have := HK1.out; have := HJ3.out; have := HJ6.out; omega⟩, ⟨by repeat (first | (with_reducible first | exact HB.out | apply below_alloc | apply pw_below_drewN | apply below_drew1) | exact HB.out)⟩⟩
                        · replace c17 := Bool.eq_false_iff.mpr c17
                          subst c17
                          have H1 : (some false) = some r := by rw [if_neg (show ¬ (false = true) by decide)] at H; exact H
                          clear H
                          have H := H1
                          clear H1
                          obtain rfl := Option.some.inj H
                          try go_wp2
                          have n0_ := Aside0.mk (below_drew1 HB.out)
                          clear HB
                          have HB := n0_
                          clear n0_
                          have p185 : 0 ≤ (x7_1 : Int) := of_decide_eq_true (by first | (with_reducible assumption) | assumption)
                          have q185 : x7_1 < (l0.length : Int) := of_decide_eq_true (by first | (with_reducible assumption) | assumption)
                          obtain ⟨ad185, A185_8, c185_8, e185, hx185_0, hx185_1, hx185_2, hx185_3, hx185_4, hx185_5, hx185_6, hx185_7, hx185_8, hl185_8, hi185_8⟩ := at_T41 HR0.out x7_1 p185 q185
                          have hw185_8 := hx185_8
                          have hw185_7 := hx185_7
                          have hw185_6 := hx185_6
                          have hw185_5 := hx185_5
                          have hw185_4 := hx185_4
                          have hw185_3 := hx185_3
                          have hw185_2 := hx185_2
                          have hw185_1 := hx185_1
                          have hw185_0 := hx185_0
                          cases e185
                          replace hx185_0 := (HB.out.cell (World.block_lt_of_cell? w _ hx185_0)).trans hx185_0
                          replace hx185_1 := (HB.out.cell (World.block_lt_of_cell? w _ hx185_1)).trans hx185_1
                          replace hx185_2 := (HB.out.cell (World.block_lt_of_cell? w _ hx185_2)).trans hx185_2
                          replace hx185_3 := (HB.out.cell (World.block_lt_of_cell? w _ hx185_3)).trans hx185_3
                          replace hx185_4 := (HB.out.cell (World.block_lt_of_cell? w _ hx185_4)).trans hx185_4
                          replace hx185_5 := (HB.out.cell (World.block_lt_of_cell? w _ hx185_5)).trans hx185_5
                          replace hx185_6 := (HB.out.cell (World.block_lt_of_cell? w _ hx185_6)).trans hx185_6
                          replace hx185_7 := (HB.out.cell (World.block_lt_of_cell? w _ hx185_7)).trans hx185_7
                          replace hx185_8 := (HB.out.cell (World.block_lt_of_cell? w _ hx185_8)).trans hx185_8
                          have HR185_8 := Aside0.mk hi185_8
                          have HC185_8 := Aside0.mk hl185_8
                          clear hi185_8 hl185_8
                          replace p185 := eq_true p185
                          replace q185 := eq_true q185
                          have p186 : 0 ≤ (x7_1 : Int) := of_decide_eq_true (by first | (with_reducible assumption) | assumption)
                          have q186 : x7_1 < (l1.length : Int) := of_decide_eq_true (by first | (with_reducible assumption) | assumption)
                          obtain ⟨ad186, A186_8, c186_8, e186, hx186_0, hx186_1, hx186_2, hx186_3, hx186_4, hx186_5, hx186_6, hx186_7, hx186_8, hl186_8, hi186_8⟩ := at_T41 HR1.out x7_1 p186 q186
                          have hw186_8 := hx186_8
                          have hw186_7 := hx186_7
                          have hw186_6 := hx186_6
                          have hw186_5 := hx186_5
                          have hw186_4 := hx186_4
                          have hw186_3 := hx186_3
                          have hw186_2 := hx186_2
                          have hw186_1 := hx186_1
                          have hw186_0 := hx186_0
                          cases e186
                          replace hx186_0 := (HB.out.cell (World.block_lt_of_cell? w _ hx186_0)).trans hx186_0
                          replace hx186_1 := (HB.out.cell (World.block_lt_of_cell? w _ hx186_1)).trans hx186_1
                          replace hx186_2 := (HB.out.cell (World.block_lt_of_cell? w _ hx186_2)).trans hx186_2
                          replace hx186_3 := (HB.out.cell (World.block_lt_of_cell? w _ hx186_3)).trans hx186_3
                          replace hx186_4 := (HB.out.cell (World.block_lt_of_cell? w _ hx186_4)).trans hx186_4
                          replace hx186_5 := (HB.out.cell (World.block_lt_of_cell? w _ hx186_5)).trans hx186_5
                          replace hx186_6 := (HB.out.cell (World.block_lt_of_cell? w _ hx186_6)).trans hx186_6
                          replace hx186_7 := (HB.out.cell (World.block_lt_of_cell? w _ hx186_7)).trans hx186_7
                          replace hx186_8 := (HB.out.cell (World.block_lt_of_cell? w _ hx186_8)).trans hx186_8
                          have HR186_8 := Aside0.mk hi186_8
                          have HC186_8 := Aside0.mk hl186_8
                          clear hi186_8 hl186_8
                          replace p186 := eq_true p186
                          replace q186 := eq_true q186
                          refine start_ (n := 10) (S := fun w' => w'.cell? (ad185.add ((x7_1).toNat * 9)) = some (.int .i64 ((rd_T41 l0 x7_1).f0)) ∧ w'.cell? ⟨(ad185.add ((x7_1).toNat * 9)).block, (ad185.add ((x7_1).toNat * 9)).off + 1, none⟩ = some (.int .i64 ((rd_T41 l0 x7_1).f1)) ∧ w'.cell? ⟨(ad185.add ((x7_1).toNat * 9)).block, (ad185.add ((x7_1).toNat * 9)).off + 2, none⟩ = some (.int .u64 ((rd_T41 l0 x7_1).f2)) ∧ w'.cell? ⟨(ad185.add ((x7_1).toNat * 9)).block, (ad185.add ((x7_1).toNat * 9)).off + 3, none⟩ = some (.int .i64 ((rd_T41 l0 x7_1).f3)) ∧ w'.cell? ⟨(ad185.add ((x7_1).toNat * 9)).block, (ad185.add ((x7_1).toNat * 9)).off + 4, none⟩ = some (.int .i64 ((rd_T41 l0 x7_1).f4)) ∧ w'.cell? ⟨(ad185.add ((x7_1).toNat * 9)).block, (ad185.add ((x7_1).toNat * 9)).off + 5, none⟩ = some (.bool ((rd_T41 l0 x7_1).f5)) ∧ w'.cell? ⟨(ad185.add ((x7_1).toNat * 9)).block, (ad185.add ((x7_1).toNat * 9)).off + 6, none⟩ = some (.bool ((rd_T41 l0 x7_1).f6)) ∧ w'.cell? ⟨(ad185.add ((x7_1).toNat * 9)).block, (ad185.add ((x7_1).toNat * 9)).off + 7, none⟩ = some (.bool ((rd_T41 l0 x7_1).f7)) ∧ w'.cell? ⟨(ad185.add ((x7_1).toNat * 9)).block, (ad185.add ((x7_1).toNat * 9)).off + 8, none⟩ = some (.slice A185_8 ((rd_T41 l0 x7_1).f8).length c185_8) ∧ w'.cell? (ad186.add ((x7_1).toNat * 9)) = some (.int .i64 ((rd_T41 l1 x7_1).f0)) ∧ w'.cell? ⟨(ad186.add ((x7_1).toNat * 9)).block, (ad186.add ((x7_1).toNat * 9)).off + 1, none⟩ = some (.int .i64 ((rd_T41 l1 x7_1).f1)) ∧ w'.cell? ⟨(ad186.add ((x7_1).toNat * 9)).block, (ad186.add ((x7_1).toNat * 9)).off + 2, none⟩ = some (.int .u64 ((rd_T41 l1 x7_1).f2)) ∧ w'.cell? ⟨(ad186.add ((x7_1).toNat * 9)).block, (ad186.add ((x7_1).toNat * 9)).off + 3, none⟩ = some (.int .i64 ((rd_T41 l1 x7_1).f3)) ∧ w'.cell? ⟨(ad186.add ((x7_1).toNat * 9)).block, (ad186.add ((x7_1).toNat * 9)).off + 4, none⟩ = some (.int .i64 ((rd_T41 l1 x7_1).f4)) ∧ w'.cell? ⟨(ad186.add ((x7_1).toNat * 9)).block, (ad186.add ((x7_1).toNat * 9)).off + 5, none⟩ = some (.bool ((rd_T41 l1 x7_1).f5)) ∧ w'.cell? ⟨(ad186.add ((x7_1).toNat * 9)).block, (ad186.add ((x7_1).toNat * 9)).off + 6, none⟩ = some (.bool ((rd_T41 l1 x7_1).f6)) ∧ w'.cell? ⟨(ad186.add ((x7_1).toNat * 9)).block, (ad186.add ((x7_1).toNat * 9)).off + 7, none⟩ = some (.bool ((rd_T41 l1 x7_1).f7)) ∧ w'.cell? ⟨(ad186.add ((x7_1).toNat * 9)).block, (ad186.add ((x7_1).toNat * 9)).off + 8, none⟩ = some (.slice A186_8 ((rd_T41 l1 x7_1).f8).length c186_8)) (ds := []) #[false, false, false, false, false, false, false, false, false, false] (by kernel_rfl) rfl rfl ⟨((HB.out.cell (World.block_lt_of_cell? w _ hw185_0)).trans hw185_0), ((HB.out.cell (World.block_lt_of_cell? w _ hw185_1)).trans hw185_1), ((HB.out.cell (World.block_lt_of_cell? w _ hw185_2)).trans hw185_2), ((HB.out.cell (World.block_lt_of_cell? w _ hw185_3)).trans hw185_3), ((HB.out.cell (World.block_lt_of_cell? w _ hw185_4)).trans hw185_4), ((HB.out.cell (World.block_lt_of_cell? w _ hw185_5)).trans hw185_5), ((HB.out.cell (World.block_lt_of_cell? w _ hw185_6)).trans hw185_6), ((HB.out.cell (World.block_lt_of_cell? w _ hw185_7)).trans hw185_7), ((HB.out.cell (World.block_lt_of_cell? w _ hw185_8)).trans hw185_8), ((HB.out.cell (World.block_lt_of_cell? w _ hw186_0)).trans hw186_0), ((HB.out.cell (World.block_lt_of_cell? w _ hw186_1)).trans hw186_1), ((HB.out.cell (World.block_lt_of_cell? w _ hw186_2)).trans hw186_2), ((HB.out.cell (World.block_lt_of_cell? w _ hw186_3)).trans hw186_3), ((HB.out.cell (World.block_lt_of_cell? w _ hw186_4)).trans hw186_4), ((HB.out.cell (World.block_lt_of_cell? w _ hw186_5)).trans hw186_5), ((HB.out.cell (World.block_lt_of_cell? w _ hw186_6)).trans hw186_6), ((HB.out.cell (World.block_lt_of_cell? w _ hw186_7)).trans hw186_7), ((HB.out.cell (World.block_lt_of_cell? w _ hw186_8)).trans hw186_8)⟩ (fun hHeld => ?_); refine with_tabW model_Agree.tab5 model_Agree.bits5 (fun HT_ HW_ => ?_)
                          generalize wc.drew = w20 at HB HR185_8 HR186_8 hx185_0 hx185_1 hx185_2 hx185_3 hx185_4 hx185_5 hx185_6 hx185_7 hx185_8 hx186_0 hx186_1 hx186_2 hx186_3 hx186_4 hx186_5 hx186_6 hx186_7 hx186_8 hHeld ⊢
                          refine pure_ (i := 0) (N := some 36) (v := ?_) (a' := ?_) #[true, false, false, false, false, false, false, false, false, false] rfl rfl (any_of HT_.out (by kernel_rfl)) (fun _ _ _ h => h) (Or.inl ⟨by rfl, ?_⟩) ?_ ?_
                          rotate_left
                          · intro w'
                            go_simp
                            with_reducible rfl
                          rotate_left
                          · simp only [Act.put, List.setIfInBounds_toArray, List.set_cons_zero, List.set_cons_succ, i64_w, i32_w]
                            rfl
                          refine pure_ (i := 1) (N := some 37) (v := ?_) (a' := ?_) #[true, true, false, false, false, false, false, false, false, false] rfl rfl (any_of HT_.out (by kernel_rfl)) (fun _ _ _ h => h) (Or.inl ⟨by rfl, ?_⟩) ?_ ?_
                          rotate_left
                          · intro w'
                            go_simp
                            with_reducible rfl
                          rotate_left
                          · simp only [Act.put, List.setIfInBounds_toArray, List.set_cons_zero, List.set_cons_succ, i64_w, i32_w]
                            rfl
                          refine pure_ (i := 2) (N := some 38) (v := ?_) (a' := ?_) #[true, true, true, false, false, false, false, false, false, false] rfl rfl (any_of HT_.out (by kernel_rfl)) (fun _ _ _ h => h) (Or.inl ⟨by rfl, ?_⟩) ?_ ?_
                          rotate_left
                          · intro w'
                            go_simp
                            with_reducible rfl
                          rotate_left
                          · simp only [Act.put, List.setIfInBounds_toArray, List.set_cons_zero, List.set_cons_succ, i64_w, i32_w]
                            rfl
                          refine pure_ (i := 4) (N := some 40) (v := ?_) (a' := ?_) #[true, true, true, false, true, false, false, false, false, false] rfl rfl (any_of HT_.out (by kernel_rfl)) (fun _ _ _ h => h) (Or.inl ⟨by rfl, ?_⟩) ?_ ?_
                          rotate_left
                          · intro w'
                            go_simp
                            with_reducible rfl
                          rotate_left
                          · simp only [Act.put, List.setIfInBounds_toArray, List.set_cons_zero, List.set_cons_succ, i64_w, i32_w]
                            rfl
                          refine pure_ (i := 5) (N := some 41) (v := ?_) (a' := ?_) #[true, true, true, false, true, true, false, false, false, false] rfl rfl (any_of HT_.out (by kernel_rfl)) (fun _ _ _ h => h) (Or.inl ⟨by rfl, ?_⟩) ?_ ?_
                          rotate_left
                          · intro w'
                            go_simp
                            with_reducible rfl
                          rotate_left
                          · simp only [Act.put, List.setIfInBounds_toArray, List.set_cons_zero, List.set_cons_succ, i64_w, i32_w]
                            rfl
                          refine pure_ (i := 6) (N := some 42) (v := ?_) (a' := ?_) #[true, true, true, false, true, true, true, false, false, false] rfl rfl (any_of HT_.out (by kernel_rfl)) (fun _ _ _ h => h) (Or.inl ⟨by rfl, ?_⟩) ?_ ?_
                          rotate_left
                          · intro w'
                            go_simp
                            with_reducible rfl
                          rotate_left
                          · simp only [Act.put, List.setIfInBounds_toArray, List.set_cons_zero, List.set_cons_succ, i64_w, i32_w]
                            rfl
                          refine take_ (i := 3) (N := some 39) (v := ?_) (a' := ?_) #[true, true, true, true, true, true, true, false, false, false] rfl rfl (take_ofW HT_.out HW_.out (by kernel_rfl)) (fun _ _ _ h => h) (Or.inl ⟨by rfl, ?_⟩) hHeld ?_ ?_
                          rotate_left
                          · rintro w' ⟨s0, s1, s2, s3, s4, s5, s6, s7, s8, s9, s10, s11, s12, s13, s14, s15, s16, s17⟩
                            go_simp
                            with_reducible rfl
                          rotate_left
                          · simp only [Act.put, List.setIfInBounds_toArray, List.set_cons_zero, List.set_cons_succ, i64_w, i32_w]
                            rfl
                          refine take_ (i := 7) (N := some 43) (v := ?_) (a' := ?_) #[true, true, true, true, true, true, true, true, false, false] rfl rfl (take_ofW HT_.out HW_.out (by kernel_rfl)) (fun _ _ _ h => h) (Or.inl ⟨by rfl, ?_⟩) hHeld ?_ ?_
                          rotate_left
                          · rintro w' ⟨s0, s1, s2, s3, s4, s5, s6, s7, s8, s9, s10, s11, s12, s13, s14, s15, s16, s17⟩
                            go_simp
                            with_reducible rfl
                          rotate_left
                          · simp only [Act.put, List.setIfInBounds_toArray, List.set_cons_zero, List.set_cons_succ, i64_w, i32_w]
                            rfl
                          refine one_ (i := 8) (N := some 44) #[true, true, true, true, true, true, true, true, true, false] rfl rfl (one_of HT_.out (by kernel_rfl)) (by decide) (fun K hK => ?_)
                          refine goes_ Try.func17 (by kernel_rfl) rfl #[.agg #[.int .i64 ((rd_T41 l0 x7_1).f0), .int .i64 ((rd_T41 l0 x7_1).f1), .int .u64 ((rd_T41 l0 x7_1).f2), .int .i64 ((rd_T41 l0 x7_1).f3), .int .i64 ((rd_T41 l0 x7_1).f4), .bool ((rd_T41 l0 x7_1).f5), .bool ((rd_T41 l0 x7_1).f6), .bool ((rd_T41 l0 x7_1).f7), .slice A185_8 ((rd_T41 l0 x7_1).f8).length c185_8], .agg #[.int .i64 ((rd_T41 l1 x7_1).f0), .int .i64 ((rd_T41 l1 x7_1).f1), .int .u64 ((rd_T41 l1 x7_1).f2), .int .i64 ((rd_T41 l1 x7_1).f3), .int .i64 ((rd_T41 l1 x7_1).f4), .bool ((rd_T41 l1 x7_1).f5), .bool ((rd_T41 l1 x7_1).f6), .bool ((rd_T41 l1 x7_1).f7), .slice A186_8 ((rd_T41 l1 x7_1).f8).length c186_8]] (by rfl) rfl rfl (by (try simp only [List.map_toArray, List.map_cons, List.map_nil]); first | done | rfl | (simp only [List.length_drop, List.length_take]; rfl)) ?_
                          with_reducible refine (model_Same.calls kj6 ((rd_T41 l0 x7_1).f0) ((rd_T41 l0 x7_1).f1) ((rd_T41 l0 x7_1).f2) ((rd_T41 l0 x7_1).f3) ((rd_T41 l0 x7_1).f4) ((rd_T41 l0 x7_1).f5) ((rd_T41 l0 x7_1).f6) ((rd_T41 l0 x7_1).f7) _ _ ((rd_T41 l0 x7_1).f8) ((rd_T41 l1 x7_1).f0) ((rd_T41 l1 x7_1).f1) ((rd_T41 l1 x7_1).f2) ((rd_T41 l1 x7_1).f3) ((rd_T41 l1 x7_1).f4) ((rd_T41 l1 x7_1).f5) ((rd_T41 l1 x7_1).f6) ((rd_T41 l1 x7_1).f7) _ _ ((rd_T41 l1 x7_1).f8) false _ ?side1 ?side2 ?side3 ?side4 A16.out).mono ?_
                          (case side1 => repeat (first | exact (Kd.C_below HR185_8.out HB.out) | (with_reducible refine Kd.C_alloc ?_ _) | (with_reducible refine Kd.C_drewN ?_ _) | (with_reducible refine Kd.C_drew ?_)))
                          (case side2 => exact HC185_8.out)
                          (case side3 => repeat (first | exact (Kd.C_below HR186_8.out HB.out) | (with_reducible refine Kd.C_alloc ?_ _) | (with_reducible refine Kd.C_drewN ?_ _) | (with_reducible refine Kd.C_drew ?_)))
                          (case side4 => exact HC186_8.out)
                          rintro e w21 ⟨rfl, hb⟩
                          refine ⟨_, rfl, ?_⟩
                          have n0_ := Aside0.mk (below_step (by repeat (first | (with_reducible first | exact HB.out | apply below_alloc | apply pw_below_drewN | apply below_drew1) | exact HB.out)) hb)
                          clear HB
                          have HB := n0_
                          clear n0_
                          (try clear hb)
                          (try clear hb2)
                          (try clear hk)
                          (try clear hi)
                          refine hK.out _ _ ⟨((HB.out.cell (World.block_lt_of_cell? w _ hw185_0)).trans hw185_0), ((HB.out.cell (World.block_lt_of_cell? w _ hw185_1)).trans hw185_1), ((HB.out.cell (World.block_lt_of_cell? w _ hw185_2)).trans hw185_2), ((HB.out.cell (World.block_lt_of_cell? w _ hw185_3)).trans hw185_3), ((HB.out.cell (World.block_lt_of_cell? w _ hw185_4)).trans hw185_4), ((HB.out.cell (World.block_lt_of_cell? w _ hw185_5)).trans hw185_5), ((HB.out.cell (World.block_lt_of_cell? w _ hw185_6)).trans hw185_6), ((HB.out.cell (World.block_lt_of_cell? w _ hw185_7)).trans hw185_7), ((HB.out.cell (World.block_lt_of_cell? w _ hw185_8)).trans hw185_8), ((HB.out.cell (World.block_lt_of_cell? w _ hw186_0)).trans hw186_0), ((HB.out.cell (World.block_lt_of_cell? w _ hw186_1)).trans hw186_1), ((HB.out.cell (World.block_lt_of_cell? w _ hw186_2)).trans hw186_2), ((HB.out.cell (World.block_lt_of_cell? w _ hw186_3)).trans hw186_3), ((HB.out.cell (World.block_lt_of_cell? w _ hw186_4)).trans hw186_4), ((HB.out.cell (World.block_lt_of_cell? w _ hw186_5)).trans hw186_5), ((HB.out.cell (World.block_lt_of_cell? w _ hw186_6)).trans hw186_6), ((HB.out.cell (World.block_lt_of_cell? w _ hw186_7)).trans hw186_7), ((HB.out.cell (World.block_lt_of_cell? w _ hw186_8)).trans hw186_8)⟩ (fun hHeld => ?_)
                          clear hK K
                          refine norm_ (a' := ?_) ?_ ?_
                          rotate_left
                          · show Act.put _ (some 44) _ = _
                            simp only [Act.put, List.setIfInBounds_toArray, List.set_cons_zero, List.set_cons_succ, i64_w, i32_w]
                            rfl
                          refine pure_ (i := 9) (N := some 45) (v := ?_) (a' := ?_) #[true, true, true, true, true, true, true, true, true, true] rfl rfl (any_of HT_.out (by kernel_rfl)) (fun _ _ _ h => h) (Or.inl ⟨by rfl, ?_⟩) ?_ ?_
                          rotate_left
                          · intro w'
                            go_simp
                            with_reducible rfl
                          rotate_left
                          · simp only [Act.put, List.setIfInBounds_toArray, List.set_cons_zero, List.set_cons_succ, i64_w, i32_w]
                            rfl
                          refine done_ (done_of HT_.out (by kernel_rfl)) ?_
                          try go_wp2
                          go_ret
                          exact ⟨by first | rfl | (simp [errW_none, errW_some] <;> rfl) | (simp [*, errW_none, errW_some] <;> rfl), by repeat (first | (with_reducible first | exact HB.out | apply below_alloc | apply pw_below_drewN | apply below_drew1) | exact HB.out)⟩
                      · rw [if_neg c15] at H
                        exact absurd H (by simp)
                    · rw [if_neg c14] at H
                      exact absurd H (by simp)
                  · rw [if_neg c13] at H
                    exact absurd H (by simp)
          · replace c6 := Bool.eq_false_iff.mpr c6
            subst c6
            have H1 : (some true) = some r := by rw [if_neg (show ¬ (false = true) by decide)] at H; exact H
            clear H
            have H := H1
            clear H1
            obtain rfl := Option.some.inj H
            go_wp2
            go_ret
            exact ⟨by first | rfl | (simp [errW_none, errW_some] <;> rfl) | (simp [*, errW_none, errW_some] <;> rfl), by repeat (first | (with_reducible first | exact HB.out | apply below_alloc | apply pw_below_drewN | apply below_drew1) | exact HB.out)⟩

end Go.Proofs.Ytnbdlkjphdfkpaa.H

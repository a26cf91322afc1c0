/- Contracts of the helpers of layer 21, as the kit's printer writes them; one namespace for all laws. No conditions. -/
import Derived.Test.YtnbdlkjphdfkpaaH4
namespace Go.Proofs.Ytnbdlkjphdfkpaa.H
open Go.RowKit Go.Proofs.YtnbdlkjphdfkpaaW.PrintWords Go.Proofs.YtnbdlkjphdfkpaaW.PrintLast Go.Proofs.YtnbdlkjphdfkpaaW.PrintMore
attribute [local go_sem] max2_int min2_int max_two min_two max_three min_three max_four min_four   -- for this text's walks alone
set_option linter.unusedVariables false
set_option linter.unusedSimpArgs false

/-! ### penstockref21_Stable: function 16 -/
mutual
def penstockref21_Stable.j1 : Nat → List (S41) → Int → Int → Option (Int)
  | 0, _, _, _ => none
  | k + 1, x0, x1, x5 => penstockref21_Stable.l1 k x0 x1 x5 0
def penstockref21_Stable.l1 : Nat → List (S41) → Int → Int → Int → Option (Int)
  | 0, _, _, _, _ => none
  | k + 1, x0, x1, x7, x8 => if x8 < (x0.length : Int) then ((penstockref21_below.f k x0 x1 x8).bind fun t163 => (penstockref21_Stable.j3 k x0 x1 x7 x8 t163)) else (penstockref21_Stable.j3 k x0 x1 x7 x8 false)
def penstockref21_Stable.j3 : Nat → List (S41) → Int → Int → Int → Bool → Option (Int)
  | 0, _, _, _, _, _ => none
  | k + 1, x0, x1, x7, x8, x44 => if x44 = true then (if 0 ≤ x8 then (if x8 < (x0.length : Int) then (if ((rd_T41 x0 x8).f5 = true) then (penstockref21_Stable.j4 k x0 x1 x7 x8 ((rd_T41 x0 x8).f6)) else (penstockref21_Stable.j4 k x0 x1 x7 x8 true)) else (none)) else (none)) else (some x7)
def penstockref21_Stable.j4 : Nat → List (S41) → Int → Int → Int → Bool → Option (Int)
  | 0, _, _, _, _, _ => none
  | k + 1, x0, x1, x7, x8, x59 => if x59 = true then (penstockref21_Stable.l1 k x0 x1 x7 (wrap64 (x8 + 1))) else (penstockref21_Stable.l2 k x0 x1 x7 x8 false (wrap64 (x8 + 1)))
def penstockref21_Stable.l2 : Nat → List (S41) → Int → Int → Int → Bool → Int → Option (Int)
  | 0, _, _, _, _, _, _ => none
  | k + 1, x0, x1, x7, x8, x9, x10 => if x10 < (x0.length : Int) then ((penstockref21_below.f k x0 x1 x10).bind fun t166 => (if t166 = true then (if x9 = true then (penstockref21_Stable.l2 k x0 x1 x7 x8 true (wrap64 (x10 + 1))) else (if 0 ≤ x10 then (if (rd_T41 x0 x10).f6 = true then (if 0 ≤ x8 then (if x8 < (x0.length : Int) then (penstockref21_Stable.l2 k x0 x1 x7 x8 (((rd_T41 x0 x10).f2) == ((rd_T41 x0 x8).f2)) (wrap64 (x10 + 1))) else (none)) else (none)) else (penstockref21_Stable.l2 k x0 x1 x7 x8 false (wrap64 (x10 + 1)))) else (none))) else (if x9 = true then (penstockref21_Stable.l1 k x0 x1 x7 (wrap64 (x8 + 1))) else (if 0 ≤ x8 then (if x8 < (x0.length : Int) then (if ((rd_T41 x0 x8).f0) < x7 then (penstockref21_Stable.l1 k x0 x1 ((rd_T41 x0 x8).f0) (wrap64 (x8 + 1))) else (penstockref21_Stable.l1 k x0 x1 x7 (wrap64 (x8 + 1)))) else (none)) else (none))))) else (if x9 = true then (penstockref21_Stable.l1 k x0 x1 x7 (wrap64 (x8 + 1))) else (if 0 ≤ x8 then (if x8 < (x0.length : Int) then (if ((rd_T41 x0 x8).f0) < x7 then (penstockref21_Stable.l1 k x0 x1 ((rd_T41 x0 x8).f0) (wrap64 (x8 + 1))) else (penstockref21_Stable.l1 k x0 x1 x7 (wrap64 (x8 + 1)))) else (none)) else (none)))
def penstockref21_Stable.l0 : Nat → List (S41) → Int → Int → Int → Option (Int)
  | 0, _, _, _, _ => none
  | k + 1, x0, x1, x5, x6 => if x6 < (x0.length : Int) then ((penstockref21_below.f k x0 x1 x6).bind fun t159 => (if t159 = true then (if 0 ≤ x6 then ((penstockref07_Size.f ((rd_T41 x0 x6).f0) ((rd_T41 x0 x6).f1) ((rd_T41 x0 x6).f2) ((rd_T41 x0 x6).f3) ((rd_T41 x0 x6).f4) ((rd_T41 x0 x6).f5) ((rd_T41 x0 x6).f6) ((rd_T41 x0 x6).f7) ((rd_T41 x0 x6).f8)).bind fun t162 => (penstockref21_Stable.l0 k x0 x1 (wrap64 (((rd_T41 x0 x6).f0) + t162)) (wrap64 (x6 + 1)))) else (none)) else (penstockref21_Stable.j1 k x0 x1 x5))) else (penstockref21_Stable.j1 k x0 x1 x5)
end
def penstockref21_Stable.f (k : Nat) (l0 : List (S41)) (a1 : Int) : Option (Int) := penstockref21_Stable.l0 k l0 a1 0 0
theorem penstockref21_Stable.mono_l : ∀ k, (∀ y0 y1 y2, LeO (penstockref21_Stable.j1 k y0 y1 y2) (penstockref21_Stable.j1 (k + 1) y0 y1 y2)) ∧ (∀ y0 y1 y2 y3, LeO (penstockref21_Stable.l1 k y0 y1 y2 y3) (penstockref21_Stable.l1 (k + 1) y0 y1 y2 y3)) ∧ (∀ y0 y1 y2 y3 y4, LeO (penstockref21_Stable.j3 k y0 y1 y2 y3 y4) (penstockref21_Stable.j3 (k + 1) y0 y1 y2 y3 y4)) ∧ (∀ y0 y1 y2 y3 y4, LeO (penstockref21_Stable.j4 k y0 y1 y2 y3 y4) (penstockref21_Stable.j4 (k + 1) y0 y1 y2 y3 y4)) ∧ (∀ y0 y1 y2 y3 y4 y5, LeO (penstockref21_Stable.l2 k y0 y1 y2 y3 y4 y5) (penstockref21_Stable.l2 (k + 1) y0 y1 y2 y3 y4 y5)) ∧ (∀ y0 y1 y2 y3, LeO (penstockref21_Stable.l0 k y0 y1 y2 y3) (penstockref21_Stable.l0 (k + 1) y0 y1 y2 y3))
  | 0 => ⟨fun _ _ _ r h => by simp [penstockref21_Stable.j1] at h, fun _ _ _ _ r h => by simp [penstockref21_Stable.l1] at h, fun _ _ _ _ _ r h => by simp [penstockref21_Stable.j3] at h, fun _ _ _ _ _ r h => by simp [penstockref21_Stable.j4] at h, fun _ _ _ _ _ _ r h => by simp [penstockref21_Stable.l2] at h, fun _ _ _ _ r h => by simp [penstockref21_Stable.l0] at h⟩
  | k + 1 => by
    obtain ⟨ih0, ih1, ih2, ih3, ih4, ih5⟩ := penstockref21_Stable.mono_l k
    refine ⟨?_, ?_, ?_, ?_, ?_, ?_⟩
    · intro y0 y1 y2
      unfold penstockref21_Stable.j1
      repeat' first
      | (with_reducible exact ih0 _ _ _)
      | (with_reducible exact ih1 _ _ _ _)
      | (with_reducible exact ih2 _ _ _ _ _)
      | (with_reducible exact ih3 _ _ _ _ _)
      | (with_reducible exact ih4 _ _ _ _ _ _)
      | (with_reducible exact ih5 _ _ _ _)
      | (with_reducible exact penstockref21_below.mono _ _ _ _)
      | (with_reducible exact LeO.refl _)
      | (with_reducible exact LeO.none _)
      | (with_reducible refine LeO.ite ?_ ?_)
      | (with_reducible refine LeO.bind ?_ (fun _ => ?_))
      | exact ih0 _ _ _
      | exact ih1 _ _ _ _
      | exact ih2 _ _ _ _ _
      | exact ih3 _ _ _ _ _
      | exact ih4 _ _ _ _ _ _
      | exact ih5 _ _ _ _
      | exact penstockref21_below.mono _ _ _ _
      | exact LeO.none _
      | refine LeO.ite ?_ ?_
      | refine LeO.bind ?_ (fun _ => ?_)
    · intro y0 y1 y2 y3
      unfold penstockref21_Stable.l1
      repeat' first
      | (with_reducible exact ih0 _ _ _)
      | (with_reducible exact ih1 _ _ _ _)
      | (with_reducible exact ih2 _ _ _ _ _)
      | (with_reducible exact ih3 _ _ _ _ _)
      | (with_reducible exact ih4 _ _ _ _ _ _)
      | (with_reducible exact ih5 _ _ _ _)
      | (with_reducible exact penstockref21_below.mono _ _ _ _)
      | (with_reducible exact LeO.refl _)
      | (with_reducible exact LeO.none _)
      | (with_reducible refine LeO.ite ?_ ?_)
      | (with_reducible refine LeO.bind ?_ (fun _ => ?_))
      | exact ih0 _ _ _
      | exact ih1 _ _ _ _
      | exact ih2 _ _ _ _ _
      | exact ih3 _ _ _ _ _
      | exact ih4 _ _ _ _ _ _
      | exact ih5 _ _ _ _
      | exact penstockref21_below.mono _ _ _ _
      | exact LeO.none _
      | refine LeO.ite ?_ ?_
      | refine LeO.bind ?_ (fun _ => ?_)
    · intro y0 y1 y2 y3 y4
      unfold penstockref21_Stable.j3
      repeat' first
      | (with_reducible exact ih0 _ _ _)
      | (with_reducible exact ih1 _ _ _ _)
      | (with_reducible exact ih2 _ _ _ _ _)
      | (with_reducible exact ih3 _ _ _ _ _)
      | (with_reducible exact ih4 _ _ _ _ _ _)
      | (with_reducible exact ih5 _ _ _ _)
      | (with_reducible exact penstockref21_below.mono _ _ _ _)
      | (with_reducible exact LeO.refl _)
      | (with_reducible exact LeO.none _)
      | (with_reducible refine LeO.ite ?_ ?_)
      | (with_reducible refine LeO.bind ?_ (fun _ => ?_))
      | exact ih0 _ _ _
      | exact ih1 _ _ _ _
      | exact ih2 _ _ _ _ _
      | exact ih3 _ _ _ _ _
      | exact ih4 _ _ _ _ _ _
      | exact ih5 _ _ _ _
      | exact penstockref21_below.mono _ _ _ _
      | exact LeO.none _
      | refine LeO.ite ?_ ?_
      | refine LeO.bind ?_ (fun _ => ?_)
    · intro y0 y1 y2 y3 y4
      unfold penstockref21_Stable.j4
      repeat' first
      | (with_reducible exact ih0 _ _ _)
      | (with_reducible exact ih1 _ _ _ _)
      | (with_reducible exact ih2 _ _ _ _ _)
      | (with_reducible exact ih3 _ _ _ _ _)
      | (with_reducible exact ih4 _ _ _ _ _ _)
      | (with_reducible exact ih5 _ _ _ _)
      | (with_reducible exact penstockref21_below.mono _ _ _ _)
      | (with_reducible exact LeO.refl _)
      | (with_reducible exact LeO.none _)
      | (with_reducible refine LeO.ite ?_ ?_)
      | (with_reducible refine LeO.bind ?_ (fun _ => ?_))
      | exact ih0 _ _ _
      | exact ih1 _ _ _ _
      | exact ih2 _ _ _ _ _
      | exact ih3 _ _ _ _ _
      | exact ih4 _ _ _ _ _ _
      | exact ih5 _ _ _ _
      | exact penstockref21_below.mono _ _ _ _
      | exact LeO.none _
      | refine LeO.ite ?_ ?_
      | refine LeO.bind ?_ (fun _ => ?_)
    · intro y0 y1 y2 y3 y4 y5
      unfold penstockref21_Stable.l2
      repeat' first
      | (with_reducible exact ih0 _ _ _)
      | (with_reducible exact ih1 _ _ _ _)
      | (with_reducible exact ih2 _ _ _ _ _)
      | (with_reducible exact ih3 _ _ _ _ _)
      | (with_reducible exact ih4 _ _ _ _ _ _)
      | (with_reducible exact ih5 _ _ _ _)
      | (with_reducible exact penstockref21_below.mono _ _ _ _)
      | (with_reducible exact LeO.refl _)
      | (with_reducible exact LeO.none _)
      | (with_reducible refine LeO.ite ?_ ?_)
      | (with_reducible refine LeO.bind ?_ (fun _ => ?_))
      | exact ih0 _ _ _
      | exact ih1 _ _ _ _
      | exact ih2 _ _ _ _ _
      | exact ih3 _ _ _ _ _
      | exact ih4 _ _ _ _ _ _
      | exact ih5 _ _ _ _
      | exact penstockref21_below.mono _ _ _ _
      | exact LeO.none _
      | refine LeO.ite ?_ ?_
      | refine LeO.bind ?_ (fun _ => ?_)
    · intro y0 y1 y2 y3
      unfold penstockref21_Stable.l0
      repeat' first
      | (with_reducible exact ih0 _ _ _)
      | (with_reducible exact ih1 _ _ _ _)
      | (with_reducible exact ih2 _ _ _ _ _)
      | (with_reducible exact ih3 _ _ _ _ _)
      | (with_reducible exact ih4 _ _ _ _ _ _)
      | (with_reducible exact ih5 _ _ _ _)
      | (with_reducible exact penstockref21_below.mono _ _ _ _)
      | (with_reducible exact LeO.refl _)
      | (with_reducible exact LeO.none _)
      | (with_reducible refine LeO.ite ?_ ?_)
      | (with_reducible refine LeO.bind ?_ (fun _ => ?_))
      | exact ih0 _ _ _
      | exact ih1 _ _ _ _
      | exact ih2 _ _ _ _ _
      | exact ih3 _ _ _ _ _
      | exact ih4 _ _ _ _ _ _
      | exact ih5 _ _ _ _
      | exact penstockref21_below.mono _ _ _ _
      | exact LeO.none _
      | refine LeO.ite ?_ ?_
      | refine LeO.bind ?_ (fun _ => ?_)
theorem penstockref21_Stable.mono : ∀ a0 a1 k, LeO (penstockref21_Stable.f k a0 a1) (penstockref21_Stable.f (k + 1) a0 a1) := by
  intro a0 a1 k
  obtain ⟨ih0, ih1, ih2, ih3, ih4, ih5⟩ := penstockref21_Stable.mono_l k
  unfold penstockref21_Stable.f
  repeat' first
      | (with_reducible exact ih0 _ _ _)
      | (with_reducible exact ih1 _ _ _ _)
      | (with_reducible exact ih2 _ _ _ _ _)
      | (with_reducible exact ih3 _ _ _ _ _)
      | (with_reducible exact ih4 _ _ _ _ _ _)
      | (with_reducible exact ih5 _ _ _ _)
      | (with_reducible exact penstockref21_below.mono _ _ _ _)
      | (with_reducible exact LeO.refl _)
      | (with_reducible exact LeO.none _)
      | (with_reducible refine LeO.ite ?_ ?_)
      | (with_reducible refine LeO.bind ?_ (fun _ => ?_))
      | exact ih0 _ _ _
      | exact ih1 _ _ _ _
      | exact ih2 _ _ _ _ _
      | exact ih3 _ _ _ _ _
      | exact ih4 _ _ _ _ _ _
      | exact ih5 _ _ _ _
      | exact penstockref21_below.mono _ _ _ _
      | exact LeO.none _
      | refine LeO.ite ?_ ?_
      | refine LeO.bind ?_ (fun _ => ?_)
def penstockref21_Stable.T5 : Bool × List (List Nat × List Nat) := (true, [([], []), ([], []), ([0, 1], [0, 1]), ([2], [2]), ([3], [3]), ([], []), ([], []), ([5, 6], [5, 6]), ([7], [7]), ([8], [8]), ([4, 9], [4, 9]), ([10, 9, 0, 1, 2, 3, 4, 5, 6, 7, 8, 9, 10], [10])])
def penstockref21_Stable.B5 : List Nat := [0, 0, 3, 7, 15, 0, 0, 96, 224, 480, 1023, 2047]
theorem penstockref21_Stable.tab5 : rtab .any (opsOf Try.f16 5) = penstockref21_Stable.T5 := by kernel_rfl
theorem penstockref21_Stable.bits5 : waitsOk penstockref21_Stable.T5.2 penstockref21_Stable.B5 = true := by kernel_rfl
def penstockref21_Stable.T15 : Bool × List (List Nat × List Nat) := (true, [([], []), ([0], [0]), ([1], [1]), ([1], [1]), ([2, 3, 1], [1, 2, 3]), ([4, 1], [1, 4]), ([5, 1], [1, 5]), ([6, 1, 1], [1, 6]), ([7], [7]), ([7], [7]), ([8, 9, 7], [7, 8, 9]), ([10, 7], [7, 10]), ([11, 7], [7, 11]), ([7], [7]), ([7], [7]), ([13, 14, 7], [7, 13, 14]), ([15, 7], [7, 15]), ([16, 7], [7, 16]), ([12, 17, 7], [7, 12, 17]), ([7, 18, 1], [1, 7, 18]), ([1, 19], [1, 19]), ([20, 7, 0, 1, 2, 3, 4, 5, 6, 7, 8, 9, 10, 11, 12, 13, 14, 15, 16, 17, 18, 19, 20], [0, 20])])
def penstockref21_Stable.B15 : List Nat := [0, 1, 3, 3, 15, 31, 63, 127, 255, 255, 1023, 2047, 4095, 255, 255, 24831, 57599, 123135, 262143, 524287, 1048575, 2097151]
theorem penstockref21_Stable.tab15 : rtab .any (opsOf Try.f16 15) = penstockref21_Stable.T15 := by kernel_rfl
theorem penstockref21_Stable.bits15 : waitsOk penstockref21_Stable.T15.2 penstockref21_Stable.B15 = true := by kernel_rfl
set_option maxHeartbeats 8000000 in
set_option maxRecDepth 100000 in
theorem penstockref21_Stable.calls (k : Nat) (A0 : Option Addr) (c0 : Nat) (l0 : List (S41)) (a1 : Int) (r : Int) (w : World) (hr0 : Kd.C k41 w A0 l0.length l0) (hc0 : l0.length ≤ c0) (h : penstockref21_Stable.f k l0 a1 = some r) :
    Calls Try.prog 16 #[.slice A0 l0.length c0, .int .i64 a1] w fun e w' => e = .returned (.int .i64 r) ∧ Below w.heap.size w w' := by
  have hu41 := Try.underlying41
  have HR0 := Aside0.mk hr0
  have HC0 := Aside0.mk hc0
  clear hr0 hc0
  have HB := Aside0.mk (Below.refl w.heap.size w)
  have H : (penstockref21_Stable.l0 k l0 a1 0 0) = some r := h
  clear h
  have HC3 := Aside0.mk H
  clear H
  go_enter Try.func16, Try.ntmps16
  go_upto_block 0 with (fail)
  go_cut [5] (fun v5 wc => ∃ (kq : Nat) (x5_2 : Int), v5 = .int .i64 x5_2 ∧ Aside0 (penstockref21_Stable.j1 kq l0 a1 x5_2 = some r) ∧ Aside0 (kq ≤ k) ∧ Aside0 (Below w.heap.size w wc))
  case first =>
    have H := HC3.out
    clear HC3
    have H' := Aside0.mk H
    clear H
    go_wp2
    go_loopg [5, 6] k (fun kq v5 v6 w' => ∃ (x5_1 : Int) (x6_1 : Int), v5 = .int .i64 x5_1 ∧ v6 = .int .i64 x6_1 ∧ Aside0 (penstockref21_Stable.l0 kq l0 a1 x5_1 x6_1 = some r) ∧ Aside0 (kq ≤ k) ∧ Aside0 (Below w.heap.size w w'))
    case atStart => exact ⟨(0), (0), (by first | rfl | (simp; done) | (simp [*]; done)), (by first | rfl | (simp; done) | (simp [*]; done)), H', ⟨Nat.le_refl _⟩, ⟨by repeat (first | (with_reducible first | exact HB.out | apply below_alloc | apply pw_below_drewN | apply below_drew1) | exact HB.out)⟩⟩
    case round =>
      clear H'
      try clear c1
      try clear p2
      obtain ⟨x5_1, x6_1, rfl, rfl, HA, HK1, HB⟩ := hrel
      cases gk with
      | zero => exact absurd HA.out (by simp [penstockref21_Stable.l0])
      | succ k1 =>
        have H := HA.out
        clear HA
        simp only [penstockref21_Stable.l0] at H
        by_cases c4 : x6_1 < (l0.length : Int)
        · rw [if_pos c4] at H
          have c4b0 : decide (x6_1 < (l0.length : Int)) = true := decide_eq_true c4
          clear c4
          (first | rw [c4b0] | (simp only [i64_w, i32_w]; rw [c4b0]) | skip)
          replace H := Option.bind_eq_some_iff.mp H
          obtain ⟨t159, A50, H⟩ := H
          replace H : (if t159 = true then (if 0 ≤ x6_1 then ((penstockref07_Size.f ((rd_T41 l0 x6_1).f0) ((rd_T41 l0 x6_1).f1) ((rd_T41 l0 x6_1).f2) ((rd_T41 l0 x6_1).f3) ((rd_T41 l0 x6_1).f4) ((rd_T41 l0 x6_1).f5) ((rd_T41 l0 x6_1).f6) ((rd_T41 l0 x6_1).f7) ((rd_T41 l0 x6_1).f8)).bind fun t162 => (penstockref21_Stable.l0 k1 l0 a1 (wrap64 (((rd_T41 l0 x6_1).f0) + t162)) (wrap64 (x6_1 + 1)))) else (none)) else (penstockref21_Stable.j1 k1 l0 a1 x5_1)) = some r := H
          have A5 := Aside0.mk A50
          clear A50
          by_cases c6 : t159 = true
          · subst c6
            have H1 : (if 0 ≤ x6_1 then ((penstockref07_Size.f ((rd_T41 l0 x6_1).f0) ((rd_T41 l0 x6_1).f1) ((rd_T41 l0 x6_1).f2) ((rd_T41 l0 x6_1).f3) ((rd_T41 l0 x6_1).f4) ((rd_T41 l0 x6_1).f5) ((rd_T41 l0 x6_1).f6) ((rd_T41 l0 x6_1).f7) ((rd_T41 l0 x6_1).f8)).bind fun t162 => (penstockref21_Stable.l0 k1 l0 a1 (wrap64 (((rd_T41 l0 x6_1).f0) + t162)) (wrap64 (x6_1 + 1)))) else (none)) = some r := by rw [if_pos rfl] at H; exact H
            clear H
            have H := H1
            clear H1
            by_cases c7 : 0 ≤ x6_1
            · rw [if_pos c7] at H
              have c7b0 : decide (0 ≤ x6_1) = true := decide_eq_true c7
              clear c7
              replace H := Option.bind_eq_some_iff.mp H
              obtain ⟨t162, A80, H⟩ := H
              replace H : (penstockref21_Stable.l0 k1 l0 a1 (wrap64 (((rd_T41 l0 x6_1).f0) + t162)) (wrap64 (x6_1 + 1))) = some r := H
              have A8 := Aside0.mk A80
              clear A80
              have H' := Aside0.mk H
              clear H
              try go_wp2_with (first | (go_at_call 24; (with_reducible refine (penstockref21_below.calls k1 _ _ l0 a1 x6_1 true _ ?side1 ?side2 A5.out).mono ?_); (case side1 => repeat (first | exact (Kd.C_below HR0.out HB.out) | (with_reducible refine Kd.C_alloc ?_ _) | (with_reducible refine Kd.C_drewN ?_ _) | (with_reducible refine Kd.C_drew ?_))); (case side2 => exact HC0.out); rintro e w9 ⟨rfl, hb⟩; have n0_ := Aside0.mk (below_step (by repeat (first | (with_reducible first | exact HB.out | apply below_alloc | apply pw_below_drewN | apply below_drew1) | exact HB.out)) hb); clear HB; have HB := n0_; clear n0_; (try clear hb); (try clear hb2); (try clear hk); (try clear hi)))
              have n0_ := Aside0.mk (below_drew1 HB.out)
              clear HB
              have HB := n0_
              clear n0_
              have p160 : 0 ≤ (x6_1 : Int) := of_decide_eq_true (by first | (with_reducible assumption) | assumption)
              have q160 : x6_1 < (l0.length : Int) := of_decide_eq_true (by first | (with_reducible assumption) | assumption)
              obtain ⟨ad160, A160_8, c160_8, e160, hx160_0, hx160_1, hx160_2, hx160_3, hx160_4, hx160_5, hx160_6, hx160_7, hx160_8, hl160_8, hi160_8⟩ := at_T41 HR0.out x6_1 p160 q160
              have hw160_8 := hx160_8
              have hw160_7 := hx160_7
              have hw160_6 := hx160_6
              have hw160_5 := hx160_5
              have hw160_4 := hx160_4
              have hw160_3 := hx160_3
              have hw160_2 := hx160_2
              have hw160_1 := hx160_1
              have hw160_0 := hx160_0
              cases e160
              replace hx160_0 := (HB.out.cell (World.block_lt_of_cell? w _ hx160_0)).trans hx160_0
              replace hx160_1 := (HB.out.cell (World.block_lt_of_cell? w _ hx160_1)).trans hx160_1
              replace hx160_2 := (HB.out.cell (World.block_lt_of_cell? w _ hx160_2)).trans hx160_2
              replace hx160_3 := (HB.out.cell (World.block_lt_of_cell? w _ hx160_3)).trans hx160_3
              replace hx160_4 := (HB.out.cell (World.block_lt_of_cell? w _ hx160_4)).trans hx160_4
              replace hx160_5 := (HB.out.cell (World.block_lt_of_cell? w _ hx160_5)).trans hx160_5
              replace hx160_6 := (HB.out.cell (World.block_lt_of_cell? w _ hx160_6)).trans hx160_6
              replace hx160_7 := (HB.out.cell (World.block_lt_of_cell? w _ hx160_7)).trans hx160_7
              replace hx160_8 := (HB.out.cell (World.block_lt_of_cell? w _ hx160_8)).trans hx160_8
              have HR160_8 := Aside0.mk hi160_8
              have HC160_8 := Aside0.mk hl160_8
              clear hi160_8 hl160_8
              replace p160 := eq_true p160
              replace q160 := eq_true q160
              have p161 : 0 ≤ (x6_1 : Int) := of_decide_eq_true (by first | (with_reducible assumption) | assumption)
              have q161 : x6_1 < (l0.length : Int) := of_decide_eq_true (by first | (with_reducible assumption) | assumption)
              obtain ⟨ad161, A161_8, c161_8, e161, hx161_0, hx161_1, hx161_2, hx161_3, hx161_4, hx161_5, hx161_6, hx161_7, hx161_8, hl161_8, hi161_8⟩ := at_T41 HR0.out x6_1 p161 q161
              have hw161_8 := hx161_8
              have hw161_7 := hx161_7
              have hw161_6 := hx161_6
              have hw161_5 := hx161_5
              have hw161_4 := hx161_4
              have hw161_3 := hx161_3
              have hw161_2 := hx161_2
              have hw161_1 := hx161_1
              have hw161_0 := hx161_0
              obtain rfl : ad160 = ad161 := (by injection e161)
              replace hx161_0 := (HB.out.cell (World.block_lt_of_cell? w _ hx161_0)).trans hx161_0
              replace hx161_1 := (HB.out.cell (World.block_lt_of_cell? w _ hx161_1)).trans hx161_1
              replace hx161_2 := (HB.out.cell (World.block_lt_of_cell? w _ hx161_2)).trans hx161_2
              replace hx161_3 := (HB.out.cell (World.block_lt_of_cell? w _ hx161_3)).trans hx161_3
              replace hx161_4 := (HB.out.cell (World.block_lt_of_cell? w _ hx161_4)).trans hx161_4
              replace hx161_5 := (HB.out.cell (World.block_lt_of_cell? w _ hx161_5)).trans hx161_5
              replace hx161_6 := (HB.out.cell (World.block_lt_of_cell? w _ hx161_6)).trans hx161_6
              replace hx161_7 := (HB.out.cell (World.block_lt_of_cell? w _ hx161_7)).trans hx161_7
              replace hx161_8 := (HB.out.cell (World.block_lt_of_cell? w _ hx161_8)).trans hx161_8
              have HR161_8 := Aside0.mk hi161_8
              have HC161_8 := Aside0.mk hl161_8
              clear hi161_8 hl161_8
              replace p161 := eq_true p161
              replace q161 := eq_true q161
              have ea_ := Option.some.inj (hx160_8.symm.trans hx161_8)
              injection ea_ with ea_ en_ ec_
              subst ea_
              subst ec_
              clear en_
              refine start_ (n := 12) (S := fun w' => w'.cell? (ad160.add ((x6_1).toNat * 9)) = some (.int .i64 ((rd_T41 l0 x6_1).f0)) ∧ w'.cell? ⟨(ad160.add ((x6_1).toNat * 9)).block, (ad160.add ((x6_1).toNat * 9)).off + 1, none⟩ = some (.int .i64 ((rd_T41 l0 x6_1).f1)) ∧ w'.cell? ⟨(ad160.add ((x6_1).toNat * 9)).block, (ad160.add ((x6_1).toNat * 9)).off + 2, none⟩ = some (.int .u64 ((rd_T41 l0 x6_1).f2)) ∧ w'.cell? ⟨(ad160.add ((x6_1).toNat * 9)).block, (ad160.add ((x6_1).toNat * 9)).off + 3, none⟩ = some (.int .i64 ((rd_T41 l0 x6_1).f3)) ∧ w'.cell? ⟨(ad160.add ((x6_1).toNat * 9)).block, (ad160.add ((x6_1).toNat * 9)).off + 4, none⟩ = some (.int .i64 ((rd_T41 l0 x6_1).f4)) ∧ w'.cell? ⟨(ad160.add ((x6_1).toNat * 9)).block, (ad160.add ((x6_1).toNat * 9)).off + 5, none⟩ = some (.bool ((rd_T41 l0 x6_1).f5)) ∧ w'.cell? ⟨(ad160.add ((x6_1).toNat * 9)).block, (ad160.add ((x6_1).toNat * 9)).off + 6, none⟩ = some (.bool ((rd_T41 l0 x6_1).f6)) ∧ w'.cell? ⟨(ad160.add ((x6_1).toNat * 9)).block, (ad160.add ((x6_1).toNat * 9)).off + 7, none⟩ = some (.bool ((rd_T41 l0 x6_1).f7)) ∧ w'.cell? ⟨(ad160.add ((x6_1).toNat * 9)).block, (ad160.add ((x6_1).toNat * 9)).off + 8, none⟩ = some (.slice A160_8 ((rd_T41 l0 x6_1).f8).length c160_8) ∧ w'.cell? (ad160.add ((x6_1).toNat * 9)) = some (.int .i64 ((rd_T41 l0 x6_1).f0)) ∧ w'.cell? ⟨(ad160.add ((x6_1).toNat * 9)).block, (ad160.add ((x6_1).toNat * 9)).off + 1, none⟩ = some (.int .i64 ((rd_T41 l0 x6_1).f1)) ∧ w'.cell? ⟨(ad160.add ((x6_1).toNat * 9)).block, (ad160.add ((x6_1).toNat * 9)).off + 2, none⟩ = some (.int .u64 ((rd_T41 l0 x6_1).f2)) ∧ w'.cell? ⟨(ad160.add ((x6_1).toNat * 9)).block, (ad160.add ((x6_1).toNat * 9)).off + 3, none⟩ = some (.int .i64 ((rd_T41 l0 x6_1).f3)) ∧ w'.cell? ⟨(ad160.add ((x6_1).toNat * 9)).block, (ad160.add ((x6_1).toNat * 9)).off + 4, none⟩ = some (.int .i64 ((rd_T41 l0 x6_1).f4)) ∧ w'.cell? ⟨(ad160.add ((x6_1).toNat * 9)).block, (ad160.add ((x6_1).toNat * 9)).off + 5, none⟩ = some (.bool ((rd_T41 l0 x6_1).f5)) ∧ w'.cell? ⟨(ad160.add ((x6_1).toNat * 9)).block, (ad160.add ((x6_1).toNat * 9)).off + 6, none⟩ = some (.bool ((rd_T41 l0 x6_1).f6)) ∧ w'.cell? ⟨(ad160.add ((x6_1).toNat * 9)).block, (ad160.add ((x6_1).toNat * 9)).off + 7, none⟩ = some (.bool ((rd_T41 l0 x6_1).f7)) ∧ w'.cell? ⟨(ad160.add ((x6_1).toNat * 9)).block, (ad160.add ((x6_1).toNat * 9)).off + 8, none⟩ = some (.slice A160_8 ((rd_T41 l0 x6_1).f8).length c160_8)) (ds := []) #[false, false, false, false, false, false, false, false, false, false, false, false] (by kernel_rfl) rfl rfl ⟨((HB.out.cell (World.block_lt_of_cell? w _ hw160_0)).trans hw160_0), ((HB.out.cell (World.block_lt_of_cell? w _ hw160_1)).trans hw160_1), ((HB.out.cell (World.block_lt_of_cell? w _ hw160_2)).trans hw160_2), ((HB.out.cell (World.block_lt_of_cell? w _ hw160_3)).trans hw160_3), ((HB.out.cell (World.block_lt_of_cell? w _ hw160_4)).trans hw160_4), ((HB.out.cell (World.block_lt_of_cell? w _ hw160_5)).trans hw160_5), ((HB.out.cell (World.block_lt_of_cell? w _ hw160_6)).trans hw160_6), ((HB.out.cell (World.block_lt_of_cell? w _ hw160_7)).trans hw160_7), ((HB.out.cell (World.block_lt_of_cell? w _ hw160_8)).trans hw160_8), ((HB.out.cell (World.block_lt_of_cell? w _ hw161_0)).trans hw161_0), ((HB.out.cell (World.block_lt_of_cell? w _ hw161_1)).trans hw161_1), ((HB.out.cell (World.block_lt_of_cell? w _ hw161_2)).trans hw161_2), ((HB.out.cell (World.block_lt_of_cell? w _ hw161_3)).trans hw161_3), ((HB.out.cell (World.block_lt_of_cell? w _ hw161_4)).trans hw161_4), ((HB.out.cell (World.block_lt_of_cell? w _ hw161_5)).trans hw161_5), ((HB.out.cell (World.block_lt_of_cell? w _ hw161_6)).trans hw161_6), ((HB.out.cell (World.block_lt_of_cell? w _ hw161_7)).trans hw161_7), ((HB.out.cell (World.block_lt_of_cell? w _ hw161_8)).trans hw161_8)⟩ (fun hHeld => ?_); refine with_tabW penstockref21_Stable.tab5 penstockref21_Stable.bits5 (fun HT_ HW_ => ?_)
              generalize w9.drew = w10 at HB HR160_8 HR161_8 hx160_0 hx160_1 hx160_2 hx160_3 hx160_4 hx160_5 hx160_6 hx160_7 hx160_8 hx161_0 hx161_1 hx161_2 hx161_3 hx161_4 hx161_5 hx161_6 hx161_7 hx161_8 hHeld ⊢
              refine pure_ (i := 0) (N := some 23) (v := ?_) (a' := ?_) #[true, false, false, false, false, false, false, false, false, false, false, false] rfl rfl (any_of HT_.out (by kernel_rfl)) (fun _ _ _ h => h) (Or.inl ⟨by rfl, ?_⟩) ?_ ?_
              rotate_left
              · intro w'
                go_simp
                with_reducible rfl
              rotate_left
              · simp only [Act.put, List.setIfInBounds_toArray, List.set_cons_zero, List.set_cons_succ, i64_w, i32_w]
                rfl
              refine pure_ (i := 1) (N := some 24) (v := ?_) (a' := ?_) #[true, true, false, false, false, false, false, false, false, false, false, false] rfl rfl (any_of HT_.out (by kernel_rfl)) (fun _ _ _ h => h) (Or.inl ⟨by rfl, ?_⟩) ?_ ?_
              rotate_left
              · intro w'
                go_simp
                with_reducible rfl
              rotate_left
              · simp only [Act.put, List.setIfInBounds_toArray, List.set_cons_zero, List.set_cons_succ, i64_w, i32_w]
                rfl
              refine pure_ (i := 2) (N := some 25) (v := ?_) (a' := ?_) #[true, true, true, false, false, false, false, false, false, false, false, false] rfl rfl (any_of HT_.out (by kernel_rfl)) (fun _ _ _ h => h) (Or.inl ⟨by rfl, ?_⟩) ?_ ?_
              rotate_left
              · intro w'
                go_simp
                with_reducible rfl
              rotate_left
              · simp only [Act.put, List.setIfInBounds_toArray, List.set_cons_zero, List.set_cons_succ, i64_w, i32_w]
                rfl
              refine pure_ (i := 3) (N := some 26) (v := ?_) (a' := ?_) #[true, true, true, true, false, false, false, false, false, false, false, false] rfl rfl (any_of HT_.out (by kernel_rfl)) (fun _ _ _ h => h) (Or.inl ⟨by rfl, ?_⟩) ?_ ?_
              rotate_left
              · intro w'
                go_simp
                with_reducible rfl
              rotate_left
              · simp only [Act.put, List.setIfInBounds_toArray, List.set_cons_zero, List.set_cons_succ, i64_w, i32_w]
                rfl
              refine pure_ (i := 5) (N := some 28) (v := ?_) (a' := ?_) #[true, true, true, true, false, true, false, false, false, false, false, false] rfl rfl (any_of HT_.out (by kernel_rfl)) (fun _ _ _ h => h) (Or.inl ⟨by rfl, ?_⟩) ?_ ?_
              rotate_left
              · intro w'
                go_simp
                with_reducible rfl
              rotate_left
              · simp only [Act.put, List.setIfInBounds_toArray, List.set_cons_zero, List.set_cons_succ, i64_w, i32_w]
                rfl
              refine pure_ (i := 6) (N := some 29) (v := ?_) (a' := ?_) #[true, true, true, true, false, true, true, false, false, false, false, false] rfl rfl (any_of HT_.out (by kernel_rfl)) (fun _ _ _ h => h) (Or.inl ⟨by rfl, ?_⟩) ?_ ?_
              rotate_left
              · intro w'
                go_simp
                with_reducible rfl
              rotate_left
              · simp only [Act.put, List.setIfInBounds_toArray, List.set_cons_zero, List.set_cons_succ, i64_w, i32_w]
                rfl
              refine pure_ (i := 7) (N := some 30) (v := ?_) (a' := ?_) #[true, true, true, true, false, true, true, true, false, false, false, false] rfl rfl (any_of HT_.out (by kernel_rfl)) (fun _ _ _ h => h) (Or.inl ⟨by rfl, ?_⟩) ?_ ?_
              rotate_left
              · intro w'
                go_simp
                with_reducible rfl
              rotate_left
              · simp only [Act.put, List.setIfInBounds_toArray, List.set_cons_zero, List.set_cons_succ, i64_w, i32_w]
                rfl
              refine take_ (i := 4) (N := some 27) (v := ?_) (a' := ?_) #[true, true, true, true, true, true, true, true, false, false, false, false] rfl rfl (take_ofW HT_.out HW_.out (by kernel_rfl)) (fun _ _ _ h => h) (Or.inl ⟨by rfl, ?_⟩) hHeld ?_ ?_
              rotate_left
              · rintro w' ⟨s0, s1, s2, s3, s4, s5, s6, s7, s8, s9, s10, s11, s12, s13, s14, s15, s16, s17⟩
                go_simp
                with_reducible rfl
              rotate_left
              · simp only [Act.put, List.setIfInBounds_toArray, List.set_cons_zero, List.set_cons_succ, i64_w, i32_w]
                rfl
              refine take_ (i := 8) (N := some 31) (v := ?_) (a' := ?_) #[true, true, true, true, true, true, true, true, true, false, false, false] rfl rfl (take_ofW HT_.out HW_.out (by kernel_rfl)) (fun _ _ _ h => h) (Or.inl ⟨by rfl, ?_⟩) hHeld ?_ ?_
              rotate_left
              · rintro w' ⟨s0, s1, s2, s3, s4, s5, s6, s7, s8, s9, s10, s11, s12, s13, s14, s15, s16, s17⟩
                go_simp
                with_reducible rfl
              rotate_left
              · simp only [Act.put, List.setIfInBounds_toArray, List.set_cons_zero, List.set_cons_succ, i64_w, i32_w]
                rfl
              refine one_ (i := 9) (N := some 32) #[true, true, true, true, true, true, true, true, true, true, false, false] rfl rfl (one_of HT_.out (by kernel_rfl)) (by decide) (fun K hK => ?_)
              refine goes_ Try.func21 (by kernel_rfl) rfl #[.agg #[.int .i64 ((rd_T41 l0 x6_1).f0), .int .i64 ((rd_T41 l0 x6_1).f1), .int .u64 ((rd_T41 l0 x6_1).f2), .int .i64 ((rd_T41 l0 x6_1).f3), .int .i64 ((rd_T41 l0 x6_1).f4), .bool ((rd_T41 l0 x6_1).f5), .bool ((rd_T41 l0 x6_1).f6), .bool ((rd_T41 l0 x6_1).f7), .slice A160_8 ((rd_T41 l0 x6_1).f8).length c160_8]] (by rfl) rfl rfl (by (try simp only [List.map_toArray, List.map_cons, List.map_nil]); first | done | rfl | (simp only [List.length_drop, List.length_take]; rfl)) ?_
              with_reducible refine (penstockref07_Size.calls ((rd_T41 l0 x6_1).f0) ((rd_T41 l0 x6_1).f1) ((rd_T41 l0 x6_1).f2) ((rd_T41 l0 x6_1).f3) ((rd_T41 l0 x6_1).f4) ((rd_T41 l0 x6_1).f5) ((rd_T41 l0 x6_1).f6) ((rd_T41 l0 x6_1).f7) _ _ ((rd_T41 l0 x6_1).f8) t162 _ ?side1 ?side2 A8.out).mono ?_
              (case side1 => repeat (first | exact (Kd.C_below HR161_8.out HB.out) | (with_reducible refine Kd.C_alloc ?_ _) | (with_reducible refine Kd.C_drewN ?_ _) | (with_reducible refine Kd.C_drew ?_)))
              (case side2 => exact HC161_8.out)
              rintro e w11 ⟨rfl, hb⟩
              refine ⟨_, rfl, ?_⟩
              have n0_ := Aside0.mk (below_step (by repeat (first | (with_reducible first | exact HB.out | apply below_alloc | apply pw_below_drewN | apply below_drew1) | exact HB.out)) hb)
              clear HB
              have HB := n0_
              clear n0_
              (try clear hb)
              (try clear hb2)
              (try clear hk)
              (try clear hi)
              refine hK.out _ _ ⟨((HB.out.cell (World.block_lt_of_cell? w _ hw160_0)).trans hw160_0), ((HB.out.cell (World.block_lt_of_cell? w _ hw160_1)).trans hw160_1), ((HB.out.cell (World.block_lt_of_cell? w _ hw160_2)).trans hw160_2), ((HB.out.cell (World.block_lt_of_cell? w _ hw160_3)).trans hw160_3), ((HB.out.cell (World.block_lt_of_cell? w _ hw160_4)).trans hw160_4), ((HB.out.cell (World.block_lt_of_cell? w _ hw160_5)).trans hw160_5), ((HB.out.cell (World.block_lt_of_cell? w _ hw160_6)).trans hw160_6), ((HB.out.cell (World.block_lt_of_cell? w _ hw160_7)).trans hw160_7), ((HB.out.cell (World.block_lt_of_cell? w _ hw160_8)).trans hw160_8), ((HB.out.cell (World.block_lt_of_cell? w _ hw161_0)).trans hw161_0), ((HB.out.cell (World.block_lt_of_cell? w _ hw161_1)).trans hw161_1), ((HB.out.cell (World.block_lt_of_cell? w _ hw161_2)).trans hw161_2), ((HB.out.cell (World.block_lt_of_cell? w _ hw161_3)).trans hw161_3), ((HB.out.cell (World.block_lt_of_cell? w _ hw161_4)).trans hw161_4), ((HB.out.cell (World.block_lt_of_cell? w _ hw161_5)).trans hw161_5), ((HB.out.cell (World.block_lt_of_cell? w _ hw161_6)).trans hw161_6), ((HB.out.cell (World.block_lt_of_cell? w _ hw161_7)).trans hw161_7), ((HB.out.cell (World.block_lt_of_cell? w _ hw161_8)).trans hw161_8)⟩ (fun hHeld => ?_)
              clear hK K
              refine norm_ (a' := ?_) ?_ ?_
              rotate_left
              · show Act.put _ (some 32) _ = _
                simp only [Act.put, List.setIfInBounds_toArray, List.set_cons_zero, List.set_cons_succ, i64_w, i32_w]
                rfl
              refine pure_ (i := 10) (N := some 33) (v := ?_) (a' := ?_) #[true, true, true, true, true, true, true, true, true, true, true, false] rfl rfl (any_of HT_.out (by kernel_rfl)) (fun _ _ _ h => h) (Or.inl ⟨by rfl, ?_⟩) ?_ ?_
              rotate_left
              · intro w'
                go_simp
                with_reducible rfl
              rotate_left
              · simp only [Act.put, List.setIfInBounds_toArray, List.set_cons_zero, List.set_cons_succ, i64_w, i32_w]
                rfl
              refine pure_ (i := 11) (N := some 5) (v := ?_) (a' := ?_) #[true, true, true, true, true, true, true, true, true, true, true, true] rfl rfl (any_of HT_.out (by kernel_rfl)) (fun _ _ _ h => h) (Or.inl ⟨by rfl, ?_⟩) ?_ ?_
              rotate_left
              · intro w'
                go_simp
                with_reducible rfl
              rotate_left
              · simp only [Act.put, List.setIfInBounds_toArray, List.set_cons_zero, List.set_cons_succ, i64_w, i32_w]
                rfl
              refine done_ (done_of HT_.out (by kernel_rfl)) ?_
              try go_wp2
              go_roundg k1
              case measure => have := HK1.out; omega
              case rel => exact ⟨(wrap64 (((rd_T41 l0 x6_1).f0) + t162)), (wrap64 (x6_1 + 1)), (by first | rfl | (simp; done) | (simp [*]; done)), (by first | rfl | (simp; done) | (simp [*]; done)), H', ⟨by have := HK1.out; omega⟩, ⟨by repeat (first | (with_reducible first | exact HB.out | apply below_alloc | apply pw_below_drewN | apply below_drew1) | exact HB.out)⟩⟩
            · rw [if_neg c7] at H
              exact absurd H (by simp)
          · replace c6 := Bool.eq_false_iff.mpr c6
            subst c6
            have H1 : (penstockref21_Stable.j1 k1 l0 a1 x5_1) = some r := by rw [if_neg (show ¬ (false = true) by decide)] at H; exact H
            clear H
            have H := H1
            clear H1
            have H' := Aside0.mk H
            clear H
            go_wp2_with (first | (go_at_call 24; (with_reducible refine (penstockref21_below.calls k1 _ _ l0 a1 x6_1 false _ ?side1 ?side2 A5.out).mono ?_); (case side1 => repeat (first | exact (Kd.C_below HR0.out HB.out) | (with_reducible refine Kd.C_alloc ?_ _) | (with_reducible refine Kd.C_drewN ?_ _) | (with_reducible refine Kd.C_drew ?_))); (case side2 => exact HC0.out); rintro e w12 ⟨rfl, hb⟩; have n0_ := Aside0.mk (below_step (by repeat (first | (with_reducible first | exact HB.out | apply below_alloc | apply pw_below_drewN | apply below_drew1) | exact HB.out)) hb); clear HB; have HB := n0_; clear n0_; (try clear hb); (try clear hb2); (try clear hk); (try clear hi)))
            go_meet
            case rel => exact ⟨_, (x5_1), (by first | rfl | (simp; done) | (simp [*]; done)), H', ⟨by have := HK1.out; first | omega | exact Nat.le_refl _⟩, ⟨by repeat (first | (with_reducible first | exact HB.out | apply below_alloc | apply pw_below_drewN | apply below_drew1) | exact HB.out)⟩⟩
        · rw [if_neg c4] at H
          have c4b0 : decide (x6_1 < (l0.length : Int)) = false := decide_eq_false c4
          clear c4
          (first | rw [c4b0] | (simp only [i64_w, i32_w]; rw [c4b0]) | skip)
          have H' := Aside0.mk H
          clear H
          go_wp2
          go_meet
          case rel => exact ⟨_, (x5_1), (by first | rfl | (simp; done) | (simp [*]; done)), H', ⟨by have := HK1.out; first | omega | exact Nat.le_refl _⟩, ⟨by repeat (first | (with_reducible first | exact HB.out | apply below_alloc | apply pw_below_drewN | apply below_drew1) | exact HB.out)⟩⟩
  case rest =>
    clear HC3
    try clear c1
    try clear p1
    try clear q1
    try clear hx1
    try clear c2
    try clear p2
    try clear c4
    try clear c4b0
    try clear c6
    try clear p6
    try clear c7
    try clear c7b0
    try clear hx160_0
    try clear hx160_1
    try clear hx160_2
    try clear hx160_3
    try clear hx160_4
    try clear hx160_5
    try clear hx160_6
    try clear hx160_7
    try clear hx160_8
    try clear hx161_0
    try clear hx161_1
    try clear hx161_2
    try clear hx161_3
    try clear hx161_4
    try clear hx161_5
    try clear hx161_6
    try clear hx161_7
    try clear hx161_8
    try clear p160
    try clear p161
    try clear p2
    try clear q160
    try clear q161
    obtain ⟨kq, x5_2, rfl, HA, HJ2, HB⟩ := hcut
    cases kq with
    | zero => exact absurd HA.out (by simp [penstockref21_Stable.j1])
    | succ kj2 =>
      have H := HA.out
      clear HA
      simp only [penstockref21_Stable.j1] at H
      have H' := Aside0.mk H
      clear H
      go_wp2
      go_loopg [7, 8] kj2 (fun kq v7 v8 w' => ∃ (x7_2 : Int) (x8_2 : Int), v7 = .int .i64 x7_2 ∧ v8 = .int .i64 x8_2 ∧ Aside0 (penstockref21_Stable.l1 kq l0 a1 x7_2 x8_2 = some r) ∧ Aside0 (kq ≤ kj2) ∧ Aside0 (Below w.heap.size w w'))
      case atStart => exact ⟨(x5_2), (0), (by first | rfl | (simp; done) | (simp [*]; done)), (by first | rfl | (simp; done) | (simp [*]; done)), H', ⟨Nat.le_refl _⟩, ⟨by repeat (first | (with_reducible first | exact HB.out | apply below_alloc | apply pw_below_drewN | apply below_drew1) | exact HB.out)⟩⟩
      case round =>
        clear H'
        try clear c1
        try clear p1
        try clear q1
        try clear hx1
        try clear c2
        try clear p2
        try clear c4
        try clear c4b0
        try clear c6
        try clear p6
        try clear c7
        try clear c7b0
        try clear hx160_0
        try clear hx160_1
        try clear hx160_2
        try clear hx160_3
        try clear hx160_4
        try clear hx160_5
        try clear hx160_6
        try clear hx160_7
        try clear hx160_8
        try clear hx161_0
        try clear hx161_1
        try clear hx161_2
        try clear hx161_3
        try clear hx161_4
        try clear hx161_5
        try clear hx161_6
        try clear hx161_7
        try clear hx161_8
        try clear p1
        try clear p160
        try clear p161
        try clear p2
        try clear p6
        try clear q1
        try clear q160
        try clear q161
        obtain ⟨x7_2, x8_2, rfl, rfl, HA, HK2, HB⟩ := hrel
        cases gk with
        | zero => exact absurd HA.out (by simp [penstockref21_Stable.l1])
        | succ k2 =>
          have H := HA.out
          clear HA
          simp only [penstockref21_Stable.l1] at H
          have HC13 := Aside0.mk H
          clear H
          go_upto_region 8 with (fail)
          go_cut [44] (fun v44 wc => ∃ (kq : Nat) (x44_12 : Bool), v44 = .bool x44_12 ∧ Aside0 (penstockref21_Stable.j3 kq l0 a1 x7_2 x8_2 x44_12 = some r) ∧ Aside0 (kq ≤ k2) ∧ Aside0 (Below w.heap.size w wc))
          case first =>
            have H := HC13.out
            clear HC13
            by_cases c14 : x8_2 < (l0.length : Int)
            · rw [if_pos c14] at H
              have c14b0 : decide (x8_2 < (l0.length : Int)) = true := decide_eq_true c14
              clear c14
              (first | rw [c14b0] | (simp only [i64_w, i32_w]; rw [c14b0]) | skip)
              replace H := Option.bind_eq_some_iff.mp H
              obtain ⟨t163, A150, H⟩ := H
              replace H : (penstockref21_Stable.j3 k2 l0 a1 x7_2 x8_2 t163) = some r := H
              have A15 := Aside0.mk A150
              clear A150
              have H' := Aside0.mk H
              clear H
              go_wp2_with (first | (go_at_call 24; (with_reducible refine (penstockref21_below.calls k2 _ _ l0 a1 x8_2 t163 _ ?side1 ?side2 A15.out).mono ?_); (case side1 => repeat (first | exact (Kd.C_below HR0.out HB.out) | (with_reducible refine Kd.C_alloc ?_ _) | (with_reducible refine Kd.C_drewN ?_ _) | (with_reducible refine Kd.C_drew ?_))); (case side2 => exact HC0.out); rintro e w16 ⟨rfl, hb⟩; have n0_ := Aside0.mk (below_step (by repeat (first | (with_reducible first | exact HB.out | apply below_alloc | apply pw_below_drewN | apply below_drew1) | exact HB.out)) hb); clear HB; have HB := n0_; clear n0_; (try clear hb); (try clear hb2); (try clear hk); (try clear hi)))
              go_meet
              case rel => exact ⟨_, (t163), (by first | rfl | (simp; done) | (simp [*]; done)), H', ⟨by have := HJ2.out; have := HK2.out; first | omega | exact Nat.le_refl _⟩, ⟨by repeat (first | (with_reducible first | exact HB.out | apply below_alloc | apply pw_below_drewN | apply below_drew1) | exact HB.out)⟩⟩
            · rw [if_neg c14] at H
              have c14b0 : decide (x8_2 < (l0.length : Int)) = false := decide_eq_false c14
              clear c14
              (first | rw [c14b0] | (simp only [i64_w, i32_w]; rw [c14b0]) | skip)
              have H' := Aside0.mk H
              clear H
              go_wp2
              go_meet
              case rel => exact ⟨_, (false), (by first | rfl | (simp; done) | (simp [*]; done)), H', ⟨by have := HJ2.out; have := HK2.out; first | omega | exact Nat.le_refl _⟩, ⟨by repeat (first | (with_reducible first | exact HB.out | apply below_alloc | apply pw_below_drewN | apply below_drew1) | exact HB.out)⟩⟩
          case rest =>
            clear HC13
            try clear c1
            try clear p1
            try clear q1
            try clear hx1
            try clear c2
            try clear p2
            try clear c4
            try clear c4b0
            try clear c6
            try clear p6
            try clear c7
            try clear c7b0
            try clear c14
            try clear c14b0
            try clear c16
            try clear p16
            try clear q16
            try clear hx16
            try clear hx160_0
            try clear hx160_1
            try clear hx160_2
            try clear hx160_3
            try clear hx160_4
            try clear hx160_5
            try clear hx160_6
            try clear hx160_7
            try clear hx160_8
            try clear hx161_0
            try clear hx161_1
            try clear hx161_2
            try clear hx161_3
            try clear hx161_4
            try clear hx161_5
            try clear hx161_6
            try clear hx161_7
            try clear hx161_8
            try clear p1
            try clear p160
            try clear p161
            try clear p2
            try clear p6
            try clear q1
            try clear q160
            try clear q161
            obtain ⟨kq, x44_12, rfl, HA, HJ12, HB⟩ := hcut
            cases kq with
            | zero => exact absurd HA.out (by simp [penstockref21_Stable.j3])
            | succ kj12 =>
              have H := HA.out
              clear HA
              simp only [penstockref21_Stable.j3] at H
              by_cases c17 : x44_12 = true
              · subst c17
                have H1 : (if 0 ≤ x8_2 then (if x8_2 < (l0.length : Int) then (if ((rd_T41 l0 x8_2).f5 = true) then (penstockref21_Stable.j4 kj12 l0 a1 x7_2 x8_2 ((rd_T41 l0 x8_2).f6)) else (penstockref21_Stable.j4 kj12 l0 a1 x7_2 x8_2 true)) else (none)) else (none)) = some r := by rw [if_pos rfl] at H; exact H
                clear H
                have H := H1
                clear H1
                have HC18 := Aside0.mk H
                clear H
                go_upto_region 10 with (fail)
                go_cut [59] (fun v59 wc => ∃ (kq : Nat) (x59_17 : Bool), v59 = .bool x59_17 ∧ Aside0 (penstockref21_Stable.j4 kq l0 a1 x7_2 x8_2 x59_17 = some r) ∧ Aside0 (kq ≤ kj12) ∧ Aside0 (Below w.heap.size w wc))
                case first =>
                  have H := HC18.out
                  clear HC18
                  by_cases c19 : 0 ≤ x8_2
                  · rw [if_pos c19] at H
                    have c19b0 : decide (0 ≤ x8_2) = true := decide_eq_true c19
                    clear c19
                    (first | rw [c19b0] | (simp only [i64_w, i32_w]; rw [c19b0]) | skip)
                    by_cases c20 : x8_2 < (l0.length : Int)
                    · rw [if_pos c20] at H
                      have c20b0 : decide (x8_2 < (l0.length : Int)) = true := decide_eq_true c20
                      clear c20
                      obtain ⟨bq21, hbq21⟩ : ∃ b_ : Bool, b_ = ((rd_T41 l0 x8_2).f5) := ⟨_, rfl⟩
                      replace H : (if (bq21 = true) then (penstockref21_Stable.j4 kj12 l0 a1 x7_2 x8_2 ((rd_T41 l0 x8_2).f6)) else (penstockref21_Stable.j4 kj12 l0 a1 x7_2 x8_2 true)) = some r := by rw [← hbq21] at H; exact H
                      have Nbq21 := Aside0.mk hbq21
                      clear hbq21
                      by_cases c22 : (bq21 = true)
                      · subst c22
                        have H1 : (penstockref21_Stable.j4 kj12 l0 a1 x7_2 x8_2 ((rd_T41 l0 x8_2).f6)) = some r := by rw [if_pos rfl] at H; exact H
                        clear H
                        have H := H1
                        clear H1
                        have H' := Aside0.mk H
                        clear H
                        have p164 : 0 ≤ (x8_2 : Int) := of_decide_eq_true (by first | (with_reducible assumption) | assumption)
                        have q164 : x8_2 < (l0.length : Int) := of_decide_eq_true (by first | (with_reducible assumption) | assumption)
                        obtain ⟨ad164, A164_8, c164_8, e164, hx164_0, hx164_1, hx164_2, hx164_3, hx164_4, hx164_5, hx164_6, hx164_7, hx164_8, hl164_8, hi164_8⟩ := at_T41 HR0.out x8_2 p164 q164
                        (try rw [← Nbq21.out] at hx164_5)
                        (try rw [← Nbq21.out] at hx164_6)
                        (try rw [← Nbq21.out] at hx164_7)
                        cases e164
                        replace hx164_0 := (HB.out.cell (World.block_lt_of_cell? w _ hx164_0)).trans hx164_0
                        replace hx164_1 := (HB.out.cell (World.block_lt_of_cell? w _ hx164_1)).trans hx164_1
                        replace hx164_2 := (HB.out.cell (World.block_lt_of_cell? w _ hx164_2)).trans hx164_2
                        replace hx164_3 := (HB.out.cell (World.block_lt_of_cell? w _ hx164_3)).trans hx164_3
                        replace hx164_4 := (HB.out.cell (World.block_lt_of_cell? w _ hx164_4)).trans hx164_4
                        replace hx164_5 := (HB.out.cell (World.block_lt_of_cell? w _ hx164_5)).trans hx164_5
                        replace hx164_6 := (HB.out.cell (World.block_lt_of_cell? w _ hx164_6)).trans hx164_6
                        replace hx164_7 := (HB.out.cell (World.block_lt_of_cell? w _ hx164_7)).trans hx164_7
                        replace hx164_8 := (HB.out.cell (World.block_lt_of_cell? w _ hx164_8)).trans hx164_8
                        have HR164_8 := Aside0.mk hi164_8
                        have HC164_8 := Aside0.mk hl164_8
                        clear hi164_8 hl164_8
                        replace p164 := eq_true p164
                        replace q164 := eq_true q164
                        have p165 : 0 ≤ (x8_2 : Int) := of_decide_eq_true (by first | (with_reducible assumption) | assumption)
                        have q165 : x8_2 < (l0.length : Int) := of_decide_eq_true (by first | (with_reducible assumption) | assumption)
                        obtain ⟨ad165, A165_8, c165_8, e165, hx165_0, hx165_1, hx165_2, hx165_3, hx165_4, hx165_5, hx165_6, hx165_7, hx165_8, hl165_8, hi165_8⟩ := at_T41 HR0.out x8_2 p165 q165
                        (try rw [← Nbq21.out] at hx165_5)
                        (try rw [← Nbq21.out] at hx165_6)
                        (try rw [← Nbq21.out] at hx165_7)
                        obtain rfl : ad164 = ad165 := (by injection e165)
                        replace hx165_0 := (HB.out.cell (World.block_lt_of_cell? w _ hx165_0)).trans hx165_0
                        replace hx165_1 := (HB.out.cell (World.block_lt_of_cell? w _ hx165_1)).trans hx165_1
                        replace hx165_2 := (HB.out.cell (World.block_lt_of_cell? w _ hx165_2)).trans hx165_2
                        replace hx165_3 := (HB.out.cell (World.block_lt_of_cell? w _ hx165_3)).trans hx165_3
                        replace hx165_4 := (HB.out.cell (World.block_lt_of_cell? w _ hx165_4)).trans hx165_4
                        replace hx165_5 := (HB.out.cell (World.block_lt_of_cell? w _ hx165_5)).trans hx165_5
                        replace hx165_6 := (HB.out.cell (World.block_lt_of_cell? w _ hx165_6)).trans hx165_6
                        replace hx165_7 := (HB.out.cell (World.block_lt_of_cell? w _ hx165_7)).trans hx165_7
                        replace hx165_8 := (HB.out.cell (World.block_lt_of_cell? w _ hx165_8)).trans hx165_8
                        have HR165_8 := Aside0.mk hi165_8
                        have HC165_8 := Aside0.mk hl165_8
                        clear hi165_8 hl165_8
                        replace p165 := eq_true p165
                        replace q165 := eq_true q165
                        have ea_ := Option.some.inj (hx164_8.symm.trans hx165_8)
                        injection ea_ with ea_ en_ ec_
                        subst ea_
                        subst ec_
                        clear en_
                        go_wp2
                        go_meet
                        case rel => exact ⟨_, ((rd_T41 l0 x8_2).f6), (by first | rfl | (simp; done) | (simp [*]; done)), H', ⟨by have := HJ2.out; have := HK2.out; have := HJ12.out; first | omega | exact Nat.le_refl _⟩, ⟨by repeat (first | (with_reducible first | exact HB.out | apply below_alloc | apply pw_below_drewN | apply below_drew1) | exact HB.out)⟩⟩
                      · replace c22 := Bool.eq_false_iff.mpr c22
                        subst c22
                        have H1 : (penstockref21_Stable.j4 kj12 l0 a1 x7_2 x8_2 true) = some r := by rw [if_neg (show ¬ (false = true) by decide)] at H; exact H
                        clear H
                        have H := H1
                        clear H1
                        have H' := Aside0.mk H
                        clear H
                        have p164 : 0 ≤ (x8_2 : Int) := of_decide_eq_true (by first | (with_reducible assumption) | assumption)
                        have q164 : x8_2 < (l0.length : Int) := of_decide_eq_true (by first | (with_reducible assumption) | assumption)
                        obtain ⟨ad164, A164_8, c164_8, e164, hx164_0, hx164_1, hx164_2, hx164_3, hx164_4, hx164_5, hx164_6, hx164_7, hx164_8, hl164_8, hi164_8⟩ := at_T41 HR0.out x8_2 p164 q164
                        (try rw [← Nbq21.out] at hx164_5)
                        (try rw [← Nbq21.out] at hx164_6)
                        (try rw [← Nbq21.out] at hx164_7)
                        cases e164
                        replace hx164_0 := (HB.out.cell (World.block_lt_of_cell? w _ hx164_0)).trans hx164_0
                        replace hx164_1 := (HB.out.cell (World.block_lt_of_cell? w _ hx164_1)).trans hx164_1
                        replace hx164_2 := (HB.out.cell (World.block_lt_of_cell? w _ hx164_2)).trans hx164_2
                        replace hx164_3 := (HB.out.cell (World.block_lt_of_cell? w _ hx164_3)).trans hx164_3
                        replace hx164_4 := (HB.out.cell (World.block_lt_of_cell? w _ hx164_4)).trans hx164_4
                        replace hx164_5 := (HB.out.cell (World.block_lt_of_cell? w _ hx164_5)).trans hx164_5
                        replace hx164_6 := (HB.out.cell (World.block_lt_of_cell? w _ hx164_6)).trans hx164_6
                        replace hx164_7 := (HB.out.cell (World.block_lt_of_cell? w _ hx164_7)).trans hx164_7
                        replace hx164_8 := (HB.out.cell (World.block_lt_of_cell? w _ hx164_8)).trans hx164_8
                        have HR164_8 := Aside0.mk hi164_8
                        have HC164_8 := Aside0.mk hl164_8
                        clear hi164_8 hl164_8
                        replace p164 := eq_true p164
                        replace q164 := eq_true q164
                        go_wp2
                        go_meet
                        case rel => exact ⟨_, (true), (by first | rfl | (simp; done) | (simp [*]; done)), H', ⟨by have := HJ2.out; have := HK2.out; have := HJ12.out; first | omega | exact Nat.le_refl _⟩, ⟨by repeat (first | (with_reducible first | exact HB.out | apply below_alloc | apply pw_below_drewN | apply below_drew1) | exact HB.out)⟩⟩
                    · rw [if_neg c20] at H
                      exact absurd H (by simp)
                  · rw [if_neg c19] at H
                    exact absurd H (by simp)
                case rest =>
                  clear HC18
                  try clear c1
                  try clear p1
                  try clear q1
                  try clear hx1
                  try clear c2
                  try clear p2
                  try clear q2
                  try clear c4
                  try clear c4b0
                  try clear c6
                  try clear p6
                  try clear c7
                  try clear c7b0
                  try clear c14
                  try clear c14b0
                  try clear c16
                  try clear p16
                  try clear q16
                  try clear hx16
                  try clear c17
                  try clear c19
                  try clear c19b0
                  try clear c20
                  try clear c20b0
                  try clear c21
                  try clear q21
                  try clear c22
                  try clear hx160_0
                  try clear hx160_1
                  try clear hx160_2
                  try clear hx160_3
                  try clear hx160_4
                  try clear hx160_5
                  try clear hx160_6
                  try clear hx160_7
                  try clear hx160_8
                  try clear hx161_0
                  try clear hx161_1
                  try clear hx161_2
                  try clear hx161_3
                  try clear hx161_4
                  try clear hx161_5
                  try clear hx161_6
                  try clear hx161_7
                  try clear hx161_8
                  try clear hx164_0
                  try clear hx164_1
                  try clear hx164_2
                  try clear hx164_3
                  try clear hx164_4
                  try clear hx164_5
                  try clear hx164_6
                  try clear hx164_7
                  try clear hx164_8
                  try clear hx165_0
                  try clear hx165_1
                  try clear hx165_2
                  try clear hx165_3
                  try clear hx165_4
                  try clear hx165_5
                  try clear hx165_6
                  try clear hx165_7
                  try clear hx165_8
                  try clear p1
                  try clear p16
                  try clear p160
                  try clear p161
                  try clear p164
                  try clear p165
                  try clear p2
                  try clear p6
                  try clear q1
                  try clear q16
                  try clear q160
                  try clear q161
                  try clear q164
                  try clear q165
                  obtain ⟨kq, x59_17, rfl, HA, HJ17, HB⟩ := hcut
                  cases kq with
                  | zero => exact absurd HA.out (by simp [penstockref21_Stable.j4])
                  | succ kj17 =>
                    have H := HA.out
                    clear HA
                    simp only [penstockref21_Stable.j4] at H
                    by_cases c23 : x59_17 = true
                    · subst c23
                      have H1 : (penstockref21_Stable.l1 kj17 l0 a1 x7_2 (wrap64 (x8_2 + 1))) = some r := by rw [if_pos rfl] at H; exact H
                      clear H
                      have H := H1
                      clear H1
                      have H' := Aside0.mk H
                      clear H
                      go_wp2
                      go_roundg kj17
                      case measure => have := HJ2.out; have := HK2.out; have := HJ12.out; have := HJ17.out; omega
                      case rel => exact ⟨(x7_2), (wrap64 (x8_2 + 1)), (by first | rfl | (simp; done) | (simp [*]; done)), (by first | rfl | (simp; done) | (simp [*]; done)), H', ⟨by have := HJ2.out; have := HK2.out; have := HJ12.out; have := HJ17.out; omega⟩, ⟨by repeat (first | (with_reducible first | exact HB.out | apply below_alloc | apply pw_below_drewN | apply below_drew1) | exact HB.out)⟩⟩
                    · replace c23 := Bool.eq_false_iff.mpr c23
                      subst c23
                      have H1 : (penstockref21_Stable.l2 kj17 l0 a1 x7_2 x8_2 false (wrap64 (x8_2 + 1))) = some r := by rw [if_neg (show ¬ (false = true) by decide)] at H; exact H
                      clear H
                      have H := H1
                      clear H1
                      have H' := Aside0.mk H
                      clear H
                      go_wp2
                      go_loopg [9, 10] kj17 (fun kq v9 v10 w' => ∃ (x9_5 : Bool) (x10_5 : Int), v9 = .bool x9_5 ∧ v10 = .int .i64 x10_5 ∧ Aside0 (penstockref21_Stable.l2 kq l0 a1 x7_2 x8_2 x9_5 x10_5 = some r) ∧ Aside0 (kq ≤ kj17) ∧ Aside0 (Below w.heap.size w w'))
                      case atStart => exact ⟨(false), (wrap64 (x8_2 + 1)), (by first | rfl | (simp; done) | (simp [*]; done)), (by first | rfl | (simp; done) | (simp [*]; done)), H', ⟨Nat.le_refl _⟩, ⟨by repeat (first | (with_reducible first | exact HB.out | apply below_alloc | apply pw_below_drewN | apply below_drew1) | exact HB.out)⟩⟩
                      case round =>
                        clear H'
                        try clear c1
                        try clear p1
                        try clear q1
                        try clear hx1
                        try clear c2
                        try clear p2
                        try clear q2
                        try clear c4
                        try clear c4b0
                        try clear c6
                        try clear p6
                        try clear c7
                        try clear c7b0
                        try clear c14
                        try clear c14b0
                        try clear c16
                        try clear p16
                        try clear q16
                        try clear hx16
                        try clear c17
                        try clear c19
                        try clear c19b0
                        try clear c20
                        try clear c20b0
                        try clear c21
                        try clear q21
                        try clear c22
                        try clear c23
                        try clear hx160_0
                        try clear hx160_1
                        try clear hx160_2
                        try clear hx160_3
                        try clear hx160_4
                        try clear hx160_5
                        try clear hx160_6
                        try clear hx160_7
                        try clear hx160_8
                        try clear hx161_0
                        try clear hx161_1
                        try clear hx161_2
                        try clear hx161_3
                        try clear hx161_4
                        try clear hx161_5
                        try clear hx161_6
                        try clear hx161_7
                        try clear hx161_8
                        try clear hx164_0
                        try clear hx164_1
                        try clear hx164_2
                        try clear hx164_3
                        try clear hx164_4
                        try clear hx164_5
                        try clear hx164_6
                        try clear hx164_7
                        try clear hx164_8
                        try clear hx165_0
                        try clear hx165_1
                        try clear hx165_2
                        try clear hx165_3
                        try clear hx165_4
                        try clear hx165_5
                        try clear hx165_6
                        try clear hx165_7
                        try clear hx165_8
                        try clear p1
                        try clear p16
                        try clear p160
                        try clear p161
                        try clear p164
                        try clear p165
                        try clear p2
                        try clear p6
                        try clear q1
                        try clear q16
                        try clear q160
                        try clear q161
                        try clear q164
                        try clear q165
                        try clear q2
                        try clear q21
                        obtain ⟨x9_5, x10_5, rfl, rfl, HA, HK5, HB⟩ := hrel
                        cases gk with
                        | zero => exact absurd HA.out (by simp [penstockref21_Stable.l2])
                        | succ k5 =>
                          have H := HA.out
                          clear HA
                          simp only [penstockref21_Stable.l2] at H
                          by_cases c24 : x10_5 < (l0.length : Int)
                          · rw [if_pos c24] at H
                            have c24b0 : decide (x10_5 < (l0.length : Int)) = true := decide_eq_true c24
                            clear c24
                            replace H := Option.bind_eq_some_iff.mp H
                            obtain ⟨t166, A250, H⟩ := H
                            replace H : (if t166 = true then (if x9_5 = true then (penstockref21_Stable.l2 k5 l0 a1 x7_2 x8_2 true (wrap64 (x10_5 + 1))) else (if 0 ≤ x10_5 then (if (rd_T41 l0 x10_5).f6 = true then (if 0 ≤ x8_2 then (if x8_2 < (l0.length : Int) then (penstockref21_Stable.l2 k5 l0 a1 x7_2 x8_2 (((rd_T41 l0 x10_5).f2) == ((rd_T41 l0 x8_2).f2)) (wrap64 (x10_5 + 1))) else (none)) else (none)) else (penstockref21_Stable.l2 k5 l0 a1 x7_2 x8_2 false (wrap64 (x10_5 + 1)))) else (none))) else (if x9_5 = true then (penstockref21_Stable.l1 k5 l0 a1 x7_2 (wrap64 (x8_2 + 1))) else (if 0 ≤ x8_2 then (if x8_2 < (l0.length : Int) then (if ((rd_T41 l0 x8_2).f0) < x7_2 then (penstockref21_Stable.l1 k5 l0 a1 ((rd_T41 l0 x8_2).f0) (wrap64 (x8_2 + 1))) else (penstockref21_Stable.l1 k5 l0 a1 x7_2 (wrap64 (x8_2 + 1)))) else (none)) else (none)))) = some r := H
                            have A25 := Aside0.mk A250
                            clear A250
                            by_cases c26 : t166 = true
                            · subst c26
                              have H1 : (if x9_5 = true then (penstockref21_Stable.l2 k5 l0 a1 x7_2 x8_2 true (wrap64 (x10_5 + 1))) else (if 0 ≤ x10_5 then (if (rd_T41 l0 x10_5).f6 = true then (if 0 ≤ x8_2 then (if x8_2 < (l0.length : Int) then (penstockref21_Stable.l2 k5 l0 a1 x7_2 x8_2 (((rd_T41 l0 x10_5).f2) == ((rd_T41 l0 x8_2).f2)) (wrap64 (x10_5 + 1))) else (none)) else (none)) else (penstockref21_Stable.l2 k5 l0 a1 x7_2 x8_2 false (wrap64 (x10_5 + 1)))) else (none))) = some r := by rw [if_pos rfl] at H; exact H
                              clear H
                              have H := H1
                              clear H1
                              by_cases c27 : x9_5 = true
                              · subst c27
                                have H1 : (penstockref21_Stable.l2 k5 l0 a1 x7_2 x8_2 true (wrap64 (x10_5 + 1))) = some r := by rw [if_pos rfl] at H; exact H
                                clear H
                                have H := H1
                                clear H1
                                have H' := Aside0.mk H
                                clear H
                                try go_wp2_with (first | (go_at_call 24; (with_reducible refine (penstockref21_below.calls k5 _ _ l0 a1 x10_5 true _ ?side1 ?side2 A25.out).mono ?_); (case side1 => repeat (first | exact (Kd.C_below HR0.out HB.out) | (with_reducible refine Kd.C_alloc ?_ _) | (with_reducible refine Kd.C_drewN ?_ _) | (with_reducible refine Kd.C_drew ?_))); (case side2 => exact HC0.out); rintro e w28 ⟨rfl, hb⟩; have n0_ := Aside0.mk (below_step (by repeat (first | (with_reducible first | exact HB.out | apply below_alloc | apply pw_below_drewN | apply below_drew1) | exact HB.out)) hb); clear HB; have HB := n0_; clear n0_; (try clear hb); (try clear hb2); (try clear hk); (try clear hi)))
                                have n0_ := Aside0.mk (below_drew1 HB.out)
                                clear HB
                                have HB := n0_
                                clear n0_
                                refine start_ (n := 22) (S := fun w' => True) (ds := []) #[false, false, false, false, false, false, false, false, false, false, false, false, false, false, false, false, false, false, false, false, false, false] (by kernel_rfl) rfl rfl trivial (fun hHeld => ?_); refine with_tabW penstockref21_Stable.tab15 penstockref21_Stable.bits15 (fun HT_ HW_ => ?_)
                                generalize w28.drew = w29 at HB hHeld ⊢
                                refine pure_ (i := 0) (N := some 74) (v := ?_) (a' := ?_) #[true, false, false, false, false, false, false, false, false, false, false, false, false, false, false, false, false, false, false, false, false, false] rfl rfl (any_of HT_.out (by kernel_rfl)) (fun _ _ _ h => h) (Or.inl ⟨by rfl, ?_⟩) ?_ ?_
                                rotate_left
                                · intro w'
                                  go_simp
                                  with_reducible rfl
                                rotate_left
                                · simp only [Act.put, List.setIfInBounds_toArray, List.set_cons_zero, List.set_cons_succ, i64_w, i32_w]
                                  rfl
                                refine pure_ (i := 1) (N := some 75) (v := ?_) (a' := ?_) #[true, true, false, false, false, false, false, false, false, false, false, false, false, false, false, false, false, false, false, false, false, false] rfl rfl (any_of HT_.out (by kernel_rfl)) (fun _ _ _ h => h) (Or.inl ⟨by rfl, ?_⟩) ?_ ?_
                                rotate_left
                                · intro w'
                                  go_simp
                                  with_reducible rfl
                                rotate_left
                                · simp only [Act.put, List.setIfInBounds_toArray, List.set_cons_zero, List.set_cons_succ, i64_w, i32_w]
                                  rfl
                                refine pure_ (i := 2) (N := some 76) (v := undef) (a' := ?_) #[true, true, true, false, false, false, false, false, false, false, false, false, false, false, false, false, false, false, false, false, false, false] rfl rfl (any_of HT_.out (by kernel_rfl)) (fun _ _ _ h => h) (Or.inr ⟨by rfl, rfl⟩) ?_ ?_
                                rotate_left
                                · simp only [Act.put, List.setIfInBounds_toArray, List.set_cons_zero, List.set_cons_succ, i64_w, i32_w]
                                  rfl
                                refine pure_ (i := 3) (N := some 77) (v := undef) (a' := ?_) #[true, true, true, true, false, false, false, false, false, false, false, false, false, false, false, false, false, false, false, false, false, false] rfl rfl (any_of HT_.out (by kernel_rfl)) (fun _ _ _ h => h) (Or.inr ⟨by rfl, rfl⟩) ?_ ?_
                                rotate_left
                                · simp only [Act.put, List.setIfInBounds_toArray, List.set_cons_zero, List.set_cons_succ, i64_w, i32_w]
                                  rfl
                                refine pure_ (i := 4) (N := some 78) (v := undef) (a' := ?_) #[true, true, true, true, true, false, false, false, false, false, false, false, false, false, false, false, false, false, false, false, false, false] rfl rfl (any_of HT_.out (by kernel_rfl)) (fun _ _ _ h => h) (Or.inr ⟨by rfl, rfl⟩) ?_ ?_
                                rotate_left
                                · simp only [Act.put, List.setIfInBounds_toArray, List.set_cons_zero, List.set_cons_succ, i64_w, i32_w]
                                  rfl
                                refine pure_ (i := 5) (N := some 79) (v := undef) (a' := ?_) #[true, true, true, true, true, true, false, false, false, false, false, false, false, false, false, false, false, false, false, false, false, false] rfl rfl (any_of HT_.out (by kernel_rfl)) (fun _ _ _ h => h) (Or.inr ⟨by rfl, rfl⟩) ?_ ?_
                                rotate_left
                                · simp only [Act.put, List.setIfInBounds_toArray, List.set_cons_zero, List.set_cons_succ, i64_w, i32_w]
                                  rfl
                                refine pure_ (i := 6) (N := some 80) (v := undef) (a' := ?_) #[true, true, true, true, true, true, true, false, false, false, false, false, false, false, false, false, false, false, false, false, false, false] rfl rfl (any_of HT_.out (by kernel_rfl)) (fun _ _ _ h => h) (Or.inr ⟨by rfl, rfl⟩) ?_ ?_
                                rotate_left
                                · simp only [Act.put, List.setIfInBounds_toArray, List.set_cons_zero, List.set_cons_succ, i64_w, i32_w]
                                  rfl
                                refine pure_ (i := 7) (N := some 81) (v := undef) (a' := ?_) #[true, true, true, true, true, true, true, true, false, false, false, false, false, false, false, false, false, false, false, false, false, false] rfl rfl (any_of HT_.out (by kernel_rfl)) (fun _ _ _ h => h) (Or.inr ⟨by rfl, rfl⟩) ?_ ?_
                                rotate_left
                                · simp only [Act.put, List.setIfInBounds_toArray, List.set_cons_zero, List.set_cons_succ, i64_w, i32_w]
                                  rfl
                                refine pure_ (i := 8) (N := some 82) (v := undef) (a' := ?_) #[true, true, true, true, true, true, true, true, true, false, false, false, false, false, false, false, false, false, false, false, false, false] rfl rfl (any_of HT_.out (by kernel_rfl)) (fun _ _ _ h => h) (Or.inr ⟨by rfl, rfl⟩) ?_ ?_
                                rotate_left
                                · simp only [Act.put, List.setIfInBounds_toArray, List.set_cons_zero, List.set_cons_succ, i64_w, i32_w]
                                  rfl
                                refine pure_ (i := 9) (N := some 83) (v := undef) (a' := ?_) #[true, true, true, true, true, true, true, true, true, true, false, false, false, false, false, false, false, false, false, false, false, false] rfl rfl (any_of HT_.out (by kernel_rfl)) (fun _ _ _ h => h) (Or.inr ⟨by rfl, rfl⟩) ?_ ?_
                                rotate_left
                                · simp only [Act.put, List.setIfInBounds_toArray, List.set_cons_zero, List.set_cons_succ, i64_w, i32_w]
                                  rfl
                                refine pure_ (i := 10) (N := some 84) (v := undef) (a' := ?_) #[true, true, true, true, true, true, true, true, true, true, true, false, false, false, false, false, false, false, false, false, false, false] rfl rfl (any_of HT_.out (by kernel_rfl)) (fun _ _ _ h => h) (Or.inr ⟨by rfl, rfl⟩) ?_ ?_
                                rotate_left
                                · simp only [Act.put, List.setIfInBounds_toArray, List.set_cons_zero, List.set_cons_succ, i64_w, i32_w]
                                  rfl
                                refine pure_ (i := 11) (N := some 85) (v := undef) (a' := ?_) #[true, true, true, true, true, true, true, true, true, true, true, true, false, false, false, false, false, false, false, false, false, false] rfl rfl (any_of HT_.out (by kernel_rfl)) (fun _ _ _ h => h) (Or.inr ⟨by rfl, rfl⟩) ?_ ?_
                                rotate_left
                                · simp only [Act.put, List.setIfInBounds_toArray, List.set_cons_zero, List.set_cons_succ, i64_w, i32_w]
                                  rfl
                                refine pure_ (i := 12) (N := some 86) (v := undef) (a' := ?_) #[true, true, true, true, true, true, true, true, true, true, true, true, true, false, false, false, false, false, false, false, false, false] rfl rfl (any_of HT_.out (by kernel_rfl)) (fun _ _ _ h => h) (Or.inr ⟨by rfl, rfl⟩) ?_ ?_
                                rotate_left
                                · simp only [Act.put, List.setIfInBounds_toArray, List.set_cons_zero, List.set_cons_succ, i64_w, i32_w]
                                  rfl
                                refine pure_ (i := 13) (N := some 87) (v := undef) (a' := ?_) #[true, true, true, true, true, true, true, true, true, true, true, true, true, true, false, false, false, false, false, false, false, false] rfl rfl (any_of HT_.out (by kernel_rfl)) (fun _ _ _ h => h) (Or.inr ⟨by rfl, rfl⟩) ?_ ?_
                                rotate_left
                                · simp only [Act.put, List.setIfInBounds_toArray, List.set_cons_zero, List.set_cons_succ, i64_w, i32_w]
                                  rfl
                                refine pure_ (i := 14) (N := some 88) (v := undef) (a' := ?_) #[true, true, true, true, true, true, true, true, true, true, true, true, true, true, true, false, false, false, false, false, false, false] rfl rfl (any_of HT_.out (by kernel_rfl)) (fun _ _ _ h => h) (Or.inr ⟨by rfl, rfl⟩) ?_ ?_
                                rotate_left
                                · simp only [Act.put, List.setIfInBounds_toArray, List.set_cons_zero, List.set_cons_succ, i64_w, i32_w]
                                  rfl
                                refine pure_ (i := 15) (N := some 89) (v := undef) (a' := ?_) #[true, true, true, true, true, true, true, true, true, true, true, true, true, true, true, true, false, false, false, false, false, false] rfl rfl (any_of HT_.out (by kernel_rfl)) (fun _ _ _ h => h) (Or.inr ⟨by rfl, rfl⟩) ?_ ?_
                                rotate_left
                                · simp only [Act.put, List.setIfInBounds_toArray, List.set_cons_zero, List.set_cons_succ, i64_w, i32_w]
                                  rfl
                                refine pure_ (i := 16) (N := some 90) (v := undef) (a' := ?_) #[true, true, true, true, true, true, true, true, true, true, true, true, true, true, true, true, true, false, false, false, false, false] rfl rfl (any_of HT_.out (by kernel_rfl)) (fun _ _ _ h => h) (Or.inr ⟨by rfl, rfl⟩) ?_ ?_
                                rotate_left
                                · simp only [Act.put, List.setIfInBounds_toArray, List.set_cons_zero, List.set_cons_succ, i64_w, i32_w]
                                  rfl
                                refine pure_ (i := 17) (N := some 91) (v := undef) (a' := ?_) #[true, true, true, true, true, true, true, true, true, true, true, true, true, true, true, true, true, true, false, false, false, false] rfl rfl (any_of HT_.out (by kernel_rfl)) (fun _ _ _ h => h) (Or.inr ⟨by rfl, rfl⟩) ?_ ?_
                                rotate_left
                                · simp only [Act.put, List.setIfInBounds_toArray, List.set_cons_zero, List.set_cons_succ, i64_w, i32_w]
                                  rfl
                                refine pure_ (i := 18) (N := some 92) (v := undef) (a' := ?_) #[true, true, true, true, true, true, true, true, true, true, true, true, true, true, true, true, true, true, true, false, false, false] rfl rfl (any_of HT_.out (by kernel_rfl)) (fun _ _ _ h => h) (Or.inr ⟨by rfl, rfl⟩) ?_ ?_
                                rotate_left
                                · simp only [Act.put, List.setIfInBounds_toArray, List.set_cons_zero, List.set_cons_succ, i64_w, i32_w]
                                  rfl
                                refine pure_ (i := 19) (N := some 93) (v := undef) (a' := ?_) #[true, true, true, true, true, true, true, true, true, true, true, true, true, true, true, true, true, true, true, true, false, false] rfl rfl (any_of HT_.out (by kernel_rfl)) (fun _ _ _ h => h) (Or.inr ⟨by rfl, rfl⟩) ?_ ?_
                                rotate_left
                                · simp only [Act.put, List.setIfInBounds_toArray, List.set_cons_zero, List.set_cons_succ, i64_w, i32_w]
                                  rfl
                                refine pure_ (i := 20) (N := some 94) (v := ?_) (a' := ?_) #[true, true, true, true, true, true, true, true, true, true, true, true, true, true, true, true, true, true, true, true, true, false] rfl rfl (any_of HT_.out (by kernel_rfl)) (fun _ _ _ h => h) (Or.inl ⟨by rfl, ?_⟩) ?_ ?_
                                rotate_left
                                · intro w'
                                  go_simp
                                  with_reducible rfl
                                rotate_left
                                · simp only [Act.put, List.setIfInBounds_toArray, List.set_cons_zero, List.set_cons_succ, i64_w, i32_w]
                                  rfl
                                refine pure_ (i := 21) (N := some 9) (v := ?_) (a' := ?_) #[true, true, true, true, true, true, true, true, true, true, true, true, true, true, true, true, true, true, true, true, true, true] rfl rfl (any_of HT_.out (by kernel_rfl)) (fun _ _ _ h => h) (Or.inl ⟨by rfl, ?_⟩) ?_ ?_
                                rotate_left
                                · intro w'
                                  go_simp
                                  with_reducible rfl
                                rotate_left
                                · simp only [Act.put, List.setIfInBounds_toArray, List.set_cons_zero, List.set_cons_succ, i64_w, i32_w]
                                  rfl
                                refine done_ (done_of HT_.out (by kernel_rfl)) ?_
                                try go_wp2
                                go_roundg k5
                                case measure => have := HJ2.out; have := HK2.out; have := HJ12.out; have := HJ17.out; have := HK5.out; omega
                                case rel => exact ⟨(true), (wrap64 (x10_5 + 1)), (by first | rfl | (simp; done) | (simp [*]; done)), (by first | rfl | (simp; done) | (simp [*]; done)), H', ⟨by have := HJ2.out; have := HK2.out; have := HJ12.out; have := HJ17.out; have := HK5.out; omega⟩, ⟨by repeat (first | (with_reducible first | exact HB.out | apply below_alloc | apply pw_below_drewN | apply below_drew1) | exact HB.out)⟩⟩
                              · replace c27 := Bool.eq_false_iff.mpr c27
                                subst c27
                                have H1 : (if 0 ≤ x10_5 then (if (rd_T41 l0 x10_5).f6 = true then (if 0 ≤ x8_2 then (if x8_2 < (l0.length : Int) then (penstockref21_Stable.l2 k5 l0 a1 x7_2 x8_2 (((rd_T41 l0 x10_5).f2) == ((rd_T41 l0 x8_2).f2)) (wrap64 (x10_5 + 1))) else (none)) else (none)) else (penstockref21_Stable.l2 k5 l0 a1 x7_2 x8_2 false (wrap64 (x10_5 + 1)))) else (none)) = some r := by rw [if_neg (show ¬ (false = true) by decide)] at H; exact H
                                clear H
                                have H := H1
                                clear H1
                                by_cases c30 : 0 ≤ x10_5
                                · rw [if_pos c30] at H
                                  have c30b0 : decide (0 ≤ x10_5) = true := decide_eq_true c30
                                  clear c30
                                  obtain ⟨bq31, hbq31⟩ : ∃ b_ : Bool, b_ = ((rd_T41 l0 x10_5).f6) := ⟨_, rfl⟩
                                  replace H : (if bq31 = true then (if 0 ≤ x8_2 then (if x8_2 < (l0.length : Int) then (penstockref21_Stable.l2 k5 l0 a1 x7_2 x8_2 (((rd_T41 l0 x10_5).f2) == ((rd_T41 l0 x8_2).f2)) (wrap64 (x10_5 + 1))) else (none)) else (none)) else (penstockref21_Stable.l2 k5 l0 a1 x7_2 x8_2 false (wrap64 (x10_5 + 1)))) = some r := by rw [← hbq31] at H; exact H
                                  have Nbq31 := Aside0.mk hbq31
                                  clear hbq31
                                  by_cases c32 : bq31 = true
                                  · subst c32
                                    have H1 : (if 0 ≤ x8_2 then (if x8_2 < (l0.length : Int) then (penstockref21_Stable.l2 k5 l0 a1 x7_2 x8_2 (((rd_T41 l0 x10_5).f2) == ((rd_T41 l0 x8_2).f2)) (wrap64 (x10_5 + 1))) else (none)) else (none)) = some r := by rw [if_pos rfl] at H; exact H
                                    clear H
                                    have H := H1
                                    clear H1
                                    by_cases c33 : 0 ≤ x8_2
                                    · rw [if_pos c33] at H
                                      have c33b0 : decide (0 ≤ x8_2) = true := decide_eq_true c33
                                      clear c33
                                      by_cases c34 : x8_2 < (l0.length : Int)
                                      · rw [if_pos c34] at H
                                        have c34b0 : decide (x8_2 < (l0.length : Int)) = true := decide_eq_true c34
                                        clear c34
                                        have H' := Aside0.mk H
                                        clear H
                                        try go_wp2_with (first | (go_at_call 24; (with_reducible refine (penstockref21_below.calls k5 _ _ l0 a1 x10_5 true _ ?side1 ?side2 A25.out).mono ?_); (case side1 => repeat (first | exact (Kd.C_below HR0.out HB.out) | (with_reducible refine Kd.C_alloc ?_ _) | (with_reducible refine Kd.C_drewN ?_ _) | (with_reducible refine Kd.C_drew ?_))); (case side2 => exact HC0.out); rintro e w35 ⟨rfl, hb⟩; have n0_ := Aside0.mk (below_step (by repeat (first | (with_reducible first | exact HB.out | apply below_alloc | apply pw_below_drewN | apply below_drew1) | exact HB.out)) hb); clear HB; have HB := n0_; clear n0_; (try clear hb); (try clear hb2); (try clear hk); (try clear hi)))
                                        have n0_ := Aside0.mk (below_drew1 HB.out)
                                        clear HB
                                        have HB := n0_
                                        clear n0_
                                        have p167 : 0 ≤ (x10_5 : Int) := of_decide_eq_true (by first | (with_reducible assumption) | assumption)
                                        have q167 : x10_5 < (l0.length : Int) := of_decide_eq_true (by first | (with_reducible assumption) | assumption)
                                        obtain ⟨ad167, A167_8, c167_8, e167, hx167_0, hx167_1, hx167_2, hx167_3, hx167_4, hx167_5, hx167_6, hx167_7, hx167_8, hl167_8, hi167_8⟩ := at_T41 HR0.out x10_5 p167 q167
                                        have hw167_8 := hx167_8
                                        have hw167_7 := hx167_7
                                        have hw167_6 := hx167_6
                                        have hw167_5 := hx167_5
                                        have hw167_4 := hx167_4
                                        have hw167_3 := hx167_3
                                        have hw167_2 := hx167_2
                                        have hw167_1 := hx167_1
                                        have hw167_0 := hx167_0
                                        (try rw [← Nbq31.out] at hx167_5)
                                        (try rw [← Nbq31.out] at hx167_6)
                                        (try rw [← Nbq31.out] at hx167_7)
                                        cases e167
                                        replace hx167_0 := (HB.out.cell (World.block_lt_of_cell? w _ hx167_0)).trans hx167_0
                                        replace hx167_1 := (HB.out.cell (World.block_lt_of_cell? w _ hx167_1)).trans hx167_1
                                        replace hx167_2 := (HB.out.cell (World.block_lt_of_cell? w _ hx167_2)).trans hx167_2
                                        replace hx167_3 := (HB.out.cell (World.block_lt_of_cell? w _ hx167_3)).trans hx167_3
                                        replace hx167_4 := (HB.out.cell (World.block_lt_of_cell? w _ hx167_4)).trans hx167_4
                                        replace hx167_5 := (HB.out.cell (World.block_lt_of_cell? w _ hx167_5)).trans hx167_5
                                        replace hx167_6 := (HB.out.cell (World.block_lt_of_cell? w _ hx167_6)).trans hx167_6
                                        replace hx167_7 := (HB.out.cell (World.block_lt_of_cell? w _ hx167_7)).trans hx167_7
                                        replace hx167_8 := (HB.out.cell (World.block_lt_of_cell? w _ hx167_8)).trans hx167_8
                                        have HR167_8 := Aside0.mk hi167_8
                                        have HC167_8 := Aside0.mk hl167_8
                                        clear hi167_8 hl167_8
                                        replace p167 := eq_true p167
                                        replace q167 := eq_true q167
                                        have p168 : 0 ≤ (x10_5 : Int) := of_decide_eq_true (by first | (with_reducible assumption) | assumption)
                                        have q168 : x10_5 < (l0.length : Int) := of_decide_eq_true (by first | (with_reducible assumption) | assumption)
                                        obtain ⟨ad168, A168_8, c168_8, e168, hx168_0, hx168_1, hx168_2, hx168_3, hx168_4, hx168_5, hx168_6, hx168_7, hx168_8, hl168_8, hi168_8⟩ := at_T41 HR0.out x10_5 p168 q168
                                        have hw168_8 := hx168_8
                                        have hw168_7 := hx168_7
                                        have hw168_6 := hx168_6
                                        have hw168_5 := hx168_5
                                        have hw168_4 := hx168_4
                                        have hw168_3 := hx168_3
                                        have hw168_2 := hx168_2
                                        have hw168_1 := hx168_1
                                        have hw168_0 := hx168_0
                                        (try rw [← Nbq31.out] at hx168_5)
                                        (try rw [← Nbq31.out] at hx168_6)
                                        (try rw [← Nbq31.out] at hx168_7)
                                        obtain rfl : ad167 = ad168 := (by injection e168)
                                        replace hx168_0 := (HB.out.cell (World.block_lt_of_cell? w _ hx168_0)).trans hx168_0
                                        replace hx168_1 := (HB.out.cell (World.block_lt_of_cell? w _ hx168_1)).trans hx168_1
                                        replace hx168_2 := (HB.out.cell (World.block_lt_of_cell? w _ hx168_2)).trans hx168_2
                                        replace hx168_3 := (HB.out.cell (World.block_lt_of_cell? w _ hx168_3)).trans hx168_3
                                        replace hx168_4 := (HB.out.cell (World.block_lt_of_cell? w _ hx168_4)).trans hx168_4
                                        replace hx168_5 := (HB.out.cell (World.block_lt_of_cell? w _ hx168_5)).trans hx168_5
                                        replace hx168_6 := (HB.out.cell (World.block_lt_of_cell? w _ hx168_6)).trans hx168_6
                                        replace hx168_7 := (HB.out.cell (World.block_lt_of_cell? w _ hx168_7)).trans hx168_7
                                        replace hx168_8 := (HB.out.cell (World.block_lt_of_cell? w _ hx168_8)).trans hx168_8
                                        have HR168_8 := Aside0.mk hi168_8
                                        have HC168_8 := Aside0.mk hl168_8
                                        clear hi168_8 hl168_8
                                        replace p168 := eq_true p168
                                        replace q168 := eq_true q168
                                        have ea_ := Option.some.inj (hx167_8.symm.trans hx168_8)
                                        injection ea_ with ea_ en_ ec_
                                        subst ea_
                                        subst ec_
                                        clear en_
                                        have p169 : 0 ≤ (x8_2 : Int) := of_decide_eq_true (by first | (with_reducible assumption) | assumption)
                                        have q169 : x8_2 < (l0.length : Int) := of_decide_eq_true (by first | (with_reducible assumption) | assumption)
                                        obtain ⟨ad169, A169_8, c169_8, e169, hx169_0, hx169_1, hx169_2, hx169_3, hx169_4, hx169_5, hx169_6, hx169_7, hx169_8, hl169_8, hi169_8⟩ := at_T41 HR0.out x8_2 p169 q169
                                        have hw169_8 := hx169_8
                                        have hw169_7 := hx169_7
                                        have hw169_6 := hx169_6
                                        have hw169_5 := hx169_5
                                        have hw169_4 := hx169_4
                                        have hw169_3 := hx169_3
                                        have hw169_2 := hx169_2
                                        have hw169_1 := hx169_1
                                        have hw169_0 := hx169_0
                                        (try rw [← Nbq31.out] at hx169_5)
                                        (try rw [← Nbq31.out] at hx169_6)
                                        (try rw [← Nbq31.out] at hx169_7)
                                        obtain rfl : ad167 = ad169 := (by injection e169)
                                        replace hx169_0 := (HB.out.cell (World.block_lt_of_cell? w _ hx169_0)).trans hx169_0
                                        replace hx169_1 := (HB.out.cell (World.block_lt_of_cell? w _ hx169_1)).trans hx169_1
                                        replace hx169_2 := (HB.out.cell (World.block_lt_of_cell? w _ hx169_2)).trans hx169_2
                                        replace hx169_3 := (HB.out.cell (World.block_lt_of_cell? w _ hx169_3)).trans hx169_3
                                        replace hx169_4 := (HB.out.cell (World.block_lt_of_cell? w _ hx169_4)).trans hx169_4
                                        replace hx169_5 := (HB.out.cell (World.block_lt_of_cell? w _ hx169_5)).trans hx169_5
                                        replace hx169_6 := (HB.out.cell (World.block_lt_of_cell? w _ hx169_6)).trans hx169_6
                                        replace hx169_7 := (HB.out.cell (World.block_lt_of_cell? w _ hx169_7)).trans hx169_7
                                        replace hx169_8 := (HB.out.cell (World.block_lt_of_cell? w _ hx169_8)).trans hx169_8
                                        have HR169_8 := Aside0.mk hi169_8
                                        have HC169_8 := Aside0.mk hl169_8
                                        clear hi169_8 hl169_8
                                        replace p169 := eq_true p169
                                        replace q169 := eq_true q169
                                        refine start_ (n := 22) (S := fun w' => w'.cell? (ad167.add ((x10_5).toNat * 9)) = some (.int .i64 ((rd_T41 l0 x10_5).f0)) ∧ w'.cell? ⟨(ad167.add ((x10_5).toNat * 9)).block, (ad167.add ((x10_5).toNat * 9)).off + 1, none⟩ = some (.int .i64 ((rd_T41 l0 x10_5).f1)) ∧ w'.cell? ⟨(ad167.add ((x10_5).toNat * 9)).block, (ad167.add ((x10_5).toNat * 9)).off + 2, none⟩ = some (.int .u64 ((rd_T41 l0 x10_5).f2)) ∧ w'.cell? ⟨(ad167.add ((x10_5).toNat * 9)).block, (ad167.add ((x10_5).toNat * 9)).off + 3, none⟩ = some (.int .i64 ((rd_T41 l0 x10_5).f3)) ∧ w'.cell? ⟨(ad167.add ((x10_5).toNat * 9)).block, (ad167.add ((x10_5).toNat * 9)).off + 4, none⟩ = some (.int .i64 ((rd_T41 l0 x10_5).f4)) ∧ w'.cell? ⟨(ad167.add ((x10_5).toNat * 9)).block, (ad167.add ((x10_5).toNat * 9)).off + 5, none⟩ = some (.bool ((rd_T41 l0 x10_5).f5)) ∧ w'.cell? ⟨(ad167.add ((x10_5).toNat * 9)).block, (ad167.add ((x10_5).toNat * 9)).off + 6, none⟩ = some (.bool true) ∧ w'.cell? ⟨(ad167.add ((x10_5).toNat * 9)).block, (ad167.add ((x10_5).toNat * 9)).off + 7, none⟩ = some (.bool ((rd_T41 l0 x10_5).f7)) ∧ w'.cell? ⟨(ad167.add ((x10_5).toNat * 9)).block, (ad167.add ((x10_5).toNat * 9)).off + 8, none⟩ = some (.slice A167_8 ((rd_T41 l0 x10_5).f8).length c167_8) ∧ w'.cell? (ad167.add ((x10_5).toNat * 9)) = some (.int .i64 ((rd_T41 l0 x10_5).f0)) ∧ w'.cell? ⟨(ad167.add ((x10_5).toNat * 9)).block, (ad167.add ((x10_5).toNat * 9)).off + 1, none⟩ = some (.int .i64 ((rd_T41 l0 x10_5).f1)) ∧ w'.cell? ⟨(ad167.add ((x10_5).toNat * 9)).block, (ad167.add ((x10_5).toNat * 9)).off + 2, none⟩ = some (.int .u64 ((rd_T41 l0 x10_5).f2)) ∧ w'.cell? ⟨(ad167.add ((x10_5).toNat * 9)).block, (ad167.add ((x10_5).toNat * 9)).off + 3, none⟩ = some (.int .i64 ((rd_T41 l0 x10_5).f3)) ∧ w'.cell? ⟨(ad167.add ((x10_5).toNat * 9)).block, (ad167.add ((x10_5).toNat * 9)).off + 4, none⟩ = some (.int .i64 ((rd_T41 l0 x10_5).f4)) ∧ w'.cell? ⟨(ad167.add ((x10_5).toNat * 9)).block, (ad167.add ((x10_5).toNat * 9)).off + 5, none⟩ = some (.bool ((rd_T41 l0 x10_5).f5)) ∧ w'.cell? ⟨(ad167.add ((x10_5).toNat * 9)).block, (ad167.add ((x10_5).toNat * 9)).off + 6, none⟩ = some (.bool (true)) ∧ w'.cell? ⟨(ad167.add ((x10_5).toNat * 9)).block, (ad167.add ((x10_5).toNat * 9)).off + 7, none⟩ = some (.bool ((rd_T41 l0 x10_5).f7)) ∧ w'.cell? ⟨(ad167.add ((x10_5).toNat * 9)).block, (ad167.add ((x10_5).toNat * 9)).off + 8, none⟩ = some (.slice A167_8 ((rd_T41 l0 x10_5).f8).length c167_8) ∧ w'.cell? (ad167.add ((x8_2).toNat * 9)) = some (.int .i64 ((rd_T41 l0 x8_2).f0)) ∧ w'.cell? ⟨(ad167.add ((x8_2).toNat * 9)).block, (ad167.add ((x8_2).toNat * 9)).off + 1, none⟩ = some (.int .i64 ((rd_T41 l0 x8_2).f1)) ∧ w'.cell? ⟨(ad167.add ((x8_2).toNat * 9)).block, (ad167.add ((x8_2).toNat * 9)).off + 2, none⟩ = some (.int .u64 ((rd_T41 l0 x8_2).f2)) ∧ w'.cell? ⟨(ad167.add ((x8_2).toNat * 9)).block, (ad167.add ((x8_2).toNat * 9)).off + 3, none⟩ = some (.int .i64 ((rd_T41 l0 x8_2).f3)) ∧ w'.cell? ⟨(ad167.add ((x8_2).toNat * 9)).block, (ad167.add ((x8_2).toNat * 9)).off + 4, none⟩ = some (.int .i64 ((rd_T41 l0 x8_2).f4)) ∧ w'.cell? ⟨(ad167.add ((x8_2).toNat * 9)).block, (ad167.add ((x8_2).toNat * 9)).off + 5, none⟩ = some (.bool ((rd_T41 l0 x8_2).f5)) ∧ w'.cell? ⟨(ad167.add ((x8_2).toNat * 9)).block, (ad167.add ((x8_2).toNat * 9)).off + 6, none⟩ = some (.bool ((rd_T41 l0 x8_2).f6)) ∧ w'.cell? ⟨(ad167.add ((x8_2).toNat * 9)).block, (ad167.add ((x8_2).toNat * 9)).off + 7, none⟩ = some (.bool ((rd_T41 l0 x8_2).f7)) ∧ w'.cell? ⟨(ad167.add ((x8_2).toNat * 9)).block, (ad167.add ((x8_2).toNat * 9)).off + 8, none⟩ = some (.slice A169_8 ((rd_T41 l0 x8_2).f8).length c169_8)) (ds := []) #[false, false, false, false, false, false, false, false, false, false, false, false, false, false, false, false, false, false, false, false, false, false] (by kernel_rfl) rfl rfl ⟨((HB.out.cell (World.block_lt_of_cell? w _ hw167_0)).trans hw167_0), ((HB.out.cell (World.block_lt_of_cell? w _ hw167_1)).trans hw167_1), ((HB.out.cell (World.block_lt_of_cell? w _ hw167_2)).trans hw167_2), ((HB.out.cell (World.block_lt_of_cell? w _ hw167_3)).trans hw167_3), ((HB.out.cell (World.block_lt_of_cell? w _ hw167_4)).trans hw167_4), ((HB.out.cell (World.block_lt_of_cell? w _ hw167_5)).trans hw167_5), (by first | exact ((HB.out.cell (World.block_lt_of_cell? w _ hw167_6)).trans hw167_6) | (have e_ := ((HB.out.cell (World.block_lt_of_cell? w _ hw167_6)).trans hw167_6); rw [← Nbq31.out] at e_; exact e_) | (have e_ := ((HB.out.cell (World.block_lt_of_cell? w _ hw167_6)).trans hw167_6); simp only [← Nbq31.out] at e_; exact e_)), ((HB.out.cell (World.block_lt_of_cell? w _ hw167_7)).trans hw167_7), ((HB.out.cell (World.block_lt_of_cell? w _ hw167_8)).trans hw167_8), ((HB.out.cell (World.block_lt_of_cell? w _ hw168_0)).trans hw168_0), ((HB.out.cell (World.block_lt_of_cell? w _ hw168_1)).trans hw168_1), ((HB.out.cell (World.block_lt_of_cell? w _ hw168_2)).trans hw168_2), ((HB.out.cell (World.block_lt_of_cell? w _ hw168_3)).trans hw168_3), ((HB.out.cell (World.block_lt_of_cell? w _ hw168_4)).trans hw168_4), ((HB.out.cell (World.block_lt_of_cell? w _ hw168_5)).trans hw168_5), (by first | exact ((HB.out.cell (World.block_lt_of_cell? w _ hw168_6)).trans hw168_6) | (have e_ := ((HB.out.cell (World.block_lt_of_cell? w _ hw168_6)).trans hw168_6); rw [← Nbq31.out] at e_; exact e_) | (have e_ := ((HB.out.cell (World.block_lt_of_cell? w _ hw168_6)).trans hw168_6); simp only [← Nbq31.out] at e_; exact e_)), ((HB.out.cell (World.block_lt_of_cell? w _ hw168_7)).trans hw168_7), ((HB.out.cell (World.block_lt_of_cell? w _ hw168_8)).trans hw168_8), ((HB.out.cell (World.block_lt_of_cell? w _ hw169_0)).trans hw169_0), ((HB.out.cell (World.block_lt_of_cell? w _ hw169_1)).trans hw169_1), ((HB.out.cell (World.block_lt_of_cell? w _ hw169_2)).trans hw169_2), ((HB.out.cell (World.block_lt_of_cell? w _ hw169_3)).trans hw169_3), ((HB.out.cell (World.block_lt_of_cell? w _ hw169_4)).trans hw169_4), ((HB.out.cell (World.block_lt_of_cell? w _ hw169_5)).trans hw169_5), ((HB.out.cell (World.block_lt_of_cell? w _ hw169_6)).trans hw169_6), ((HB.out.cell (World.block_lt_of_cell? w _ hw169_7)).trans hw169_7), ((HB.out.cell (World.block_lt_of_cell? w _ hw169_8)).trans hw169_8)⟩ (fun hHeld => ?_); refine with_tabW penstockref21_Stable.tab15 penstockref21_Stable.bits15 (fun HT_ HW_ => ?_)
                                        generalize w35.drew = w36 at HB HR167_8 HR168_8 HR169_8 hx167_0 hx167_1 hx167_2 hx167_3 hx167_4 hx167_5 hx167_6 hx167_7 hx167_8 hx168_0 hx168_1 hx168_2 hx168_3 hx168_4 hx168_5 hx168_6 hx168_7 hx168_8 hx169_0 hx169_1 hx169_2 hx169_3 hx169_4 hx169_5 hx169_6 hx169_7 hx169_8 hHeld ⊢
                                        refine pure_ (i := 0) (N := some 74) (v := ?_) (a' := ?_) #[true, false, false, false, false, false, false, false, false, false, false, false, false, false, false, false, false, false, false, false, false, false] rfl rfl (any_of HT_.out (by kernel_rfl)) (fun _ _ _ h => h) (Or.inl ⟨by rfl, ?_⟩) ?_ ?_
                                        rotate_left
                                        · intro w'
                                          go_simp
                                          with_reducible rfl
                                        rotate_left
                                        · simp only [Act.put, List.setIfInBounds_toArray, List.set_cons_zero, List.set_cons_succ, i64_w, i32_w]
                                          rfl
                                        refine pure_ (i := 1) (N := some 75) (v := ?_) (a' := ?_) #[true, true, false, false, false, false, false, false, false, false, false, false, false, false, false, false, false, false, false, false, false, false] rfl rfl (any_of HT_.out (by kernel_rfl)) (fun _ _ _ h => h) (Or.inl ⟨by rfl, ?_⟩) ?_ ?_
                                        rotate_left
                                        · intro w'
                                          go_simp
                                          with_reducible rfl
                                        rotate_left
                                        · simp only [Act.put, List.setIfInBounds_toArray, List.set_cons_zero, List.set_cons_succ, i64_w, i32_w]
                                          rfl
                                        refine pure_ (i := 2) (N := some 76) (v := ?_) (a' := ?_) #[true, true, true, false, false, false, false, false, false, false, false, false, false, false, false, false, false, false, false, false, false, false] rfl rfl (any_of HT_.out (by kernel_rfl)) (fun _ _ _ h => h) (Or.inl ⟨by rfl, ?_⟩) ?_ ?_
                                        rotate_left
                                        · intro w'
                                          go_simp
                                          with_reducible rfl
                                        rotate_left
                                        · simp only [Act.put, List.setIfInBounds_toArray, List.set_cons_zero, List.set_cons_succ, i64_w, i32_w]
                                          rfl
                                        refine pure_ (i := 3) (N := some 77) (v := ?_) (a' := ?_) #[true, true, true, true, false, false, false, false, false, false, false, false, false, false, false, false, false, false, false, false, false, false] rfl rfl (any_of HT_.out (by kernel_rfl)) (fun _ _ _ h => h) (Or.inl ⟨by rfl, ?_⟩) ?_ ?_
                                        rotate_left
                                        · intro w'
                                          go_simp
                                          with_reducible rfl
                                        rotate_left
                                        · simp only [Act.put, List.setIfInBounds_toArray, List.set_cons_zero, List.set_cons_succ, i64_w, i32_w]
                                          rfl
                                        refine pure_ (i := 4) (N := some 78) (v := ?_) (a' := ?_) #[true, true, true, true, true, false, false, false, false, false, false, false, false, false, false, false, false, false, false, false, false, false] rfl rfl (any_of HT_.out (by kernel_rfl)) (fun _ _ _ h => h) (Or.inl ⟨by rfl, ?_⟩) ?_ ?_
                                        rotate_left
                                        · intro w'
                                          go_simp
                                          with_reducible rfl
                                        rotate_left
                                        · simp only [Act.put, List.setIfInBounds_toArray, List.set_cons_zero, List.set_cons_succ, i64_w, i32_w]
                                          rfl
                                        refine pure_ (i := 5) (N := some 79) (v := ?_) (a' := ?_) #[true, true, true, true, true, true, false, false, false, false, false, false, false, false, false, false, false, false, false, false, false, false] rfl rfl (any_of HT_.out (by kernel_rfl)) (fun _ _ _ h => h) (Or.inl ⟨by rfl, ?_⟩) ?_ ?_
                                        rotate_left
                                        · intro w'
                                          go_simp
                                          with_reducible rfl
                                        rotate_left
                                        · simp only [Act.put, List.setIfInBounds_toArray, List.set_cons_zero, List.set_cons_succ, i64_w, i32_w]
                                          rfl
                                        refine take_ (i := 6) (N := some 80) (v := ?_) (a' := ?_) #[true, true, true, true, true, true, true, false, false, false, false, false, false, false, false, false, false, false, false, false, false, false] rfl rfl (take_ofW HT_.out HW_.out (by kernel_rfl)) (fun _ _ _ h => h) (Or.inl ⟨by rfl, ?_⟩) hHeld ?_ ?_
                                        rotate_left
                                        · rintro w' ⟨s0, s1, s2, s3, s4, s5, s6, s7, s8, s9, s10, s11, s12, s13, s14, s15, s16, s17, s18, s19, s20, s21, s22, s23, s24, s25, s26⟩
                                          go_simp
                                          with_reducible rfl
                                        rotate_left
                                        · simp only [Act.put, List.setIfInBounds_toArray, List.set_cons_zero, List.set_cons_succ, i64_w, i32_w]
                                          rfl
                                        refine pure_ (i := 7) (N := some 81) (v := ?_) (a' := ?_) #[true, true, true, true, true, true, true, true, false, false, false, false, false, false, false, false, false, false, false, false, false, false] rfl rfl (any_of HT_.out (by kernel_rfl)) (fun _ _ _ h => h) (Or.inl ⟨by rfl, ?_⟩) ?_ ?_
                                        rotate_left
                                        · intro w'
                                          go_simp
                                          with_reducible rfl
                                        rotate_left
                                        · simp only [Act.put, List.setIfInBounds_toArray, List.set_cons_zero, List.set_cons_succ, i64_w, i32_w]
                                          rfl
                                        refine pure_ (i := 8) (N := some 82) (v := ?_) (a' := ?_) #[true, true, true, true, true, true, true, true, true, false, false, false, false, false, false, false, false, false, false, false, false, false] rfl rfl (any_of HT_.out (by kernel_rfl)) (fun _ _ _ h => h) (Or.inl ⟨by rfl, ?_⟩) ?_ ?_
                                        rotate_left
                                        · intro w'
                                          go_simp
                                          with_reducible rfl
                                        rotate_left
                                        · simp only [Act.put, List.setIfInBounds_toArray, List.set_cons_zero, List.set_cons_succ, i64_w, i32_w]
                                          rfl
                                        refine pure_ (i := 9) (N := some 83) (v := ?_) (a' := ?_) #[true, true, true, true, true, true, true, true, true, true, false, false, false, false, false, false, false, false, false, false, false, false] rfl rfl (any_of HT_.out (by kernel_rfl)) (fun _ _ _ h => h) (Or.inl ⟨by rfl, ?_⟩) ?_ ?_
                                        rotate_left
                                        · intro w'
                                          go_simp
                                          with_reducible rfl
                                        rotate_left
                                        · simp only [Act.put, List.setIfInBounds_toArray, List.set_cons_zero, List.set_cons_succ, i64_w, i32_w]
                                          rfl
                                        refine pure_ (i := 10) (N := some 84) (v := ?_) (a' := ?_) #[true, true, true, true, true, true, true, true, true, true, true, false, false, false, false, false, false, false, false, false, false, false] rfl rfl (any_of HT_.out (by kernel_rfl)) (fun _ _ _ h => h) (Or.inl ⟨by rfl, ?_⟩) ?_ ?_
                                        rotate_left
                                        · intro w'
                                          go_simp
                                          with_reducible rfl
                                        rotate_left
                                        · simp only [Act.put, List.setIfInBounds_toArray, List.set_cons_zero, List.set_cons_succ, i64_w, i32_w]
                                          rfl
                                        refine pure_ (i := 11) (N := some 85) (v := ?_) (a' := ?_) #[true, true, true, true, true, true, true, true, true, true, true, true, false, false, false, false, false, false, false, false, false, false] rfl rfl (any_of HT_.out (by kernel_rfl)) (fun _ _ _ h => h) (Or.inl ⟨by rfl, ?_⟩) ?_ ?_
                                        rotate_left
                                        · intro w'
                                          go_simp
                                          with_reducible rfl
                                        rotate_left
                                        · simp only [Act.put, List.setIfInBounds_toArray, List.set_cons_zero, List.set_cons_succ, i64_w, i32_w]
                                          rfl
                                        refine pure_ (i := 13) (N := some 87) (v := ?_) (a' := ?_) #[true, true, true, true, true, true, true, true, true, true, true, true, false, true, false, false, false, false, false, false, false, false] rfl rfl (any_of HT_.out (by kernel_rfl)) (fun _ _ _ h => h) (Or.inl ⟨by rfl, ?_⟩) ?_ ?_
                                        rotate_left
                                        · intro w'
                                          go_simp
                                          with_reducible rfl
                                        rotate_left
                                        · simp only [Act.put, List.setIfInBounds_toArray, List.set_cons_zero, List.set_cons_succ, i64_w, i32_w]
                                          rfl
                                        refine pure_ (i := 14) (N := some 88) (v := ?_) (a' := ?_) #[true, true, true, true, true, true, true, true, true, true, true, true, false, true, true, false, false, false, false, false, false, false] rfl rfl (any_of HT_.out (by kernel_rfl)) (fun _ _ _ h => h) (Or.inl ⟨by rfl, ?_⟩) ?_ ?_
                                        rotate_left
                                        · intro w'
                                          go_simp
                                          with_reducible rfl
                                        rotate_left
                                        · simp only [Act.put, List.setIfInBounds_toArray, List.set_cons_zero, List.set_cons_succ, i64_w, i32_w]
                                          rfl
                                        refine pure_ (i := 15) (N := some 89) (v := ?_) (a' := ?_) #[true, true, true, true, true, true, true, true, true, true, true, true, false, true, true, true, false, false, false, false, false, false] rfl rfl (any_of HT_.out (by kernel_rfl)) (fun _ _ _ h => h) (Or.inl ⟨by rfl, ?_⟩) ?_ ?_
                                        rotate_left
                                        · intro w'
                                          go_simp
                                          with_reducible rfl
                                        rotate_left
                                        · simp only [Act.put, List.setIfInBounds_toArray, List.set_cons_zero, List.set_cons_succ, i64_w, i32_w]
                                          rfl
                                        refine pure_ (i := 16) (N := some 90) (v := ?_) (a' := ?_) #[true, true, true, true, true, true, true, true, true, true, true, true, false, true, true, true, true, false, false, false, false, false] rfl rfl (any_of HT_.out (by kernel_rfl)) (fun _ _ _ h => h) (Or.inl ⟨by rfl, ?_⟩) ?_ ?_
                                        rotate_left
                                        · intro w'
                                          go_simp
                                          with_reducible rfl
                                        rotate_left
                                        · simp only [Act.put, List.setIfInBounds_toArray, List.set_cons_zero, List.set_cons_succ, i64_w, i32_w]
                                          rfl
                                        refine take_ (i := 12) (N := some 86) (v := ?_) (a' := ?_) #[true, true, true, true, true, true, true, true, true, true, true, true, true, true, true, true, true, false, false, false, false, false] rfl rfl (take_ofW HT_.out HW_.out (by kernel_rfl)) (fun _ _ _ h => h) (Or.inl ⟨by rfl, ?_⟩) hHeld ?_ ?_
                                        rotate_left
                                        · rintro w' ⟨s0, s1, s2, s3, s4, s5, s6, s7, s8, s9, s10, s11, s12, s13, s14, s15, s16, s17, s18, s19, s20, s21, s22, s23, s24, s25, s26⟩
                                          go_simp
                                          with_reducible rfl
                                        rotate_left
                                        · simp only [Act.put, List.setIfInBounds_toArray, List.set_cons_zero, List.set_cons_succ, i64_w, i32_w]
                                          rfl
                                        refine take_ (i := 17) (N := some 91) (v := ?_) (a' := ?_) #[true, true, true, true, true, true, true, true, true, true, true, true, true, true, true, true, true, true, false, false, false, false] rfl rfl (take_ofW HT_.out HW_.out (by kernel_rfl)) (fun _ _ _ h => h) (Or.inl ⟨by rfl, ?_⟩) hHeld ?_ ?_
                                        rotate_left
                                        · rintro w' ⟨s0, s1, s2, s3, s4, s5, s6, s7, s8, s9, s10, s11, s12, s13, s14, s15, s16, s17, s18, s19, s20, s21, s22, s23, s24, s25, s26⟩
                                          go_simp
                                          with_reducible rfl
                                        rotate_left
                                        · simp only [Act.put, List.setIfInBounds_toArray, List.set_cons_zero, List.set_cons_succ, i64_w, i32_w]
                                          rfl
                                        refine pure_ (i := 18) (N := some 92) (v := ?_) (a' := ?_) #[true, true, true, true, true, true, true, true, true, true, true, true, true, true, true, true, true, true, true, false, false, false] rfl rfl (any_of HT_.out (by kernel_rfl)) (fun _ _ _ h => h) (Or.inl ⟨by rfl, ?_⟩) ?_ ?_
                                        rotate_left
                                        · intro w'
                                          go_simp
                                          with_reducible rfl
                                        rotate_left
                                        · simp only [Act.put, List.setIfInBounds_toArray, List.set_cons_zero, List.set_cons_succ, i64_w, i32_w]
                                          rfl
                                        refine pure_ (i := 19) (N := some 93) (v := ?_) (a' := ?_) #[true, true, true, true, true, true, true, true, true, true, true, true, true, true, true, true, true, true, true, true, false, false] rfl rfl (any_of HT_.out (by kernel_rfl)) (fun _ _ _ h => h) (Or.inl ⟨by rfl, ?_⟩) ?_ ?_
                                        rotate_left
                                        · intro w'
                                          go_simp
                                          with_reducible rfl
                                        rotate_left
                                        · simp only [Act.put, List.setIfInBounds_toArray, List.set_cons_zero, List.set_cons_succ, i64_w, i32_w]
                                          rfl
                                        refine pure_ (i := 20) (N := some 94) (v := ?_) (a' := ?_) #[true, true, true, true, true, true, true, true, true, true, true, true, true, true, true, true, true, true, true, true, true, false] rfl rfl (any_of HT_.out (by kernel_rfl)) (fun _ _ _ h => h) (Or.inl ⟨by rfl, ?_⟩) ?_ ?_
                                        rotate_left
                                        · intro w'
                                          go_simp
                                          with_reducible rfl
                                        rotate_left
                                        · simp only [Act.put, List.setIfInBounds_toArray, List.set_cons_zero, List.set_cons_succ, i64_w, i32_w]
                                          rfl
                                        refine pure_ (i := 21) (N := some 9) (v := ?_) (a' := ?_) #[true, true, true, true, true, true, true, true, true, true, true, true, true, true, true, true, true, true, true, true, true, true] rfl rfl (any_of HT_.out (by kernel_rfl)) (fun _ _ _ h => h) (Or.inl ⟨by rfl, ?_⟩) ?_ ?_
                                        rotate_left
                                        · intro w'
                                          go_simp
                                          with_reducible rfl
                                        rotate_left
                                        · simp only [Act.put, List.setIfInBounds_toArray, List.set_cons_zero, List.set_cons_succ, i64_w, i32_w]
                                          rfl
                                        refine done_ (done_of HT_.out (by kernel_rfl)) ?_
                                        try go_wp2
                                        go_roundg k5
                                        case measure => have := HJ2.out; have := HK2.out; have := HJ12.out; have := HJ17.out; have := HK5.out; omega
                                        case rel => exact ⟨((((rd_T41 l0 x10_5).f2) == ((rd_T41 l0 x8_2).f2))), (wrap64 (x10_5 + 1)), (by first | rfl | (simp; done) | (simp [*]; done)), (by first | rfl | (simp; done) | (simp [*]; done)), H', ⟨by have := HJ2.out; have := HK2.out; have := HJ12.out; have := HJ17.out; have := HK5.out; omega⟩, ⟨by repeat (first | (with_reducible first | exact HB.out | apply below_alloc | apply pw_below_drewN | apply below_drew1) | exact HB.out)⟩⟩
                                      · rw [if_neg c34] at H
                                        exact absurd H (by simp)
                                    · rw [if_neg c33] at H
                                      exact absurd H (by simp)
                                  · replace c32 := Bool.eq_false_iff.mpr c32
                                    subst c32
                                    have H1 : (penstockref21_Stable.l2 k5 l0 a1 x7_2 x8_2 false (wrap64 (x10_5 + 1))) = some r := by rw [if_neg (show ¬ (false = true) by decide)] at H; exact H
                                    clear H
                                    have H := H1
                                    clear H1
                                    have H' := Aside0.mk H
                                    clear H
                                    try go_wp2_with (first | (go_at_call 24; (with_reducible refine (penstockref21_below.calls k5 _ _ l0 a1 x10_5 true _ ?side1 ?side2 A25.out).mono ?_); (case side1 => repeat (first | exact (Kd.C_below HR0.out HB.out) | (with_reducible refine Kd.C_alloc ?_ _) | (with_reducible refine Kd.C_drewN ?_ _) | (with_reducible refine Kd.C_drew ?_))); (case side2 => exact HC0.out); rintro e w37 ⟨rfl, hb⟩; have n0_ := Aside0.mk (below_step (by repeat (first | (with_reducible first | exact HB.out | apply below_alloc | apply pw_below_drewN | apply below_drew1) | exact HB.out)) hb); clear HB; have HB := n0_; clear n0_; (try clear hb); (try clear hb2); (try clear hk); (try clear hi)))
                                    have n0_ := Aside0.mk (below_drew1 HB.out)
                                    clear HB
                                    have HB := n0_
                                    clear n0_
                                    have p167 : 0 ≤ (x10_5 : Int) := of_decide_eq_true (by first | (with_reducible assumption) | assumption)
                                    have q167 : x10_5 < (l0.length : Int) := of_decide_eq_true (by first | (with_reducible assumption) | assumption)
                                    obtain ⟨ad167, A167_8, c167_8, e167, hx167_0, hx167_1, hx167_2, hx167_3, hx167_4, hx167_5, hx167_6, hx167_7, hx167_8, hl167_8, hi167_8⟩ := at_T41 HR0.out x10_5 p167 q167
                                    have hw167_8 := hx167_8
                                    have hw167_7 := hx167_7
                                    have hw167_6 := hx167_6
                                    have hw167_5 := hx167_5
                                    have hw167_4 := hx167_4
                                    have hw167_3 := hx167_3
                                    have hw167_2 := hx167_2
                                    have hw167_1 := hx167_1
                                    have hw167_0 := hx167_0
                                    (try rw [← Nbq31.out] at hx167_5)
                                    (try rw [← Nbq31.out] at hx167_6)
                                    (try rw [← Nbq31.out] at hx167_7)
                                    cases e167
                                    replace hx167_0 := (HB.out.cell (World.block_lt_of_cell? w _ hx167_0)).trans hx167_0
                                    replace hx167_1 := (HB.out.cell (World.block_lt_of_cell? w _ hx167_1)).trans hx167_1
                                    replace hx167_2 := (HB.out.cell (World.block_lt_of_cell? w _ hx167_2)).trans hx167_2
                                    replace hx167_3 := (HB.out.cell (World.block_lt_of_cell? w _ hx167_3)).trans hx167_3
                                    replace hx167_4 := (HB.out.cell (World.block_lt_of_cell? w _ hx167_4)).trans hx167_4
                                    replace hx167_5 := (HB.out.cell (World.block_lt_of_cell? w _ hx167_5)).trans hx167_5
                                    replace hx167_6 := (HB.out.cell (World.block_lt_of_cell? w _ hx167_6)).trans hx167_6
                                    replace hx167_7 := (HB.out.cell (World.block_lt_of_cell? w _ hx167_7)).trans hx167_7
                                    replace hx167_8 := (HB.out.cell (World.block_lt_of_cell? w _ hx167_8)).trans hx167_8
                                    have HR167_8 := Aside0.mk hi167_8
                                    have HC167_8 := Aside0.mk hl167_8
                                    clear hi167_8 hl167_8
                                    replace p167 := eq_true p167
                                    replace q167 := eq_true q167
                                    refine start_ (n := 22) (S := fun w' => w'.cell? (ad167.add ((x10_5).toNat * 9)) = some (.int .i64 ((rd_T41 l0 x10_5).f0)) ∧ w'.cell? ⟨(ad167.add ((x10_5).toNat * 9)).block, (ad167.add ((x10_5).toNat * 9)).off + 1, none⟩ = some (.int .i64 ((rd_T41 l0 x10_5).f1)) ∧ w'.cell? ⟨(ad167.add ((x10_5).toNat * 9)).block, (ad167.add ((x10_5).toNat * 9)).off + 2, none⟩ = some (.int .u64 ((rd_T41 l0 x10_5).f2)) ∧ w'.cell? ⟨(ad167.add ((x10_5).toNat * 9)).block, (ad167.add ((x10_5).toNat * 9)).off + 3, none⟩ = some (.int .i64 ((rd_T41 l0 x10_5).f3)) ∧ w'.cell? ⟨(ad167.add ((x10_5).toNat * 9)).block, (ad167.add ((x10_5).toNat * 9)).off + 4, none⟩ = some (.int .i64 ((rd_T41 l0 x10_5).f4)) ∧ w'.cell? ⟨(ad167.add ((x10_5).toNat * 9)).block, (ad167.add ((x10_5).toNat * 9)).off + 5, none⟩ = some (.bool ((rd_T41 l0 x10_5).f5)) ∧ w'.cell? ⟨(ad167.add ((x10_5).toNat * 9)).block, (ad167.add ((x10_5).toNat * 9)).off + 6, none⟩ = some (.bool false) ∧ w'.cell? ⟨(ad167.add ((x10_5).toNat * 9)).block, (ad167.add ((x10_5).toNat * 9)).off + 7, none⟩ = some (.bool ((rd_T41 l0 x10_5).f7)) ∧ w'.cell? ⟨(ad167.add ((x10_5).toNat * 9)).block, (ad167.add ((x10_5).toNat * 9)).off + 8, none⟩ = some (.slice A167_8 ((rd_T41 l0 x10_5).f8).length c167_8)) (ds := []) #[false, false, false, false, false, false, false, false, false, false, false, false, false, false, false, false, false, false, false, false, false, false] (by kernel_rfl) rfl rfl ⟨((HB.out.cell (World.block_lt_of_cell? w _ hw167_0)).trans hw167_0), ((HB.out.cell (World.block_lt_of_cell? w _ hw167_1)).trans hw167_1), ((HB.out.cell (World.block_lt_of_cell? w _ hw167_2)).trans hw167_2), ((HB.out.cell (World.block_lt_of_cell? w _ hw167_3)).trans hw167_3), ((HB.out.cell (World.block_lt_of_cell? w _ hw167_4)).trans hw167_4), ((HB.out.cell (World.block_lt_of_cell? w _ hw167_5)).trans hw167_5), (by first | exact ((HB.out.cell (World.block_lt_of_cell? w _ hw167_6)).trans hw167_6) | (have e_ := ((HB.out.cell (World.block_lt_of_cell? w _ hw167_6)).trans hw167_6); rw [← Nbq31.out] at e_; exact e_) | (have e_ := ((HB.out.cell (World.block_lt_of_cell? w _ hw167_6)).trans hw167_6); simp only [← Nbq31.out] at e_; exact e_)), ((HB.out.cell (World.block_lt_of_cell? w _ hw167_7)).trans hw167_7), ((HB.out.cell (World.block_lt_of_cell? w _ hw167_8)).trans hw167_8)⟩ (fun hHeld => ?_); refine with_tabW penstockref21_Stable.tab15 penstockref21_Stable.bits15 (fun HT_ HW_ => ?_)
                                    generalize w37.drew = w38 at HB HR167_8 hx167_0 hx167_1 hx167_2 hx167_3 hx167_4 hx167_5 hx167_6 hx167_7 hx167_8 hHeld ⊢
                                    refine pure_ (i := 0) (N := some 74) (v := ?_) (a' := ?_) #[true, false, false, false, false, false, false, false, false, false, false, false, false, false, false, false, false, false, false, false, false, false] rfl rfl (any_of HT_.out (by kernel_rfl)) (fun _ _ _ h => h) (Or.inl ⟨by rfl, ?_⟩) ?_ ?_
                                    rotate_left
                                    · intro w'
                                      go_simp
                                      with_reducible rfl
                                    rotate_left
                                    · simp only [Act.put, List.setIfInBounds_toArray, List.set_cons_zero, List.set_cons_succ, i64_w, i32_w]
                                      rfl
                                    refine pure_ (i := 1) (N := some 75) (v := ?_) (a' := ?_) #[true, true, false, false, false, false, false, false, false, false, false, false, false, false, false, false, false, false, false, false, false, false] rfl rfl (any_of HT_.out (by kernel_rfl)) (fun _ _ _ h => h) (Or.inl ⟨by rfl, ?_⟩) ?_ ?_
                                    rotate_left
                                    · intro w'
                                      go_simp
                                      with_reducible rfl
                                    rotate_left
                                    · simp only [Act.put, List.setIfInBounds_toArray, List.set_cons_zero, List.set_cons_succ, i64_w, i32_w]
                                      rfl
                                    refine pure_ (i := 2) (N := some 76) (v := ?_) (a' := ?_) #[true, true, true, false, false, false, false, false, false, false, false, false, false, false, false, false, false, false, false, false, false, false] rfl rfl (any_of HT_.out (by kernel_rfl)) (fun _ _ _ h => h) (Or.inl ⟨by rfl, ?_⟩) ?_ ?_
                                    rotate_left
                                    · intro w'
                                      go_simp
                                      with_reducible rfl
                                    rotate_left
                                    · simp only [Act.put, List.setIfInBounds_toArray, List.set_cons_zero, List.set_cons_succ, i64_w, i32_w]
                                      rfl
                                    refine pure_ (i := 3) (N := some 77) (v := ?_) (a' := ?_) #[true, true, true, true, false, false, false, false, false, false, false, false, false, false, false, false, false, false, false, false, false, false] rfl rfl (any_of HT_.out (by kernel_rfl)) (fun _ _ _ h => h) (Or.inl ⟨by rfl, ?_⟩) ?_ ?_
                                    rotate_left
                                    · intro w'
                                      go_simp
                                      with_reducible rfl
                                    rotate_left
                                    · simp only [Act.put, List.setIfInBounds_toArray, List.set_cons_zero, List.set_cons_succ, i64_w, i32_w]
                                      rfl
                                    refine pure_ (i := 4) (N := some 78) (v := ?_) (a' := ?_) #[true, true, true, true, true, false, false, false, false, false, false, false, false, false, false, false, false, false, false, false, false, false] rfl rfl (any_of HT_.out (by kernel_rfl)) (fun _ _ _ h => h) (Or.inl ⟨by rfl, ?_⟩) ?_ ?_
                                    rotate_left
                                    · intro w'
                                      go_simp
                                      with_reducible rfl
                                    rotate_left
                                    · simp only [Act.put, List.setIfInBounds_toArray, List.set_cons_zero, List.set_cons_succ, i64_w, i32_w]
                                      rfl
                                    refine pure_ (i := 5) (N := some 79) (v := ?_) (a' := ?_) #[true, true, true, true, true, true, false, false, false, false, false, false, false, false, false, false, false, false, false, false, false, false] rfl rfl (any_of HT_.out (by kernel_rfl)) (fun _ _ _ h => h) (Or.inl ⟨by rfl, ?_⟩) ?_ ?_
                                    rotate_left
                                    · intro w'
                                      go_simp
                                      with_reducible rfl
                                    rotate_left
                                    · simp only [Act.put, List.setIfInBounds_toArray, List.set_cons_zero, List.set_cons_succ, i64_w, i32_w]
                                      rfl
                                    refine take_ (i := 6) (N := some 80) (v := ?_) (a' := ?_) #[true, true, true, true, true, true, true, false, false, false, false, false, false, false, false, false, false, false, false, false, false, false] rfl rfl (take_ofW HT_.out HW_.out (by kernel_rfl)) (fun _ _ _ h => h) (Or.inl ⟨by rfl, ?_⟩) hHeld ?_ ?_
                                    rotate_left
                                    · rintro w' ⟨s0, s1, s2, s3, s4, s5, s6, s7, s8⟩
                                      go_simp
                                      with_reducible rfl
                                    rotate_left
                                    · simp only [Act.put, List.setIfInBounds_toArray, List.set_cons_zero, List.set_cons_succ, i64_w, i32_w]
                                      rfl
                                    refine pure_ (i := 7) (N := some 81) (v := ?_) (a' := ?_) #[true, true, true, true, true, true, true, true, false, false, false, false, false, false, false, false, false, false, false, false, false, false] rfl rfl (any_of HT_.out (by kernel_rfl)) (fun _ _ _ h => h) (Or.inl ⟨by rfl, ?_⟩) ?_ ?_
                                    rotate_left
                                    · intro w'
                                      go_simp
                                      with_reducible rfl
                                    rotate_left
                                    · simp only [Act.put, List.setIfInBounds_toArray, List.set_cons_zero, List.set_cons_succ, i64_w, i32_w]
                                      rfl
                                    refine pure_ (i := 8) (N := some 82) (v := undef) (a' := ?_) #[true, true, true, true, true, true, true, true, true, false, false, false, false, false, false, false, false, false, false, false, false, false] rfl rfl (any_of HT_.out (by kernel_rfl)) (fun _ _ _ h => h) (Or.inr ⟨by rfl, rfl⟩) ?_ ?_
                                    rotate_left
                                    · simp only [Act.put, List.setIfInBounds_toArray, List.set_cons_zero, List.set_cons_succ, i64_w, i32_w]
                                      rfl
                                    refine pure_ (i := 9) (N := some 83) (v := undef) (a' := ?_) #[true, true, true, true, true, true, true, true, true, true, false, false, false, false, false, false, false, false, false, false, false, false] rfl rfl (any_of HT_.out (by kernel_rfl)) (fun _ _ _ h => h) (Or.inr ⟨by rfl, rfl⟩) ?_ ?_
                                    rotate_left
                                    · simp only [Act.put, List.setIfInBounds_toArray, List.set_cons_zero, List.set_cons_succ, i64_w, i32_w]
                                      rfl
                                    refine pure_ (i := 10) (N := some 84) (v := undef) (a' := ?_) #[true, true, true, true, true, true, true, true, true, true, true, false, false, false, false, false, false, false, false, false, false, false] rfl rfl (any_of HT_.out (by kernel_rfl)) (fun _ _ _ h => h) (Or.inr ⟨by rfl, rfl⟩) ?_ ?_
                                    rotate_left
                                    · simp only [Act.put, List.setIfInBounds_toArray, List.set_cons_zero, List.set_cons_succ, i64_w, i32_w]
                                      rfl
                                    refine pure_ (i := 11) (N := some 85) (v := undef) (a' := ?_) #[true, true, true, true, true, true, true, true, true, true, true, true, false, false, false, false, false, false, false, false, false, false] rfl rfl (any_of HT_.out (by kernel_rfl)) (fun _ _ _ h => h) (Or.inr ⟨by rfl, rfl⟩) ?_ ?_
                                    rotate_left
                                    · simp only [Act.put, List.setIfInBounds_toArray, List.set_cons_zero, List.set_cons_succ, i64_w, i32_w]
                                      rfl
                                    refine pure_ (i := 12) (N := some 86) (v := undef) (a' := ?_) #[true, true, true, true, true, true, true, true, true, true, true, true, true, false, false, false, false, false, false, false, false, false] rfl rfl (any_of HT_.out (by kernel_rfl)) (fun _ _ _ h => h) (Or.inr ⟨by rfl, rfl⟩) ?_ ?_
                                    rotate_left
                                    · simp only [Act.put, List.setIfInBounds_toArray, List.set_cons_zero, List.set_cons_succ, i64_w, i32_w]
                                      rfl
                                    refine pure_ (i := 13) (N := some 87) (v := undef) (a' := ?_) #[true, true, true, true, true, true, true, true, true, true, true, true, true, true, false, false, false, false, false, false, false, false] rfl rfl (any_of HT_.out (by kernel_rfl)) (fun _ _ _ h => h) (Or.inr ⟨by rfl, rfl⟩) ?_ ?_
                                    rotate_left
                                    · simp only [Act.put, List.setIfInBounds_toArray, List.set_cons_zero, List.set_cons_succ, i64_w, i32_w]
                                      rfl
                                    refine pure_ (i := 14) (N := some 88) (v := undef) (a' := ?_) #[true, true, true, true, true, true, true, true, true, true, true, true, true, true, true, false, false, false, false, false, false, false] rfl rfl (any_of HT_.out (by kernel_rfl)) (fun _ _ _ h => h) (Or.inr ⟨by rfl, rfl⟩) ?_ ?_
                                    rotate_left
                                    · simp only [Act.put, List.setIfInBounds_toArray, List.set_cons_zero, List.set_cons_succ, i64_w, i32_w]
                                      rfl
                                    refine pure_ (i := 15) (N := some 89) (v := undef) (a' := ?_) #[true, true, true, true, true, true, true, true, true, true, true, true, true, true, true, true, false, false, false, false, false, false] rfl rfl (any_of HT_.out (by kernel_rfl)) (fun _ _ _ h => h) (Or.inr ⟨by rfl, rfl⟩) ?_ ?_
                                    rotate_left
                                    · simp only [Act.put, List.setIfInBounds_toArray, List.set_cons_zero, List.set_cons_succ, i64_w, i32_w]
                                      rfl
                                    refine pure_ (i := 16) (N := some 90) (v := undef) (a' := ?_) #[true, true, true, true, true, true, true, true, true, true, true, true, true, true, true, true, true, false, false, false, false, false] rfl rfl (any_of HT_.out (by kernel_rfl)) (fun _ _ _ h => h) (Or.inr ⟨by rfl, rfl⟩) ?_ ?_
                                    rotate_left
                                    · simp only [Act.put, List.setIfInBounds_toArray, List.set_cons_zero, List.set_cons_succ, i64_w, i32_w]
                                      rfl
                                    refine pure_ (i := 17) (N := some 91) (v := undef) (a' := ?_) #[true, true, true, true, true, true, true, true, true, true, true, true, true, true, true, true, true, true, false, false, false, false] rfl rfl (any_of HT_.out (by kernel_rfl)) (fun _ _ _ h => h) (Or.inr ⟨by rfl, rfl⟩) ?_ ?_
                                    rotate_left
                                    · simp only [Act.put, List.setIfInBounds_toArray, List.set_cons_zero, List.set_cons_succ, i64_w, i32_w]
                                      rfl
                                    refine pure_ (i := 18) (N := some 92) (v := undef) (a' := ?_) #[true, true, true, true, true, true, true, true, true, true, true, true, true, true, true, true, true, true, true, false, false, false] rfl rfl (any_of HT_.out (by kernel_rfl)) (fun _ _ _ h => h) (Or.inr ⟨by rfl, rfl⟩) ?_ ?_
                                    rotate_left
                                    · simp only [Act.put, List.setIfInBounds_toArray, List.set_cons_zero, List.set_cons_succ, i64_w, i32_w]
                                      rfl
                                    refine pure_ (i := 19) (N := some 93) (v := ?_) (a' := ?_) #[true, true, true, true, true, true, true, true, true, true, true, true, true, true, true, true, true, true, true, true, false, false] rfl rfl (any_of HT_.out (by kernel_rfl)) (fun _ _ _ h => h) (Or.inl ⟨by rfl, ?_⟩) ?_ ?_
                                    rotate_left
                                    · intro w'
                                      go_simp
                                      with_reducible rfl
                                    rotate_left
                                    · simp only [Act.put, List.setIfInBounds_toArray, List.set_cons_zero, List.set_cons_succ, i64_w, i32_w]
                                      rfl
                                    refine pure_ (i := 20) (N := some 94) (v := ?_) (a' := ?_) #[true, true, true, true, true, true, true, true, true, true, true, true, true, true, true, true, true, true, true, true, true, false] rfl rfl (any_of HT_.out (by kernel_rfl)) (fun _ _ _ h => h) (Or.inl ⟨by rfl, ?_⟩) ?_ ?_
                                    rotate_left
                                    · intro w'
                                      go_simp
                                      with_reducible rfl
                                    rotate_left
                                    · simp only [Act.put, List.setIfInBounds_toArray, List.set_cons_zero, List.set_cons_succ, i64_w, i32_w]
                                      rfl
                                    refine pure_ (i := 21) (N := some 9) (v := ?_) (a' := ?_) #[true, true, true, true, true, true, true, true, true, true, true, true, true, true, true, true, true, true, true, true, true, true] rfl rfl (any_of HT_.out (by kernel_rfl)) (fun _ _ _ h => h) (Or.inl ⟨by rfl, ?_⟩) ?_ ?_
                                    rotate_left
                                    · intro w'
                                      go_simp
                                      with_reducible rfl
                                    rotate_left
                                    · simp only [Act.put, List.setIfInBounds_toArray, List.set_cons_zero, List.set_cons_succ, i64_w, i32_w]
                                      rfl
                                    refine done_ (done_of HT_.out (by kernel_rfl)) ?_
                                    try go_wp2
                                    go_roundg k5
                                    case measure => have := HJ2.out; have := HK2.out; have := HJ12.out; have := HJ17.out; have := HK5.out; omega
                                    case rel => exact ⟨(false), (wrap64 (x10_5 + 1)), (by first | rfl | (simp; done) | (simp [*]; done)), (by first | rfl | (simp; done) | (simp [*]; done)), H', ⟨by have := HJ2.out; have := HK2.out; have := HJ12.out; have := HJ17.out; have := HK5.out; omega⟩, ⟨by repeat (first | (with_reducible first | exact HB.out | apply below_alloc | apply pw_below_drewN | apply below_drew1) | exact HB.out)⟩⟩
                                · rw [if_neg c30] at H
                                  exact absurd H (by simp)
                            · replace c26 := Bool.eq_false_iff.mpr c26
                              subst c26
                              have H1 : (if x9_5 = true then (penstockref21_Stable.l1 k5 l0 a1 x7_2 (wrap64 (x8_2 + 1))) else (if 0 ≤ x8_2 then (if x8_2 < (l0.length : Int) then (if ((rd_T41 l0 x8_2).f0) < x7_2 then (penstockref21_Stable.l1 k5 l0 a1 ((rd_T41 l0 x8_2).f0) (wrap64 (x8_2 + 1))) else (penstockref21_Stable.l1 k5 l0 a1 x7_2 (wrap64 (x8_2 + 1)))) else (none)) else (none))) = some r := by rw [if_neg (show ¬ (false = true) by decide)] at H; exact H
                              clear H
                              have H := H1
                              clear H1
                              by_cases c39 : x9_5 = true
                              · subst c39
                                have H1 : (penstockref21_Stable.l1 k5 l0 a1 x7_2 (wrap64 (x8_2 + 1))) = some r := by rw [if_pos rfl] at H; exact H
                                clear H
                                have H := H1
                                clear H1
                                have H' := Aside0.mk H
                                clear H
                                go_wp2_with (first | (go_at_call 24; (with_reducible refine (penstockref21_below.calls k5 _ _ l0 a1 x10_5 false _ ?side1 ?side2 A25.out).mono ?_); (case side1 => repeat (first | exact (Kd.C_below HR0.out HB.out) | (with_reducible refine Kd.C_alloc ?_ _) | (with_reducible refine Kd.C_drewN ?_ _) | (with_reducible refine Kd.C_drew ?_))); (case side2 => exact HC0.out); rintro e w40 ⟨rfl, hb⟩; have n0_ := Aside0.mk (below_step (by repeat (first | (with_reducible first | exact HB.out | apply below_alloc | apply pw_below_drewN | apply below_drew1) | exact HB.out)) hb); clear HB; have HB := n0_; clear n0_; (try clear hb); (try clear hb2); (try clear hk); (try clear hi)))
                                go_roundg k5
                                case measure => have := HJ2.out; have := HK2.out; have := HJ12.out; have := HJ17.out; have := HK5.out; omega
                                case rel => exact ⟨(x7_2), (wrap64 (x8_2 + 1)), (by first | rfl | (simp; done) | (simp [*]; done)), (by first | rfl | (simp; done) | (simp [*]; done)), H', ⟨by have := HJ2.out; have := HK2.out; have := HJ12.out; have := HJ17.out; have := HK5.out; omega⟩, ⟨by repeat (first | (with_reducible first | exact HB.out | apply below_alloc | apply pw_below_drewN | apply below_drew1) | exact HB.out)⟩⟩
                              · replace c39 := Bool.eq_false_iff.mpr c39
                                subst c39
                                have H1 : (if 0 ≤ x8_2 then (if x8_2 < (l0.length : Int) then (if ((rd_T41 l0 x8_2).f0) < x7_2 then (penstockref21_Stable.l1 k5 l0 a1 ((rd_T41 l0 x8_2).f0) (wrap64 (x8_2 + 1))) else (penstockref21_Stable.l1 k5 l0 a1 x7_2 (wrap64 (x8_2 + 1)))) else (none)) else (none)) = some r := by rw [if_neg (show ¬ (false = true) by decide)] at H; exact H
                                clear H
                                have H := H1
                                clear H1
                                by_cases c41 : 0 ≤ x8_2
                                · rw [if_pos c41] at H
                                  have c41b0 : decide (0 ≤ x8_2) = true := decide_eq_true c41
                                  clear c41
                                  by_cases c42 : x8_2 < (l0.length : Int)
                                  · rw [if_pos c42] at H
                                    have c42b0 : decide (x8_2 < (l0.length : Int)) = true := decide_eq_true c42
                                    clear c42
                                    by_cases c43 : ((rd_T41 l0 x8_2).f0) < x7_2
                                    · rw [if_pos c43] at H
                                      have c43b0 : decide (((rd_T41 l0 x8_2).f0) < x7_2) = true := decide_eq_true c43
                                      clear c43
                                      have H' := Aside0.mk H
                                      clear H
                                      go_wp2_with (first | (go_at_call 24; (with_reducible refine (penstockref21_below.calls k5 _ _ l0 a1 x10_5 false _ ?side1 ?side2 A25.out).mono ?_); (case side1 => repeat (first | exact (Kd.C_below HR0.out HB.out) | (with_reducible refine Kd.C_alloc ?_ _) | (with_reducible refine Kd.C_drewN ?_ _) | (with_reducible refine Kd.C_drew ?_))); (case side2 => exact HC0.out); rintro e w44 ⟨rfl, hb⟩; have n0_ := Aside0.mk (below_step (by repeat (first | (with_reducible first | exact HB.out | apply below_alloc | apply pw_below_drewN | apply below_drew1) | exact HB.out)) hb); clear HB; have HB := n0_; clear n0_; (try clear hb); (try clear hb2); (try clear hk); (try clear hi); have p170 : 0 ≤ (x8_2 : Int) := of_decide_eq_true (by first | (with_reducible assumption) | assumption); have q170 : x8_2 < (l0.length : Int) := of_decide_eq_true (by first | (with_reducible assumption) | assumption); obtain ⟨ad170, A170_8, c170_8, e170, hx170_0, hx170_1, hx170_2, hx170_3, hx170_4, hx170_5, hx170_6, hx170_7, hx170_8, hl170_8, hi170_8⟩ := at_T41 HR0.out x8_2 p170 q170; cases e170; replace hx170_0 := (HB.out.cell (World.block_lt_of_cell? w _ hx170_0)).trans hx170_0; replace hx170_1 := (HB.out.cell (World.block_lt_of_cell? w _ hx170_1)).trans hx170_1; replace hx170_2 := (HB.out.cell (World.block_lt_of_cell? w _ hx170_2)).trans hx170_2; replace hx170_3 := (HB.out.cell (World.block_lt_of_cell? w _ hx170_3)).trans hx170_3; replace hx170_4 := (HB.out.cell (World.block_lt_of_cell? w _ hx170_4)).trans hx170_4; replace hx170_5 := (HB.out.cell (World.block_lt_of_cell? w _ hx170_5)).trans hx170_5; replace hx170_6 := (HB.out.cell (World.block_lt_of_cell? w _ hx170_6)).trans hx170_6; replace hx170_7 := (HB.out.cell (World.block_lt_of_cell? w _ hx170_7)).trans hx170_7; replace hx170_8 := (HB.out.cell (World.block_lt_of_cell? w _ hx170_8)).trans hx170_8; have HR170_8 := Aside0.mk hi170_8; have HC170_8 := Aside0.mk hl170_8; clear hi170_8 hl170_8; replace p170 := eq_true p170; replace q170 := eq_true q170; have p171 : 0 ≤ (x8_2 : Int) := of_decide_eq_true (by first | (with_reducible assumption) | assumption); have q171 : x8_2 < (l0.length : Int) := of_decide_eq_true (by first | (with_reducible assumption) | assumption); obtain ⟨ad171, A171_8, c171_8, e171, hx171_0, hx171_1, hx171_2, hx171_3, hx171_4, hx171_5, hx171_6, hx171_7, hx171_8, hl171_8, hi171_8⟩ := at_T41 HR0.out x8_2 p171 q171; obtain rfl : ad170 = ad171 := (by injection e171); replace hx171_0 := (HB.out.cell (World.block_lt_of_cell? w _ hx171_0)).trans hx171_0; replace hx171_1 := (HB.out.cell (World.block_lt_of_cell? w _ hx171_1)).trans hx171_1; replace hx171_2 := (HB.out.cell (World.block_lt_of_cell? w _ hx171_2)).trans hx171_2; replace hx171_3 := (HB.out.cell (World.block_lt_of_cell? w _ hx171_3)).trans hx171_3; replace hx171_4 := (HB.out.cell (World.block_lt_of_cell? w _ hx171_4)).trans hx171_4; replace hx171_5 := (HB.out.cell (World.block_lt_of_cell? w _ hx171_5)).trans hx171_5; replace hx171_6 := (HB.out.cell (World.block_lt_of_cell? w _ hx171_6)).trans hx171_6; replace hx171_7 := (HB.out.cell (World.block_lt_of_cell? w _ hx171_7)).trans hx171_7; replace hx171_8 := (HB.out.cell (World.block_lt_of_cell? w _ hx171_8)).trans hx171_8; have HR171_8 := Aside0.mk hi171_8; have HC171_8 := Aside0.mk hl171_8; clear hi171_8 hl171_8; replace p171 := eq_true p171; replace q171 := eq_true q171; have ea_ := Option.some.inj (hx170_8.symm.trans hx171_8); injection ea_ with ea_ en_ ec_; subst ea_; subst ec_; clear en_))
                                      go_roundg k5
                                      case measure => have := HJ2.out; have := HK2.out; have := HJ12.out; have := HJ17.out; have := HK5.out; omega
                                      case rel => exact ⟨((rd_T41 l0 x8_2).f0), (wrap64 (x8_2 + 1)), (by first | rfl | (simp; done) | (simp [*]; done)), (by first | rfl | (simp; done) | (simp [*]; done)), H', ⟨by have := HJ2.out; have := HK2.out; have := HJ12.out; have := HJ17.out; have := HK5.out; omega⟩, ⟨by repeat (first | (with_reducible first | exact HB.out | apply below_alloc | apply pw_below_drewN | apply below_drew1) | exact HB.out)⟩⟩
                                    · rw [if_neg c43] at H
                                      have c43b0 : decide (((rd_T41 l0 x8_2).f0) < x7_2) = false := decide_eq_false c43
                                      clear c43
                                      have H' := Aside0.mk H
                                      clear H
                                      go_wp2_with (first | (go_at_call 24; (with_reducible refine (penstockref21_below.calls k5 _ _ l0 a1 x10_5 false _ ?side1 ?side2 A25.out).mono ?_); (case side1 => repeat (first | exact (Kd.C_below HR0.out HB.out) | (with_reducible refine Kd.C_alloc ?_ _) | (with_reducible refine Kd.C_drewN ?_ _) | (with_reducible refine Kd.C_drew ?_))); (case side2 => exact HC0.out); rintro e w45 ⟨rfl, hb⟩; have n0_ := Aside0.mk (below_step (by repeat (first | (with_reducible first | exact HB.out | apply below_alloc | apply pw_below_drewN | apply below_drew1) | exact HB.out)) hb); clear HB; have HB := n0_; clear n0_; (try clear hb); (try clear hb2); (try clear hk); (try clear hi); have p170 : 0 ≤ (x8_2 : Int) := of_decide_eq_true (by first | (with_reducible assumption) | assumption); have q170 : x8_2 < (l0.length : Int) := of_decide_eq_true (by first | (with_reducible assumption) | assumption); obtain ⟨ad170, A170_8, c170_8, e170, hx170_0, hx170_1, hx170_2, hx170_3, hx170_4, hx170_5, hx170_6, hx170_7, hx170_8, hl170_8, hi170_8⟩ := at_T41 HR0.out x8_2 p170 q170; cases e170; replace hx170_0 := (HB.out.cell (World.block_lt_of_cell? w _ hx170_0)).trans hx170_0; replace hx170_1 := (HB.out.cell (World.block_lt_of_cell? w _ hx170_1)).trans hx170_1; replace hx170_2 := (HB.out.cell (World.block_lt_of_cell? w _ hx170_2)).trans hx170_2; replace hx170_3 := (HB.out.cell (World.block_lt_of_cell? w _ hx170_3)).trans hx170_3; replace hx170_4 := (HB.out.cell (World.block_lt_of_cell? w _ hx170_4)).trans hx170_4; replace hx170_5 := (HB.out.cell (World.block_lt_of_cell? w _ hx170_5)).trans hx170_5; replace hx170_6 := (HB.out.cell (World.block_lt_of_cell? w _ hx170_6)).trans hx170_6; replace hx170_7 := (HB.out.cell (World.block_lt_of_cell? w _ hx170_7)).trans hx170_7; replace hx170_8 := (HB.out.cell (World.block_lt_of_cell? w _ hx170_8)).trans hx170_8; have HR170_8 := Aside0.mk hi170_8; have HC170_8 := Aside0.mk hl170_8; clear hi170_8 hl170_8; replace p170 := eq_true p170; replace q170 := eq_true q170))
                                      go_roundg k5
                                      case measure => have := HJ2.out; have := HK2.out; have := HJ12.out; have := HJ17.out; have := HK5.out; omega
                                      case rel => exact ⟨(x7_2), (wrap64 (x8_2 + 1)), (by first | rfl | (simp; done) | (simp [*]; done)), (by first | rfl | (simp; done) | (simp [*]; done)), H', ⟨by have := HJ2.out; have := HK2.out; have := HJ12.out; have := HJ17.out; have := HK5.out; omega⟩, ⟨by repeat (first | (with_reducible first | exact HB.out | apply below_alloc | apply pw_below_drewN | apply below_drew1) | exact HB.out)⟩⟩
                                  · rw [if_neg c42] at H
                                    exact absurd H (by simp)
                                · rw [if_neg c41] at H
                                  exact absurd H (by simp)
                          · rw [if_neg c24] at H
                            have c24b0 : decide (x10_5 < (l0.length : Int)) = false := decide_eq_false c24
                            clear c24
                            by_cases c46 : x9_5 = true
                            · subst c46
                              have H1 : (penstockref21_Stable.l1 k5 l0 a1 x7_2 (wrap64 (x8_2 + 1))) = some r := by rw [if_pos rfl] at H; exact H
                              clear H
                              have H := H1
                              clear H1
                              have H' := Aside0.mk H
                              clear H
                              go_wp2
                              go_roundg k5
                              case measure => have := HJ2.out; have := HK2.out; have := HJ12.out; have := HJ17.out; have := HK5.out; omega
                              case rel => exact ⟨(x7_2), (wrap64 (x8_2 + 1)), (by first | rfl | (simp; done) | (simp [*]; done)), (by first | rfl | (simp; done) | (simp [*]; done)), H', ⟨by have := HJ2.out; have := HK2.out; have := HJ12.out; have := HJ17.out; have := HK5.out; omega⟩, ⟨by repeat (first | (with_reducible first | exact HB.out | apply below_alloc | apply pw_below_drewN | apply below_drew1) | exact HB.out)⟩⟩
                            · replace c46 := Bool.eq_false_iff.mpr c46
                              subst c46
                              have H1 : (if 0 ≤ x8_2 then (if x8_2 < (l0.length : Int) then (if ((rd_T41 l0 x8_2).f0) < x7_2 then (penstockref21_Stable.l1 k5 l0 a1 ((rd_T41 l0 x8_2).f0) (wrap64 (x8_2 + 1))) else (penstockref21_Stable.l1 k5 l0 a1 x7_2 (wrap64 (x8_2 + 1)))) else (none)) else (none)) = some r := by rw [if_neg (show ¬ (false = true) by decide)] at H; exact H
                              clear H
                              have H := H1
                              clear H1
                              by_cases c47 : 0 ≤ x8_2
                              · rw [if_pos c47] at H
                                have c47b0 : decide (0 ≤ x8_2) = true := decide_eq_true c47
                                clear c47
                                by_cases c48 : x8_2 < (l0.length : Int)
                                · rw [if_pos c48] at H
                                  have c48b0 : decide (x8_2 < (l0.length : Int)) = true := decide_eq_true c48
                                  clear c48
                                  by_cases c49 : ((rd_T41 l0 x8_2).f0) < x7_2
                                  · rw [if_pos c49] at H
                                    have c49b0 : decide (((rd_T41 l0 x8_2).f0) < x7_2) = true := decide_eq_true c49
                                    clear c49
                                    have H' := Aside0.mk H
                                    clear H
                                    have p172 : 0 ≤ (x8_2 : Int) := of_decide_eq_true (by first | (with_reducible assumption) | assumption)
                                    have q172 : x8_2 < (l0.length : Int) := of_decide_eq_true (by first | (with_reducible assumption) | assumption)
                                    obtain ⟨ad172, A172_8, c172_8, e172, hx172_0, hx172_1, hx172_2, hx172_3, hx172_4, hx172_5, hx172_6, hx172_7, hx172_8, hl172_8, hi172_8⟩ := at_T41 HR0.out x8_2 p172 q172
                                    cases e172
                                    replace hx172_0 := (HB.out.cell (World.block_lt_of_cell? w _ hx172_0)).trans hx172_0
                                    replace hx172_1 := (HB.out.cell (World.block_lt_of_cell? w _ hx172_1)).trans hx172_1
                                    replace hx172_2 := (HB.out.cell (World.block_lt_of_cell? w _ hx172_2)).trans hx172_2
                                    replace hx172_3 := (HB.out.cell (World.block_lt_of_cell? w _ hx172_3)).trans hx172_3
                                    replace hx172_4 := (HB.out.cell (World.block_lt_of_cell? w _ hx172_4)).trans hx172_4
                                    replace hx172_5 := (HB.out.cell (World.block_lt_of_cell? w _ hx172_5)).trans hx172_5
                                    replace hx172_6 := (HB.out.cell (World.block_lt_of_cell? w _ hx172_6)).trans hx172_6
                                    replace hx172_7 := (HB.out.cell (World.block_lt_of_cell? w _ hx172_7)).trans hx172_7
                                    replace hx172_8 := (HB.out.cell (World.block_lt_of_cell? w _ hx172_8)).trans hx172_8
                                    have HR172_8 := Aside0.mk hi172_8
                                    have HC172_8 := Aside0.mk hl172_8
                                    clear hi172_8 hl172_8
                                    replace p172 := eq_true p172
                                    replace q172 := eq_true q172
                                    have p173 : 0 ≤ (x8_2 : Int) := of_decide_eq_true (by first | (with_reducible assumption) | assumption)
                                    have q173 : x8_2 < (l0.length : Int) := of_decide_eq_true (by first | (with_reducible assumption) | assumption)
                                    obtain ⟨ad173, A173_8, c173_8, e173, hx173_0, hx173_1, hx173_2, hx173_3, hx173_4, hx173_5, hx173_6, hx173_7, hx173_8, hl173_8, hi173_8⟩ := at_T41 HR0.out x8_2 p173 q173
                                    obtain rfl : ad172 = ad173 := (by injection e173)
                                    replace hx173_0 := (HB.out.cell (World.block_lt_of_cell? w _ hx173_0)).trans hx173_0
                                    replace hx173_1 := (HB.out.cell (World.block_lt_of_cell? w _ hx173_1)).trans hx173_1
                                    replace hx173_2 := (HB.out.cell (World.block_lt_of_cell? w _ hx173_2)).trans hx173_2
                                    replace hx173_3 := (HB.out.cell (World.block_lt_of_cell? w _ hx173_3)).trans hx173_3
                                    replace hx173_4 := (HB.out.cell (World.block_lt_of_cell? w _ hx173_4)).trans hx173_4
                                    replace hx173_5 := (HB.out.cell (World.block_lt_of_cell? w _ hx173_5)).trans hx173_5
                                    replace hx173_6 := (HB.out.cell (World.block_lt_of_cell? w _ hx173_6)).trans hx173_6
                                    replace hx173_7 := (HB.out.cell (World.block_lt_of_cell? w _ hx173_7)).trans hx173_7
                                    replace hx173_8 := (HB.out.cell (World.block_lt_of_cell? w _ hx173_8)).trans hx173_8
                                    have HR173_8 := Aside0.mk hi173_8
                                    have HC173_8 := Aside0.mk hl173_8
                                    clear hi173_8 hl173_8
                                    replace p173 := eq_true p173
                                    replace q173 := eq_true q173
                                    have ea_ := Option.some.inj (hx172_8.symm.trans hx173_8)
                                    injection ea_ with ea_ en_ ec_
                                    subst ea_
                                    subst ec_
                                    clear en_
                                    go_wp2
                                    go_roundg k5
                                    case measure => have := HJ2.out; have := HK2.out; have := HJ12.out; have := HJ17.out; have := HK5.out; omega
                                    case rel => exact ⟨((rd_T41 l0 x8_2).f0), (wrap64 (x8_2 + 1)), (by first | rfl | (simp; done) | (simp [*]; done)), (by first | rfl | (simp; done) | (simp [*]; done)), H', ⟨by have := HJ2.out; have := HK2.out; have := HJ12.out; have := HJ17.out; have := HK5.out; omega⟩, ⟨by repeat (first | (with_reducible first | exact HB.out | apply below_alloc | apply pw_below_drewN | apply below_drew1) | exact HB.out)⟩⟩
                                  · rw [if_neg c49] at H
                                    have c49b0 : decide (((rd_T41 l0 x8_2).f0) < x7_2) = false := decide_eq_false c49
                                    clear c49
                                    have H' := Aside0.mk H
                                    clear H
                                    have p172 : 0 ≤ (x8_2 : Int) := of_decide_eq_true (by first | (with_reducible assumption) | assumption)
                                    have q172 : x8_2 < (l0.length : Int) := of_decide_eq_true (by first | (with_reducible assumption) | assumption)
                                    obtain ⟨ad172, A172_8, c172_8, e172, hx172_0, hx172_1, hx172_2, hx172_3, hx172_4, hx172_5, hx172_6, hx172_7, hx172_8, hl172_8, hi172_8⟩ := at_T41 HR0.out x8_2 p172 q172
                                    cases e172
                                    replace hx172_0 := (HB.out.cell (World.block_lt_of_cell? w _ hx172_0)).trans hx172_0
                                    replace hx172_1 := (HB.out.cell (World.block_lt_of_cell? w _ hx172_1)).trans hx172_1
                                    replace hx172_2 := (HB.out.cell (World.block_lt_of_cell? w _ hx172_2)).trans hx172_2
                                    replace hx172_3 := (HB.out.cell (World.block_lt_of_cell? w _ hx172_3)).trans hx172_3
                                    replace hx172_4 := (HB.out.cell (World.block_lt_of_cell? w _ hx172_4)).trans hx172_4
                                    replace hx172_5 := (HB.out.cell (World.block_lt_of_cell? w _ hx172_5)).trans hx172_5
                                    replace hx172_6 := (HB.out.cell (World.block_lt_of_cell? w _ hx172_6)).trans hx172_6
                                    replace hx172_7 := (HB.out.cell (World.block_lt_of_cell? w _ hx172_7)).trans hx172_7
                                    replace hx172_8 := (HB.out.cell (World.block_lt_of_cell? w _ hx172_8)).trans hx172_8
                                    have HR172_8 := Aside0.mk hi172_8
                                    have HC172_8 := Aside0.mk hl172_8
                                    clear hi172_8 hl172_8
                                    replace p172 := eq_true p172
                                    replace q172 := eq_true q172
                                    go_wp2
                                    go_roundg k5
                                    case measure => have := HJ2.out; have := HK2.out; have := HJ12.out; have := HJ17.out; have := HK5.out; omega
                                    case rel => exact ⟨(x7_2), (wrap64 (x8_2 + 1)), (by first | rfl | (simp; done) | (simp [*]; done)), (by first | rfl | (simp; done) | (simp [*]; done)), H', ⟨by have := HJ2.out; have := HK2.out; have := HJ12.out; have := HJ17.out; have := HK5.out; omega⟩, ⟨by repeat (first | (with_reducible first | exact HB.out | apply below_alloc | apply pw_below_drewN | apply below_drew1) | exact HB.out)⟩⟩
                                · rw [if_neg c48] at H
                                  exact absurd H (by simp)
                              · rw [if_neg c47] at H
                                exact absurd H (by simp)
              · replace c17 := Bool.eq_false_iff.mpr c17
                subst c17
                have H1 : (some x7_2) = some r := by rw [if_neg (show ¬ (false = true) by decide)] at H; exact H
                clear H
                have H := H1
                clear H1
                obtain rfl := Option.some.inj H
                go_wp2
                go_ret
                exact ⟨by first | rfl | (simp [errW_none, errW_some] <;> rfl) | (simp [*, errW_none, errW_some] <;> rfl), by repeat (first | (with_reducible first | exact HB.out | apply below_alloc | apply pw_below_drewN | apply below_drew1) | exact HB.out)⟩

end Go.Proofs.Ytnbdlkjphdfkpaa.H

/- Contracts of the helpers of layer 21, as the kit's printer writes them; one namespace for all laws. No conditions. -/
import Derived.Test.YtnbdlkjphdfkpaaH1
namespace Go.Proofs.Ytnbdlkjphdfkpaa.H
open Go.RowKit Go.Proofs.YtnbdlkjphdfkpaaW.PrintWords Go.Proofs.YtnbdlkjphdfkpaaW.PrintLast Go.Proofs.YtnbdlkjphdfkpaaW.PrintMore
attribute [local go_sem] max2_int min2_int max_two min_two max_three min_three max_four min_four   -- for this text's walks alone
set_option linter.unusedVariables false
set_option linter.unusedSimpArgs false

/-! ### penstockref21_below: function 24 -/
def penstockref21_below.l0 : Nat → List (S41) → Int → Int → Int → Option (Bool)
  | 0, _, _, _, _ => none
  | k + 1, x0, x1, x2, x7 => if x7 ≤ x2 then (if 0 ≤ x7 then (if x7 < (x0.length : Int) then ((penstockref07_Size.f ((rd_T41 x0 x7).f0) ((rd_T41 x0 x7).f1) ((rd_T41 x0 x7).f2) ((rd_T41 x0 x7).f3) ((rd_T41 x0 x7).f4) ((rd_T41 x0 x7).f5) ((rd_T41 x0 x7).f6) ((rd_T41 x0 x7).f7) ((rd_T41 x0 x7).f8)).bind fun t154 => (if (wrap64 (((rd_T41 x0 x7).f0) + t154)) > x1 then (some false) else (penstockref21_below.l0 k x0 x1 x2 (wrap64 (x7 + 1))))) else (none)) else (none)) else (some true)
def penstockref21_below.f (k : Nat) (l0 : List (S41)) (a1 : Int) (a2 : Int) : Option (Bool) := penstockref21_below.l0 k l0 a1 a2 0
theorem penstockref21_below.mono_l : ∀ k, (∀ y0 y1 y2 y3, LeO (penstockref21_below.l0 k y0 y1 y2 y3) (penstockref21_below.l0 (k + 1) y0 y1 y2 y3))
  | 0 => fun _ _ _ _ r h => by simp [penstockref21_below.l0] at h
  | k + 1 => by
    have ih0 := penstockref21_below.mono_l k
    · intro y0 y1 y2 y3
      unfold penstockref21_below.l0
      repeat' first
      | (with_reducible exact ih0 _ _ _ _)
      | (with_reducible exact LeO.refl _)
      | (with_reducible exact LeO.none _)
      | (with_reducible refine LeO.ite ?_ ?_)
      | (with_reducible refine LeO.bind ?_ (fun _ => ?_))
      | exact ih0 _ _ _ _
      | exact LeO.none _
      | refine LeO.ite ?_ ?_
      | refine LeO.bind ?_ (fun _ => ?_)
theorem penstockref21_below.mono : ∀ a0 a1 a2 k, LeO (penstockref21_below.f k a0 a1 a2) (penstockref21_below.f (k + 1) a0 a1 a2) := by
  intro a0 a1 a2 k
  have ih0 := penstockref21_below.mono_l k
  unfold penstockref21_below.f
  repeat' first
      | (with_reducible exact ih0 _ _ _ _)
      | (with_reducible exact LeO.refl _)
      | (with_reducible exact LeO.none _)
      | (with_reducible refine LeO.ite ?_ ?_)
      | (with_reducible refine LeO.bind ?_ (fun _ => ?_))
      | exact ih0 _ _ _ _
      | exact LeO.none _
      | refine LeO.ite ?_ ?_
      | refine LeO.bind ?_ (fun _ => ?_)
def penstockref21_below.T4 : Bool × List (List Nat × List Nat) := (true, [([], []), ([], []), ([0, 1], [0, 1]), ([2], [2]), ([3], [3]), ([], []), ([], []), ([5, 6], [5, 6]), ([7], [7]), ([8], [8]), ([4, 9], [4, 9]), ([], []), ([10, 11], [10, 11])])
def penstockref21_below.B4 : List Nat := [0, 0, 3, 7, 15, 0, 0, 96, 224, 480, 1023, 0, 4095]
theorem penstockref21_below.tab4 : rtab .any (opsOf Try.f24 4) = penstockref21_below.T4 := by kernel_rfl
theorem penstockref21_below.bits4 : waitsOk penstockref21_below.T4.2 penstockref21_below.B4 = true := by kernel_rfl
set_option maxHeartbeats 8000000 in
set_option maxRecDepth 100000 in
theorem penstockref21_below.calls (k : Nat) (A0 : Option Addr) (c0 : Nat) (l0 : List (S41)) (a1 : Int) (a2 : Int) (r : Bool) (w : World) (hr0 : Kd.C k41 w A0 l0.length l0) (hc0 : l0.length ≤ c0) (h : penstockref21_below.f k l0 a1 a2 = some r) :
    Calls Try.prog 24 #[.slice A0 l0.length c0, .int .i64 a1, .int .i64 a2] w fun e w' => e = .returned (.bool r) ∧ Below w.heap.size w w' := by
  have hu41 := Try.underlying41
  have HR0 := Aside0.mk hr0
  have HC0 := Aside0.mk hc0
  clear hr0 hc0
  have HB := Aside0.mk (Below.refl w.heap.size w)
  have H : (penstockref21_below.l0 k l0 a1 a2 0) = some r := h
  clear h
  have H' := Aside0.mk H
  clear H
  go_enter Try.func24, Try.ntmps24
  go_wp2
  go_loopg [7] k (fun kq v7 w' => ∃ (x7_1 : Int), v7 = .int .i64 x7_1 ∧ Aside0 (penstockref21_below.l0 kq l0 a1 a2 x7_1 = some r) ∧ Aside0 (kq ≤ k) ∧ Aside0 (Below w.heap.size w w'))
  case atStart => exact ⟨(0), (by first | rfl | (simp; done) | (simp [*]; done)), H', ⟨Nat.le_refl _⟩, ⟨by repeat (first | (with_reducible first | exact HB.out | apply below_alloc | apply pw_below_drewN | apply below_drew1) | exact HB.out)⟩⟩
  case round =>
    clear H'
    try clear c2
    try clear p2
    obtain ⟨x7_1, rfl, HA, HK1, HB⟩ := hrel
    cases gk with
    | zero => exact absurd HA.out (by simp [penstockref21_below.l0])
    | succ k1 =>
      have H := HA.out
      clear HA
      simp only [penstockref21_below.l0] at H
      by_cases c4 : x7_1 ≤ a2
      · rw [if_pos c4] at H
        have c4b0 : decide (x7_1 ≤ a2) = true := decide_eq_true c4
        clear c4
        by_cases c5 : 0 ≤ x7_1
        · rw [if_pos c5] at H
          have c5b0 : decide (0 ≤ x7_1) = true := decide_eq_true c5
          clear c5
          by_cases c6 : x7_1 < (l0.length : Int)
          · rw [if_pos c6] at H
            have c6b0 : decide (x7_1 < (l0.length : Int)) = true := decide_eq_true c6
            clear c6
            replace H := Option.bind_eq_some_iff.mp H
            obtain ⟨t154, A70, H⟩ := H
            replace H : (if (wrap64 (((rd_T41 l0 x7_1).f0) + t154)) > a1 then (some false) else (penstockref21_below.l0 k1 l0 a1 a2 (wrap64 (x7_1 + 1)))) = some r := H
            have A7 := Aside0.mk A70
            clear A70
            by_cases c8 : (wrap64 (((rd_T41 l0 x7_1).f0) + t154)) > a1
            · rw [if_pos c8] at H
              have c8b0 : decide (a1 < (wrap64 (((rd_T41 l0 x7_1).f0) + t154))) = true := decide_eq_true c8
              clear c8
              obtain rfl := Option.some.inj H
              try go_wp2
              have n0_ := Aside0.mk (below_drew1 HB.out)
              clear HB
              have HB := n0_
              clear n0_
              have p152 : 0 ≤ (x7_1 : Int) := of_decide_eq_true (by first | (with_reducible assumption) | assumption)
              have q152 : x7_1 < (l0.length : Int) := of_decide_eq_true (by first | (with_reducible assumption) | assumption)
              obtain ⟨ad152, A152_8, c152_8, e152, hx152_0, hx152_1, hx152_2, hx152_3, hx152_4, hx152_5, hx152_6, hx152_7, hx152_8, hl152_8, hi152_8⟩ := at_T41 HR0.out x7_1 p152 q152
              have hw152_8 := hx152_8
              have hw152_7 := hx152_7
              have hw152_6 := hx152_6
              have hw152_5 := hx152_5
              have hw152_4 := hx152_4
              have hw152_3 := hx152_3
              have hw152_2 := hx152_2
              have hw152_1 := hx152_1
              have hw152_0 := hx152_0
              cases e152
              replace hx152_0 := (HB.out.cell (World.block_lt_of_cell? w _ hx152_0)).trans hx152_0
              replace hx152_1 := (HB.out.cell (World.block_lt_of_cell? w _ hx152_1)).trans hx152_1
              replace hx152_2 := (HB.out.cell (World.block_lt_of_cell? w _ hx152_2)).trans hx152_2
              replace hx152_3 := (HB.out.cell (World.block_lt_of_cell? w _ hx152_3)).trans hx152_3
              replace hx152_4 := (HB.out.cell (World.block_lt_of_cell? w _ hx152_4)).trans hx152_4
              replace hx152_5 := (HB.out.cell (World.block_lt_of_cell? w _ hx152_5)).trans hx152_5
              replace hx152_6 := (HB.out.cell (World.block_lt_of_cell? w _ hx152_6)).trans hx152_6
              replace hx152_7 := (HB.out.cell (World.block_lt_of_cell? w _ hx152_7)).trans hx152_7
              replace hx152_8 := (HB.out.cell (World.block_lt_of_cell? w _ hx152_8)).trans hx152_8
              have HR152_8 := Aside0.mk hi152_8
              have HC152_8 := Aside0.mk hl152_8
              clear hi152_8 hl152_8
              replace p152 := eq_true p152
              replace q152 := eq_true q152
              have p153 : 0 ≤ (x7_1 : Int) := of_decide_eq_true (by first | (with_reducible assumption) | assumption)
              have q153 : x7_1 < (l0.length : Int) := of_decide_eq_true (by first | (with_reducible assumption) | assumption)
              obtain ⟨ad153, A153_8, c153_8, e153, hx153_0, hx153_1, hx153_2, hx153_3, hx153_4, hx153_5, hx153_6, hx153_7, hx153_8, hl153_8, hi153_8⟩ := at_T41 HR0.out x7_1 p153 q153
              have hw153_8 := hx153_8
              have hw153_7 := hx153_7
              have hw153_6 := hx153_6
              have hw153_5 := hx153_5
              have hw153_4 := hx153_4
              have hw153_3 := hx153_3
              have hw153_2 := hx153_2
              have hw153_1 := hx153_1
              have hw153_0 := hx153_0
              obtain rfl : ad152 = ad153 := (by injection e153)
              replace hx153_0 := (HB.out.cell (World.block_lt_of_cell? w _ hx153_0)).trans hx153_0
              replace hx153_1 := (HB.out.cell (World.block_lt_of_cell? w _ hx153_1)).trans hx153_1
              replace hx153_2 := (HB.out.cell (World.block_lt_of_cell? w _ hx153_2)).trans hx153_2
              replace hx153_3 := (HB.out.cell (World.block_lt_of_cell? w _ hx153_3)).trans hx153_3
              replace hx153_4 := (HB.out.cell (World.block_lt_of_cell? w _ hx153_4)).trans hx153_4
              replace hx153_5 := (HB.out.cell (World.block_lt_of_cell? w _ hx153_5)).trans hx153_5
              replace hx153_6 := (HB.out.cell (World.block_lt_of_cell? w _ hx153_6)).trans hx153_6
              replace hx153_7 := (HB.out.cell (World.block_lt_of_cell? w _ hx153_7)).trans hx153_7
              replace hx153_8 := (HB.out.cell (World.block_lt_of_cell? w _ hx153_8)).trans hx153_8
              have HR153_8 := Aside0.mk hi153_8
              have HC153_8 := Aside0.mk hl153_8
              clear hi153_8 hl153_8
              replace p153 := eq_true p153
              replace q153 := eq_true q153
              have ea_ := Option.some.inj (hx152_8.symm.trans hx153_8)
              injection ea_ with ea_ en_ ec_
              subst ea_
              subst ec_
              clear en_
              refine start_ (n := 13) (S := fun w' => w'.cell? (ad152.add ((x7_1).toNat * 9)) = some (.int .i64 ((rd_T41 l0 x7_1).f0)) ∧ w'.cell? ⟨(ad152.add ((x7_1).toNat * 9)).block, (ad152.add ((x7_1).toNat * 9)).off + 1, none⟩ = some (.int .i64 ((rd_T41 l0 x7_1).f1)) ∧ w'.cell? ⟨(ad152.add ((x7_1).toNat * 9)).block, (ad152.add ((x7_1).toNat * 9)).off + 2, none⟩ = some (.int .u64 ((rd_T41 l0 x7_1).f2)) ∧ w'.cell? ⟨(ad152.add ((x7_1).toNat * 9)).block, (ad152.add ((x7_1).toNat * 9)).off + 3, none⟩ = some (.int .i64 ((rd_T41 l0 x7_1).f3)) ∧ w'.cell? ⟨(ad152.add ((x7_1).toNat * 9)).block, (ad152.add ((x7_1).toNat * 9)).off + 4, none⟩ = some (.int .i64 ((rd_T41 l0 x7_1).f4)) ∧ w'.cell? ⟨(ad152.add ((x7_1).toNat * 9)).block, (ad152.add ((x7_1).toNat * 9)).off + 5, none⟩ = some (.bool ((rd_T41 l0 x7_1).f5)) ∧ w'.cell? ⟨(ad152.add ((x7_1).toNat * 9)).block, (ad152.add ((x7_1).toNat * 9)).off + 6, none⟩ = some (.bool ((rd_T41 l0 x7_1).f6)) ∧ w'.cell? ⟨(ad152.add ((x7_1).toNat * 9)).block, (ad152.add ((x7_1).toNat * 9)).off + 7, none⟩ = some (.bool ((rd_T41 l0 x7_1).f7)) ∧ w'.cell? ⟨(ad152.add ((x7_1).toNat * 9)).block, (ad152.add ((x7_1).toNat * 9)).off + 8, none⟩ = some (.slice A152_8 ((rd_T41 l0 x7_1).f8).length c152_8) ∧ w'.cell? (ad152.add ((x7_1).toNat * 9)) = some (.int .i64 ((rd_T41 l0 x7_1).f0)) ∧ w'.cell? ⟨(ad152.add ((x7_1).toNat * 9)).block, (ad152.add ((x7_1).toNat * 9)).off + 1, none⟩ = some (.int .i64 ((rd_T41 l0 x7_1).f1)) ∧ w'.cell? ⟨(ad152.add ((x7_1).toNat * 9)).block, (ad152.add ((x7_1).toNat * 9)).off + 2, none⟩ = some (.int .u64 ((rd_T41 l0 x7_1).f2)) ∧ w'.cell? ⟨(ad152.add ((x7_1).toNat * 9)).block, (ad152.add ((x7_1).toNat * 9)).off + 3, none⟩ = some (.int .i64 ((rd_T41 l0 x7_1).f3)) ∧ w'.cell? ⟨(ad152.add ((x7_1).toNat * 9)).block, (ad152.add ((x7_1).toNat * 9)).off + 4, none⟩ = some (.int .i64 ((rd_T41 l0 x7_1).f4)) ∧ w'.cell? ⟨(ad152.add ((x7_1).toNat * 9)).block, (ad152.add ((x7_1).toNat * 9)).off + 5, none⟩ = some (.bool ((rd_T41 l0 x7_1).f5)) ∧ w'.cell? ⟨(ad152.add ((x7_1).toNat * 9)).block, (ad152.add ((x7_1).toNat * 9)).off + 6, none⟩ = some (.bool ((rd_T41 l0 x7_1).f6)) ∧ w'.cell? ⟨(ad152.add ((x7_1).toNat * 9)).block, (ad152.add ((x7_1).toNat * 9)).off + 7, none⟩ = some (.bool ((rd_T41 l0 x7_1).f7)) ∧ w'.cell? ⟨(ad152.add ((x7_1).toNat * 9)).block, (ad152.add ((x7_1).toNat * 9)).off + 8, none⟩ = some (.slice A152_8 ((rd_T41 l0 x7_1).f8).length c152_8)) (ds := []) #[false, false, false, false, false, false, false, false, false, false, false, false, false] (by kernel_rfl) rfl rfl ⟨((HB.out.cell (World.block_lt_of_cell? w _ hw152_0)).trans hw152_0), ((HB.out.cell (World.block_lt_of_cell? w _ hw152_1)).trans hw152_1), ((HB.out.cell (World.block_lt_of_cell? w _ hw152_2)).trans hw152_2), ((HB.out.cell (World.block_lt_of_cell? w _ hw152_3)).trans hw152_3), ((HB.out.cell (World.block_lt_of_cell? w _ hw152_4)).trans hw152_4), ((HB.out.cell (World.block_lt_of_cell? w _ hw152_5)).trans hw152_5), ((HB.out.cell (World.block_lt_of_cell? w _ hw152_6)).trans hw152_6), ((HB.out.cell (World.block_lt_of_cell? w _ hw152_7)).trans hw152_7), ((HB.out.cell (World.block_lt_of_cell? w _ hw152_8)).trans hw152_8), ((HB.out.cell (World.block_lt_of_cell? w _ hw153_0)).trans hw153_0), ((HB.out.cell (World.block_lt_of_cell? w _ hw153_1)).trans hw153_1), ((HB.out.cell (World.block_lt_of_cell? w _ hw153_2)).trans hw153_2), ((HB.out.cell (World.block_lt_of_cell? w _ hw153_3)).trans hw153_3), ((HB.out.cell (World.block_lt_of_cell? w _ hw153_4)).trans hw153_4), ((HB.out.cell (World.block_lt_of_cell? w _ hw153_5)).trans hw153_5), ((HB.out.cell (World.block_lt_of_cell? w _ hw153_6)).trans hw153_6), ((HB.out.cell (World.block_lt_of_cell? w _ hw153_7)).trans hw153_7), ((HB.out.cell (World.block_lt_of_cell? w _ hw153_8)).trans hw153_8)⟩ (fun hHeld => ?_); refine with_tabW penstockref21_below.tab4 penstockref21_below.bits4 (fun HT_ HW_ => ?_)
              generalize wr.drew = w9 at HB HR152_8 HR153_8 hx152_0 hx152_1 hx152_2 hx152_3 hx152_4 hx152_5 hx152_6 hx152_7 hx152_8 hx153_0 hx153_1 hx153_2 hx153_3 hx153_4 hx153_5 hx153_6 hx153_7 hx153_8 hHeld ⊢
              refine pure_ (i := 0) (N := some 13) (v := ?_) (a' := ?_) #[true, false, false, false, false, false, false, false, false, false, false, false, false] rfl rfl (any_of HT_.out (by kernel_rfl)) (fun _ _ _ h => h) (Or.inl ⟨by rfl, ?_⟩) ?_ ?_
              rotate_left
              · intro w'
                go_simp
                with_reducible rfl
              rotate_left
              · simp only [Act.put, List.setIfInBounds_toArray, List.set_cons_zero, List.set_cons_succ, i64_w, i32_w]
                rfl
              refine pure_ (i := 1) (N := some 14) (v := ?_) (a' := ?_) #[true, true, false, false, false, false, false, false, false, false, false, false, false] rfl rfl (any_of HT_.out (by kernel_rfl)) (fun _ _ _ h => h) (Or.inl ⟨by rfl, ?_⟩) ?_ ?_
              rotate_left
              · intro w'
                go_simp
                with_reducible rfl
              rotate_left
              · simp only [Act.put, List.setIfInBounds_toArray, List.set_cons_zero, List.set_cons_succ, i64_w, i32_w]
                rfl
              refine pure_ (i := 2) (N := some 15) (v := ?_) (a' := ?_) #[true, true, true, false, false, false, false, false, false, false, false, false, false] rfl rfl (any_of HT_.out (by kernel_rfl)) (fun _ _ _ h => h) (Or.inl ⟨by rfl, ?_⟩) ?_ ?_
              rotate_left
              · intro w'
                go_simp
                with_reducible rfl
              rotate_left
              · simp only [Act.put, List.setIfInBounds_toArray, List.set_cons_zero, List.set_cons_succ, i64_w, i32_w]
                rfl
              refine pure_ (i := 3) (N := some 16) (v := ?_) (a' := ?_) #[true, true, true, true, false, false, false, false, false, false, false, false, false] rfl rfl (any_of HT_.out (by kernel_rfl)) (fun _ _ _ h => h) (Or.inl ⟨by rfl, ?_⟩) ?_ ?_
              rotate_left
              · intro w'
                go_simp
                with_reducible rfl
              rotate_left
              · simp only [Act.put, List.setIfInBounds_toArray, List.set_cons_zero, List.set_cons_succ, i64_w, i32_w]
                rfl
              refine pure_ (i := 5) (N := some 18) (v := ?_) (a' := ?_) #[true, true, true, true, false, true, false, false, false, false, false, false, false] rfl rfl (any_of HT_.out (by kernel_rfl)) (fun _ _ _ h => h) (Or.inl ⟨by rfl, ?_⟩) ?_ ?_
              rotate_left
              · intro w'
                go_simp
                with_reducible rfl
              rotate_left
              · simp only [Act.put, List.setIfInBounds_toArray, List.set_cons_zero, List.set_cons_succ, i64_w, i32_w]
                rfl
              refine pure_ (i := 6) (N := some 19) (v := ?_) (a' := ?_) #[true, true, true, true, false, true, true, false, false, false, false, false, false] rfl rfl (any_of HT_.out (by kernel_rfl)) (fun _ _ _ h => h) (Or.inl ⟨by rfl, ?_⟩) ?_ ?_
              rotate_left
              · intro w'
                go_simp
                with_reducible rfl
              rotate_left
              · simp only [Act.put, List.setIfInBounds_toArray, List.set_cons_zero, List.set_cons_succ, i64_w, i32_w]
                rfl
              refine pure_ (i := 7) (N := some 20) (v := ?_) (a' := ?_) #[true, true, true, true, false, true, true, true, false, false, false, false, false] rfl rfl (any_of HT_.out (by kernel_rfl)) (fun _ _ _ h => h) (Or.inl ⟨by rfl, ?_⟩) ?_ ?_
              rotate_left
              · intro w'
                go_simp
                with_reducible rfl
              rotate_left
              · simp only [Act.put, List.setIfInBounds_toArray, List.set_cons_zero, List.set_cons_succ, i64_w, i32_w]
                rfl
              refine pure_ (i := 11) (N := some 24) (v := ?_) (a' := ?_) #[true, true, true, true, false, true, true, true, false, false, false, true, false] rfl rfl (any_of HT_.out (by kernel_rfl)) (fun _ _ _ h => h) (Or.inl ⟨by rfl, ?_⟩) ?_ ?_
              rotate_left
              · intro w'
                go_simp
                with_reducible rfl
              rotate_left
              · simp only [Act.put, List.setIfInBounds_toArray, List.set_cons_zero, List.set_cons_succ, i64_w, i32_w]
                rfl
              refine take_ (i := 4) (N := some 17) (v := ?_) (a' := ?_) #[true, true, true, true, true, true, true, true, false, false, false, true, false] rfl rfl (take_ofW HT_.out HW_.out (by kernel_rfl)) (fun _ _ _ h => h) (Or.inl ⟨by rfl, ?_⟩) hHeld ?_ ?_
              rotate_left
              · rintro w' ⟨s0, s1, s2, s3, s4, s5, s6, s7, s8, s9, s10, s11, s12, s13, s14, s15, s16, s17⟩
                go_simp
                with_reducible rfl
              rotate_left
              · simp only [Act.put, List.setIfInBounds_toArray, List.set_cons_zero, List.set_cons_succ, i64_w, i32_w]
                rfl
              refine take_ (i := 8) (N := some 21) (v := ?_) (a' := ?_) #[true, true, true, true, true, true, true, true, true, false, false, true, false] rfl rfl (take_ofW HT_.out HW_.out (by kernel_rfl)) (fun _ _ _ h => h) (Or.inl ⟨by rfl, ?_⟩) hHeld ?_ ?_
              rotate_left
              · rintro w' ⟨s0, s1, s2, s3, s4, s5, s6, s7, s8, s9, s10, s11, s12, s13, s14, s15, s16, s17⟩
                go_simp
                with_reducible rfl
              rotate_left
              · simp only [Act.put, List.setIfInBounds_toArray, List.set_cons_zero, List.set_cons_succ, i64_w, i32_w]
                rfl
              refine one_ (i := 9) (N := some 22) #[true, true, true, true, true, true, true, true, true, true, false, true, false] rfl rfl (one_of HT_.out (by kernel_rfl)) (by decide) (fun K hK => ?_)
              refine goes_ Try.func21 (by kernel_rfl) rfl #[.agg #[.int .i64 ((rd_T41 l0 x7_1).f0), .int .i64 ((rd_T41 l0 x7_1).f1), .int .u64 ((rd_T41 l0 x7_1).f2), .int .i64 ((rd_T41 l0 x7_1).f3), .int .i64 ((rd_T41 l0 x7_1).f4), .bool ((rd_T41 l0 x7_1).f5), .bool ((rd_T41 l0 x7_1).f6), .bool ((rd_T41 l0 x7_1).f7), .slice A152_8 ((rd_T41 l0 x7_1).f8).length c152_8]] (by rfl) rfl rfl (by (try simp only [List.map_toArray, List.map_cons, List.map_nil]); first | done | rfl | (simp only [List.length_drop, List.length_take]; rfl)) ?_
              with_reducible refine (penstockref07_Size.calls ((rd_T41 l0 x7_1).f0) ((rd_T41 l0 x7_1).f1) ((rd_T41 l0 x7_1).f2) ((rd_T41 l0 x7_1).f3) ((rd_T41 l0 x7_1).f4) ((rd_T41 l0 x7_1).f5) ((rd_T41 l0 x7_1).f6) ((rd_T41 l0 x7_1).f7) _ _ ((rd_T41 l0 x7_1).f8) t154 _ ?side1 ?side2 A7.out).mono ?_
              (case side1 => repeat (first | exact (Kd.C_below HR153_8.out HB.out) | (with_reducible refine Kd.C_alloc ?_ _) | (with_reducible refine Kd.C_drewN ?_ _) | (with_reducible refine Kd.C_drew ?_)))
              (case side2 => exact HC153_8.out)
              rintro e w10 ⟨rfl, hb⟩
              refine ⟨_, rfl, ?_⟩
              have n0_ := Aside0.mk (below_step (by repeat (first | (with_reducible first | exact HB.out | apply below_alloc | apply pw_below_drewN | apply below_drew1) | exact HB.out)) hb)
              clear HB
              have HB := n0_
              clear n0_
              (try clear hb)
              (try clear hb2)
              (try clear hk)
              (try clear hi)
              refine hK.out _ _ ⟨((HB.out.cell (World.block_lt_of_cell? w _ hw152_0)).trans hw152_0), ((HB.out.cell (World.block_lt_of_cell? w _ hw152_1)).trans hw152_1), ((HB.out.cell (World.block_lt_of_cell? w _ hw152_2)).trans hw152_2), ((HB.out.cell (World.block_lt_of_cell? w _ hw152_3)).trans hw152_3), ((HB.out.cell (World.block_lt_of_cell? w _ hw152_4)).trans hw152_4), ((HB.out.cell (World.block_lt_of_cell? w _ hw152_5)).trans hw152_5), ((HB.out.cell (World.block_lt_of_cell? w _ hw152_6)).trans hw152_6), ((HB.out.cell (World.block_lt_of_cell? w _ hw152_7)).trans hw152_7), ((HB.out.cell (World.block_lt_of_cell? w _ hw152_8)).trans hw152_8), ((HB.out.cell (World.block_lt_of_cell? w _ hw153_0)).trans hw153_0), ((HB.out.cell (World.block_lt_of_cell? w _ hw153_1)).trans hw153_1), ((HB.out.cell (World.block_lt_of_cell? w _ hw153_2)).trans hw153_2), ((HB.out.cell (World.block_lt_of_cell? w _ hw153_3)).trans hw153_3), ((HB.out.cell (World.block_lt_of_cell? w _ hw153_4)).trans hw153_4), ((HB.out.cell (World.block_lt_of_cell? w _ hw153_5)).trans hw153_5), ((HB.out.cell (World.block_lt_of_cell? w _ hw153_6)).trans hw153_6), ((HB.out.cell (World.block_lt_of_cell? w _ hw153_7)).trans hw153_7), ((HB.out.cell (World.block_lt_of_cell? w _ hw153_8)).trans hw153_8)⟩ (fun hHeld => ?_)
              clear hK K
              refine norm_ (a' := ?_) ?_ ?_
              rotate_left
              · show Act.put _ (some 22) _ = _
                simp only [Act.put, List.setIfInBounds_toArray, List.set_cons_zero, List.set_cons_succ, i64_w, i32_w]
                rfl
              refine pure_ (i := 10) (N := some 23) (v := ?_) (a' := ?_) #[true, true, true, true, true, true, true, true, true, true, true, true, false] rfl rfl (any_of HT_.out (by kernel_rfl)) (fun _ _ _ h => h) (Or.inl ⟨by rfl, ?_⟩) ?_ ?_
              rotate_left
              · intro w'
                go_simp
                with_reducible rfl
              rotate_left
              · simp only [Act.put, List.setIfInBounds_toArray, List.set_cons_zero, List.set_cons_succ, i64_w, i32_w]
                rfl
              refine pure_ (i := 12) (N := some 25) (v := ?_) (a' := ?_) #[true, true, true, true, true, true, true, true, true, true, true, true, true] rfl rfl (any_of HT_.out (by kernel_rfl)) (fun _ _ _ h => h) (Or.inl ⟨by rfl, ?_⟩) ?_ ?_
              rotate_left
              · intro w'
                go_simp
                with_reducible rfl
              rotate_left
              · simp only [Act.put, List.setIfInBounds_toArray, List.set_cons_zero, List.set_cons_succ, i64_w, i32_w]
                rfl
              refine done_ (done_of HT_.out (by kernel_rfl)) ?_
              try go_wp2
              go_ret
              exact ⟨by first | rfl | (simp [errW_none, errW_some] <;> rfl) | (simp [*, errW_none, errW_some] <;> rfl), by repeat (first | (with_reducible first | exact HB.out | apply below_alloc | apply pw_below_drewN | apply below_drew1) | exact HB.out)⟩
            · rw [if_neg c8] at H
              have c8b0 : decide (a1 < (wrap64 (((rd_T41 l0 x7_1).f0) + t154))) = false := decide_eq_false c8
              clear c8
              have H' := Aside0.mk H
              clear H
              try go_wp2
              have n0_ := Aside0.mk (below_drew1 HB.out)
              clear HB
              have HB := n0_
              clear n0_
              have p152 : 0 ≤ (x7_1 : Int) := of_decide_eq_true (by first | (with_reducible assumption) | assumption)
              have q152 : x7_1 < (l0.length : Int) := of_decide_eq_true (by first | (with_reducible assumption) | assumption)
              obtain ⟨ad152, A152_8, c152_8, e152, hx152_0, hx152_1, hx152_2, hx152_3, hx152_4, hx152_5, hx152_6, hx152_7, hx152_8, hl152_8, hi152_8⟩ := at_T41 HR0.out x7_1 p152 q152
              have hw152_8 := hx152_8
              have hw152_7 := hx152_7
              have hw152_6 := hx152_6
              have hw152_5 := hx152_5
              have hw152_4 := hx152_4
              have hw152_3 := hx152_3
              have hw152_2 := hx152_2
              have hw152_1 := hx152_1
              have hw152_0 := hx152_0
              cases e152
              replace hx152_0 := (HB.out.cell (World.block_lt_of_cell? w _ hx152_0)).trans hx152_0
              replace hx152_1 := (HB.out.cell (World.block_lt_of_cell? w _ hx152_1)).trans hx152_1
              replace hx152_2 := (HB.out.cell (World.block_lt_of_cell? w _ hx152_2)).trans hx152_2
              replace hx152_3 := (HB.out.cell (World.block_lt_of_cell? w _ hx152_3)).trans hx152_3
              replace hx152_4 := (HB.out.cell (World.block_lt_of_cell? w _ hx152_4)).trans hx152_4
              replace hx152_5 := (HB.out.cell (World.block_lt_of_cell? w _ hx152_5)).trans hx152_5
              replace hx152_6 := (HB.out.cell (World.block_lt_of_cell? w _ hx152_6)).trans hx152_6
              replace hx152_7 := (HB.out.cell (World.block_lt_of_cell? w _ hx152_7)).trans hx152_7
              replace hx152_8 := (HB.out.cell (World.block_lt_of_cell? w _ hx152_8)).trans hx152_8
              have HR152_8 := Aside0.mk hi152_8
              have HC152_8 := Aside0.mk hl152_8
              clear hi152_8 hl152_8
              replace p152 := eq_true p152
              replace q152 := eq_true q152
              have p153 : 0 ≤ (x7_1 : Int) := of_decide_eq_true (by first | (with_reducible assumption) | assumption)
              have q153 : x7_1 < (l0.length : Int) := of_decide_eq_true (by first | (with_reducible assumption) | assumption)
              obtain ⟨ad153, A153_8, c153_8, e153, hx153_0, hx153_1, hx153_2, hx153_3, hx153_4, hx153_5, hx153_6, hx153_7, hx153_8, hl153_8, hi153_8⟩ := at_T41 HR0.out x7_1 p153 q153
              have hw153_8 := hx153_8
              have hw153_7 := hx153_7
              have hw153_6 := hx153_6
              have hw153_5 := hx153_5
              have hw153_4 := hx153_4
              have hw153_3 := hx153_3
              have hw153_2 := hx153_2
              have hw153_1 := hx153_1
              have hw153_0 := hx153_0
              obtain rfl : ad152 = ad153 := (by injection e153)
              replace hx153_0 := (HB.out.cell (World.block_lt_of_cell? w _ hx153_0)).trans hx153_0
              replace hx153_1 := (HB.out.cell (World.block_lt_of_cell? w _ hx153_1)).trans hx153_1
              replace hx153_2 := (HB.out.cell (World.block_lt_of_cell? w _ hx153_2)).trans hx153_2
              replace hx153_3 := (HB.out.cell (World.block_lt_of_cell? w _ hx153_3)).trans hx153_3
              replace hx153_4 := (HB.out.cell (World.block_lt_of_cell? w _ hx153_4)).trans hx153_4
              replace hx153_5 := (HB.out.cell (World.block_lt_of_cell? w _ hx153_5)).trans hx153_5
              replace hx153_6 := (HB.out.cell (World.block_lt_of_cell? w _ hx153_6)).trans hx153_6
              replace hx153_7 := (HB.out.cell (World.block_lt_of_cell? w _ hx153_7)).trans hx153_7
              replace hx153_8 := (HB.out.cell (World.block_lt_of_cell? w _ hx153_8)).trans hx153_8
              have HR153_8 := Aside0.mk hi153_8
              have HC153_8 := Aside0.mk hl153_8
              clear hi153_8 hl153_8
              replace p153 := eq_true p153
              replace q153 := eq_true q153
              have ea_ := Option.some.inj (hx152_8.symm.trans hx153_8)
              injection ea_ with ea_ en_ ec_
              subst ea_
              subst ec_
              clear en_
              refine start_ (n := 13) (S := fun w' => w'.cell? (ad152.add ((x7_1).toNat * 9)) = some (.int .i64 ((rd_T41 l0 x7_1).f0)) ∧ w'.cell? ⟨(ad152.add ((x7_1).toNat * 9)).block, (ad152.add ((x7_1).toNat * 9)).off + 1, none⟩ = some (.int .i64 ((rd_T41 l0 x7_1).f1)) ∧ w'.cell? ⟨(ad152.add ((x7_1).toNat * 9)).block, (ad152.add ((x7_1).toNat * 9)).off + 2, none⟩ = some (.int .u64 ((rd_T41 l0 x7_1).f2)) ∧ w'.cell? ⟨(ad152.add ((x7_1).toNat * 9)).block, (ad152.add ((x7_1).toNat * 9)).off + 3, none⟩ = some (.int .i64 ((rd_T41 l0 x7_1).f3)) ∧ w'.cell? ⟨(ad152.add ((x7_1).toNat * 9)).block, (ad152.add ((x7_1).toNat * 9)).off + 4, none⟩ = some (.int .i64 ((rd_T41 l0 x7_1).f4)) ∧ w'.cell? ⟨(ad152.add ((x7_1).toNat * 9)).block, (ad152.add ((x7_1).toNat * 9)).off + 5, none⟩ = some (.bool ((rd_T41 l0 x7_1).f5)) ∧ w'.cell? ⟨(ad152.add ((x7_1).toNat * 9)).block, (ad152.add ((x7_1).toNat * 9)).off + 6, none⟩ = some (.bool ((rd_T41 l0 x7_1).f6)) ∧ w'.cell? ⟨(ad152.add ((x7_1).toNat * 9)).block, (ad152.add ((x7_1).toNat * 9)).off + 7, none⟩ = some (.bool ((rd_T41 l0 x7_1).f7)) ∧ w'.cell? ⟨(ad152.add ((x7_1).toNat * 9)).block, (ad152.add ((x7_1).toNat * 9)).off + 8, none⟩ = some (.slice A152_8 ((rd_T41 l0 x7_1).f8).length c152_8) ∧ w'.cell? (ad152.add ((x7_1).toNat * 9)) = some (.int .i64 ((rd_T41 l0 x7_1).f0)) ∧ w'.cell? ⟨(ad152.add ((x7_1).toNat * 9)).block, (ad152.add ((x7_1).toNat * 9)).off + 1, none⟩ = some (.int .i64 ((rd_T41 l0 x7_1).f1)) ∧ w'.cell? ⟨(ad152.add ((x7_1).toNat * 9)).block, (ad152.add ((x7_1).toNat * 9)).off + 2, none⟩ = some (.int .u64 ((rd_T41 l0 x7_1).f2)) ∧ w'.cell? ⟨(ad152.add ((x7_1).toNat * 9)).block, (ad152.add ((x7_1).toNat * 9)).off + 3, none⟩ = some (.int .i64 ((rd_T41 l0 x7_1).f3)) ∧ w'.cell? ⟨(ad152.add ((x7_1).toNat * 9)).block, (ad152.add ((x7_1).toNat * 9)).off + 4, none⟩ = some (.int .i64 ((rd_T41 l0 x7_1).f4)) ∧ w'.cell? ⟨(ad152.add ((x7_1).toNat * 9)).block, (ad152.add ((x7_1).toNat * 9)).off + 5, none⟩ = some (.bool ((rd_T41 l0 x7_1).f5)) ∧ w'.cell? ⟨(ad152.add ((x7_1).toNat * 9)).block, (ad152.add ((x7_1).toNat * 9)).off + 6, none⟩ = some (.bool ((rd_T41 l0 x7_1).f6)) ∧ w'.cell? ⟨(ad152.add ((x7_1).toNat * 9)).block, (ad152.add ((x7_1).toNat * 9)).off + 7, none⟩ = some (.bool ((rd_T41 l0 x7_1).f7)) ∧ w'.cell? ⟨(ad152.add ((x7_1).toNat * 9)).block, (ad152.add ((x7_1).toNat * 9)).off + 8, none⟩ = some (.slice A152_8 ((rd_T41 l0 x7_1).f8).length c152_8)) (ds := []) #[false, false, false, false, false, false, false, false, false, false, false, false, false] (by kernel_rfl) rfl rfl ⟨((HB.out.cell (World.block_lt_of_cell? w _ hw152_0)).trans hw152_0), ((HB.out.cell (World.block_lt_of_cell? w _ hw152_1)).trans hw152_1), ((HB.out.cell (World.block_lt_of_cell? w _ hw152_2)).trans hw152_2), ((HB.out.cell (World.block_lt_of_cell? w _ hw152_3)).trans hw152_3), ((HB.out.cell (World.block_lt_of_cell? w _ hw152_4)).trans hw152_4), ((HB.out.cell (World.block_lt_of_cell? w _ hw152_5)).trans hw152_5), ((HB.out.cell (World.block_lt_of_cell? w _ hw152_6)).trans hw152_6), ((HB.out.cell (World.block_lt_of_cell? w _ hw152_7)).trans hw152_7), ((HB.out.cell (World.block_lt_of_cell? w _ hw152_8)).trans hw152_8), ((HB.out.cell (World.block_lt_of_cell? w _ hw153_0)).trans hw153_0), ((HB.out.cell (World.block_lt_of_cell? w _ hw153_1)).trans hw153_1), ((HB.out.cell (World.block_lt_of_cell? w _ hw153_2)).trans hw153_2), ((HB.out.cell (World.block_lt_of_cell? w _ hw153_3)).trans hw153_3), ((HB.out.cell (World.block_lt_of_cell? w _ hw153_4)).trans hw153_4), ((HB.out.cell (World.block_lt_of_cell? w _ hw153_5)).trans hw153_5), ((HB.out.cell (World.block_lt_of_cell? w _ hw153_6)).trans hw153_6), ((HB.out.cell (World.block_lt_of_cell? w _ hw153_7)).trans hw153_7), ((HB.out.cell (World.block_lt_of_cell? w _ hw153_8)).trans hw153_8)⟩ (fun hHeld => ?_); refine with_tabW penstockref21_below.tab4 penstockref21_below.bits4 (fun HT_ HW_ => ?_)
              generalize wr.drew = w11 at HB HR152_8 HR153_8 hx152_0 hx152_1 hx152_2 hx152_3 hx152_4 hx152_5 hx152_6 hx152_7 hx152_8 hx153_0 hx153_1 hx153_2 hx153_3 hx153_4 hx153_5 hx153_6 hx153_7 hx153_8 hHeld ⊢
              refine pure_ (i := 0) (N := some 13) (v := ?_) (a' := ?_) #[true, false, false, false, false, false, false, false, false, false, false, false, false] rfl rfl (any_of HT_.out (by kernel_rfl)) (fun _ _ _ h => h) (Or.inl ⟨by rfl, ?_⟩) ?_ ?_
              rotate_left
              · intro w'
                go_simp
                with_reducible rfl
              rotate_left
              · simp only [Act.put, List.setIfInBounds_toArray, List.set_cons_zero, List.set_cons_succ, i64_w, i32_w]
                rfl
              refine pure_ (i := 1) (N := some 14) (v := ?_) (a' := ?_) #[true, true, false, false, false, false, false, false, false, false, false, false, false] rfl rfl (any_of HT_.out (by kernel_rfl)) (fun _ _ _ h => h) (Or.inl ⟨by rfl, ?_⟩) ?_ ?_
              rotate_left
              · intro w'
                go_simp
                with_reducible rfl
              rotate_left
              · simp only [Act.put, List.setIfInBounds_toArray, List.set_cons_zero, List.set_cons_succ, i64_w, i32_w]
                rfl
              refine pure_ (i := 2) (N := some 15) (v := ?_) (a' := ?_) #[true, true, true, false, false, false, false, false, false, false, false, false, false] rfl rfl (any_of HT_.out (by kernel_rfl)) (fun _ _ _ h => h) (Or.inl ⟨by rfl, ?_⟩) ?_ ?_
              rotate_left
              · intro w'
                go_simp
                with_reducible rfl
              rotate_left
              · simp only [Act.put, List.setIfInBounds_toArray, List.set_cons_zero, List.set_cons_succ, i64_w, i32_w]
                rfl
              refine pure_ (i := 3) (N := some 16) (v := ?_) (a' := ?_) #[true, true, true, true, false, false, false, false, false, false, false, false, false] rfl rfl (any_of HT_.out (by kernel_rfl)) (fun _ _ _ h => h) (Or.inl ⟨by rfl, ?_⟩) ?_ ?_
              rotate_left
              · intro w'
                go_simp
                with_reducible rfl
              rotate_left
              · simp only [Act.put, List.setIfInBounds_toArray, List.set_cons_zero, List.set_cons_succ, i64_w, i32_w]
                rfl
              refine pure_ (i := 5) (N := some 18) (v := ?_) (a' := ?_) #[true, true, true, true, false, true, false, false, false, false, false, false, false] rfl rfl (any_of HT_.out (by kernel_rfl)) (fun _ _ _ h => h) (Or.inl ⟨by rfl, ?_⟩) ?_ ?_
              rotate_left
              · intro w'
                go_simp
                with_reducible rfl
              rotate_left
              · simp only [Act.put, List.setIfInBounds_toArray, List.set_cons_zero, List.set_cons_succ, i64_w, i32_w]
                rfl
              refine pure_ (i := 6) (N := some 19) (v := ?_) (a' := ?_) #[true, true, true, true, false, true, true, false, false, false, false, false, false] rfl rfl (any_of HT_.out (by kernel_rfl)) (fun _ _ _ h => h) (Or.inl ⟨by rfl, ?_⟩) ?_ ?_
              rotate_left
              · intro w'
                go_simp
                with_reducible rfl
              rotate_left
              · simp only [Act.put, List.setIfInBounds_toArray, List.set_cons_zero, List.set_cons_succ, i64_w, i32_w]
                rfl
              refine pure_ (i := 7) (N := some 20) (v := ?_) (a' := ?_) #[true, true, true, true, false, true, true, true, false, false, false, false, false] rfl rfl (any_of HT_.out (by kernel_rfl)) (fun _ _ _ h => h) (Or.inl ⟨by rfl, ?_⟩) ?_ ?_
              rotate_left
              · intro w'
                go_simp
                with_reducible rfl
              rotate_left
              · simp only [Act.put, List.setIfInBounds_toArray, List.set_cons_zero, List.set_cons_succ, i64_w, i32_w]
                rfl
              refine pure_ (i := 11) (N := some 24) (v := ?_) (a' := ?_) #[true, true, true, true, false, true, true, true, false, false, false, true, false] rfl rfl (any_of HT_.out (by kernel_rfl)) (fun _ _ _ h => h) (Or.inl ⟨by rfl, ?_⟩) ?_ ?_
              rotate_left
              · intro w'
                go_simp
                with_reducible rfl
              rotate_left
              · simp only [Act.put, List.setIfInBounds_toArray, List.set_cons_zero, List.set_cons_succ, i64_w, i32_w]
                rfl
              refine take_ (i := 4) (N := some 17) (v := ?_) (a' := ?_) #[true, true, true, true, true, true, true, true, false, false, false, true, false] rfl rfl (take_ofW HT_.out HW_.out (by kernel_rfl)) (fun _ _ _ h => h) (Or.inl ⟨by rfl, ?_⟩) hHeld ?_ ?_
              rotate_left
              · rintro w' ⟨s0, s1, s2, s3, s4, s5, s6, s7, s8, s9, s10, s11, s12, s13, s14, s15, s16, s17⟩
                go_simp
                with_reducible rfl
              rotate_left
              · simp only [Act.put, List.setIfInBounds_toArray, List.set_cons_zero, List.set_cons_succ, i64_w, i32_w]
                rfl
              refine take_ (i := 8) (N := some 21) (v := ?_) (a' := ?_) #[true, true, true, true, true, true, true, true, true, false, false, true, false] rfl rfl (take_ofW HT_.out HW_.out (by kernel_rfl)) (fun _ _ _ h => h) (Or.inl ⟨by rfl, ?_⟩) hHeld ?_ ?_
              rotate_left
              · rintro w' ⟨s0, s1, s2, s3, s4, s5, s6, s7, s8, s9, s10, s11, s12, s13, s14, s15, s16, s17⟩
                go_simp
                with_reducible rfl
              rotate_left
              · simp only [Act.put, List.setIfInBounds_toArray, List.set_cons_zero, List.set_cons_succ, i64_w, i32_w]
                rfl
              refine one_ (i := 9) (N := some 22) #[true, true, true, true, true, true, true, true, true, true, false, true, false] rfl rfl (one_of HT_.out (by kernel_rfl)) (by decide) (fun K hK => ?_)
              refine goes_ Try.func21 (by kernel_rfl) rfl #[.agg #[.int .i64 ((rd_T41 l0 x7_1).f0), .int .i64 ((rd_T41 l0 x7_1).f1), .int .u64 ((rd_T41 l0 x7_1).f2), .int .i64 ((rd_T41 l0 x7_1).f3), .int .i64 ((rd_T41 l0 x7_1).f4), .bool ((rd_T41 l0 x7_1).f5), .bool ((rd_T41 l0 x7_1).f6), .bool ((rd_T41 l0 x7_1).f7), .slice A152_8 ((rd_T41 l0 x7_1).f8).length c152_8]] (by rfl) rfl rfl (by (try simp only [List.map_toArray, List.map_cons, List.map_nil]); first | done | rfl | (simp only [List.length_drop, List.length_take]; rfl)) ?_
              with_reducible refine (penstockref07_Size.calls ((rd_T41 l0 x7_1).f0) ((rd_T41 l0 x7_1).f1) ((rd_T41 l0 x7_1).f2) ((rd_T41 l0 x7_1).f3) ((rd_T41 l0 x7_1).f4) ((rd_T41 l0 x7_1).f5) ((rd_T41 l0 x7_1).f6) ((rd_T41 l0 x7_1).f7) _ _ ((rd_T41 l0 x7_1).f8) t154 _ ?side1 ?side2 A7.out).mono ?_
              (case side1 => repeat (first | exact (Kd.C_below HR153_8.out HB.out) | (with_reducible refine Kd.C_alloc ?_ _) | (with_reducible refine Kd.C_drewN ?_ _) | (with_reducible refine Kd.C_drew ?_)))
              (case side2 => exact HC153_8.out)
              rintro e w12 ⟨rfl, hb⟩
              refine ⟨_, rfl, ?_⟩
              have n0_ := Aside0.mk (below_step (by repeat (first | (with_reducible first | exact HB.out | apply below_alloc | apply pw_below_drewN | apply below_drew1) | exact HB.out)) hb)
              clear HB
              have HB := n0_
              clear n0_
              (try clear hb)
              (try clear hb2)
              (try clear hk)
              (try clear hi)
              refine hK.out _ _ ⟨((HB.out.cell (World.block_lt_of_cell? w _ hw152_0)).trans hw152_0), ((HB.out.cell (World.block_lt_of_cell? w _ hw152_1)).trans hw152_1), ((HB.out.cell (World.block_lt_of_cell? w _ hw152_2)).trans hw152_2), ((HB.out.cell (World.block_lt_of_cell? w _ hw152_3)).trans hw152_3), ((HB.out.cell (World.block_lt_of_cell? w _ hw152_4)).trans hw152_4), ((HB.out.cell (World.block_lt_of_cell? w _ hw152_5)).trans hw152_5), ((HB.out.cell (World.block_lt_of_cell? w _ hw152_6)).trans hw152_6), ((HB.out.cell (World.block_lt_of_cell? w _ hw152_7)).trans hw152_7), ((HB.out.cell (World.block_lt_of_cell? w _ hw152_8)).trans hw152_8), ((HB.out.cell (World.block_lt_of_cell? w _ hw153_0)).trans hw153_0), ((HB.out.cell (World.block_lt_of_cell? w _ hw153_1)).trans hw153_1), ((HB.out.cell (World.block_lt_of_cell? w _ hw153_2)).trans hw153_2), ((HB.out.cell (World.block_lt_of_cell? w _ hw153_3)).trans hw153_3), ((HB.out.cell (World.block_lt_of_cell? w _ hw153_4)).trans hw153_4), ((HB.out.cell (World.block_lt_of_cell? w _ hw153_5)).trans hw153_5), ((HB.out.cell (World.block_lt_of_cell? w _ hw153_6)).trans hw153_6), ((HB.out.cell (World.block_lt_of_cell? w _ hw153_7)).trans hw153_7), ((HB.out.cell (World.block_lt_of_cell? w _ hw153_8)).trans hw153_8)⟩ (fun hHeld => ?_)
              clear hK K
              refine norm_ (a' := ?_) ?_ ?_
              rotate_left
              · show Act.put _ (some 22) _ = _
                simp only [Act.put, List.setIfInBounds_toArray, List.set_cons_zero, List.set_cons_succ, i64_w, i32_w]
                rfl
              refine pure_ (i := 10) (N := some 23) (v := ?_) (a' := ?_) #[true, true, true, true, true, true, true, true, true, true, true, true, false] rfl rfl (any_of HT_.out (by kernel_rfl)) (fun _ _ _ h => h) (Or.inl ⟨by rfl, ?_⟩) ?_ ?_
              rotate_left
              · intro w'
                go_simp
                with_reducible rfl
              rotate_left
              · simp only [Act.put, List.setIfInBounds_toArray, List.set_cons_zero, List.set_cons_succ, i64_w, i32_w]
                rfl
              refine pure_ (i := 12) (N := some 25) (v := ?_) (a' := ?_) #[true, true, true, true, true, true, true, true, true, true, true, true, true] rfl rfl (any_of HT_.out (by kernel_rfl)) (fun _ _ _ h => h) (Or.inl ⟨by rfl, ?_⟩) ?_ ?_
              rotate_left
              · intro w'
                go_simp
                with_reducible rfl
              rotate_left
              · simp only [Act.put, List.setIfInBounds_toArray, List.set_cons_zero, List.set_cons_succ, i64_w, i32_w]
                rfl
              refine done_ (done_of HT_.out (by kernel_rfl)) ?_
              try go_wp2
              go_roundg k1
              case measure => have := HK1.out; omega
              case rel => exact ⟨(wrap64 (x7_1 + 1)), (by first | rfl | (simp; done) | (simp [*]; done)), H', ⟨by have := HK1.out; omega⟩, ⟨by repeat (first | (with_reducible first | exact HB.out | apply below_alloc | apply pw_below_drewN | apply below_drew1) | exact HB.out)⟩⟩
          · rw [if_neg c6] at H
            exact absurd H (by simp)
        · rw [if_neg c5] at H
          exact absurd H (by simp)
      · rw [if_neg c4] at H
        have c4b0 : decide (x7_1 ≤ a2) = false := decide_eq_false c4
        clear c4
        obtain rfl := Option.some.inj H
        go_wp2
        go_ret
        exact ⟨by first | rfl | (simp [errW_none, errW_some] <;> rfl) | (simp [*, errW_none, errW_some] <;> rfl), by repeat (first | (with_reducible first | exact HB.out | apply below_alloc | apply pw_below_drewN | apply below_drew1) | exact HB.out)⟩

end Go.Proofs.Ytnbdlkjphdfkpaa.H

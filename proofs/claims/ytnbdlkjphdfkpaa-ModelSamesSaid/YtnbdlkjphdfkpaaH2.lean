/- Contracts of the helpers of layer 21, as the kit's printer writes them; one namespace for all laws. No conditions. -/
import Derived.Test.YtnbdlkjphdfkpaaH1
namespace Go.Proofs.Ytnbdlkjphdfkpaa.H
open Go.RowKit Go.Proofs.YtnbdlkjphdfkpaaW.PrintWords Go.Proofs.YtnbdlkjphdfkpaaW.PrintLast Go.Proofs.YtnbdlkjphdfkpaaW.PrintMore
attribute [local go_sem] max2_int min2_int max_two min_two max_three min_three max_four min_four   -- for this text's walks alone
set_option linter.unusedVariables false
set_option linter.unusedSimpArgs false

/-! ### penstocklaw21_log: function 10 -/
def penstocklaw21_log.l0 : Nat → Int → List (S41) → Int → Int → Option ((List (S41)))
  | 0, _, _, _, _ => none
  | k + 1, x3, x4, x9, x10 => if x10 < x9 then (if 0 ≤ x10 then (if x10 < (x4.length : Int) then ((some (x4.set (x10 : Int).toNat (⟨x3, (rd_T41 x4 x10).f1, (rd_T41 x4 x10).f2, (rd_T41 x4 x10).f3, (rd_T41 x4 x10).f4, (rd_T41 x4 x10).f5, (rd_T41 x4 x10).f6, (rd_T41 x4 x10).f7, (rd_T41 x4 x10).f8⟩ : S41) : List (S41))).bind fun y143 => ((penstockref07_Size.f ((rd_T41 y143 x10).f0) ((rd_T41 y143 x10).f1) ((rd_T41 y143 x10).f2) ((rd_T41 y143 x10).f3) ((rd_T41 y143 x10).f4) ((rd_T41 y143 x10).f5) ((rd_T41 y143 x10).f6) ((rd_T41 y143 x10).f7) ((rd_T41 y143 x10).f8)).bind fun t145 => (penstocklaw21_log.l0 k (wrap64 (x3 + t145)) y143 x9 (wrap64 (x10 + 1))))) else (none)) else (none)) else (some x4)
def penstocklaw21_log.f (k : Nat) (l0 : List (S41)) : Option ((List (S41))) := (penstocklaw21_copied.f k l0).bind fun t140 => (penstocklaw21_log.l0 k 0 t140 (t140.length : Int) 0)
theorem penstocklaw21_log.mono_l : ∀ k, (∀ y0 y1 y2 y3, LeO (penstocklaw21_log.l0 k y0 y1 y2 y3) (penstocklaw21_log.l0 (k + 1) y0 y1 y2 y3))
  | 0 => fun _ _ _ _ r h => by simp [penstocklaw21_log.l0] at h
  | k + 1 => by
    have ih0 := penstocklaw21_log.mono_l k
    · intro y0 y1 y2 y3
      unfold penstocklaw21_log.l0
      repeat' first
      | (with_reducible exact ih0 _ _ _ _)
      | (with_reducible exact penstocklaw21_copied.mono _ _)
      | (with_reducible exact LeO.refl _)
      | (with_reducible exact LeO.none _)
      | (with_reducible refine LeO.ite ?_ ?_)
      | (with_reducible refine LeO.bind ?_ (fun _ => ?_))
      | exact ih0 _ _ _ _
      | exact penstocklaw21_copied.mono _ _
      | exact LeO.none _
      | refine LeO.ite ?_ ?_
      | refine LeO.bind ?_ (fun _ => ?_)
theorem penstocklaw21_log.mono : ∀ a0 k, LeO (penstocklaw21_log.f k a0) (penstocklaw21_log.f (k + 1) a0) := by
  intro a0 k
  have ih0 := penstocklaw21_log.mono_l k
  unfold penstocklaw21_log.f
  repeat' first
      | (with_reducible exact ih0 _ _ _ _)
      | (with_reducible exact penstocklaw21_copied.mono _ _)
      | (with_reducible exact LeO.refl _)
      | (with_reducible exact LeO.none _)
      | (with_reducible refine LeO.ite ?_ ?_)
      | (with_reducible refine LeO.bind ?_ (fun _ => ?_))
      | exact ih0 _ _ _ _
      | exact penstocklaw21_copied.mono _ _
      | exact LeO.none _
      | refine LeO.ite ?_ ?_
      | refine LeO.bind ?_ (fun _ => ?_)
set_option maxHeartbeats 8000000 in
set_option maxRecDepth 100000 in
theorem penstocklaw21_log.calls (k : Nat) (A0 : Option Addr) (c0 : Nat) (l0 : List (S41)) (r : List (S41)) (w : World) (hr0 : Kd.C k41 w A0 l0.length l0) (hc0 : l0.length ≤ c0) (h : penstocklaw21_log.f k l0 = some r) :
    Calls Try.prog 10 #[.slice A0 l0.length c0] w fun e w' => ∃ v0_ : Value, e = .returned (v0_) ∧ Kd.R k41 41 w' w.heap.size (fun _ => True) v0_ r ∧ Below w.heap.size w w' := by
  have hu41 := Try.underlying41
  have HR0 := Aside0.mk hr0
  have HC0 := Aside0.mk hc0
  clear hr0 hc0
  have HB := Aside0.mk (Below.refl w.heap.size w)
  have H : ((penstocklaw21_copied.f k l0).bind fun t140 => (penstocklaw21_log.l0 k 0 t140 (t140.length : Int) 0)) = some r := h
  clear h
  replace H := Option.bind_eq_some_iff.mp H
  obtain ⟨t140, A20, H⟩ := H
  replace H : (penstocklaw21_log.l0 k 0 t140 (t140.length : Int) 0) = some r := H
  have A2 := Aside0.mk A20
  clear A20
  have H' := Aside0.mk H
  clear H
  go_enter Try.func10, Try.ntmps10
  go_wp2_with (first | ((with_reducible refine gate_callee (f := 9) rfl ?_); refine goesL_ (some 7) rfl rfl Try.func9 (by kernel_rfl) rfl #[.slice A0 l0.length c0] rfl (by (try simp only [List.map_toArray, List.map_cons, List.map_nil]); first | done | rfl | (simp only [List.length_drop, List.length_take]; rfl)) ?_; (with_reducible refine (penstocklaw21_copied.calls k _ _ l0 t140 _ ?side1 ?side2 A2.out).mono ?_); (case side1 => repeat (first | exact HR0.out | (with_reducible refine Kd.C_alloc ?_ _) | (with_reducible refine Kd.C_drewN ?_ _) | (with_reducible refine Kd.C_drew ?_))); (case side2 => exact HC0.out); rintro e w3 ⟨v141, rfl, ho0, hb⟩; refine ⟨_, rfl, ?_⟩; have n0_ := Aside0.mk (Kd.R_lower ho0 (below_size (by repeat (first | (with_reducible first | exact HB.out | apply below_alloc | apply pw_below_drewN | apply below_drew1) | exact HB.out)))); have n1_ := Aside0.mk (below_step (by repeat (first | (with_reducible first | exact HB.out | apply below_alloc | apply pw_below_drewN | apply below_drew1) | exact HB.out)) hb); clear HB; have HO142 := n0_; have HB := n1_; clear n0_ n1_; (try clear hb); (try clear hb2); (try clear hk); (try clear hi); (try clear ho0); obtain ⟨Ao4, co4, eo4⟩ := Kd.R_slice HO142.out; subst eo4))
  go_loopg [3, 10] k (fun kq v3 v10 w' => ∃ (x3_1 : Int) (x4_1 : List (S41)) (x10_1 : Int), v3 = .int .i64 x3_1 ∧ v10 = .int .i64 x10_1 ∧ Aside0 (penstocklaw21_log.l0 kq x3_1 x4_1 (t140.length : Int) x10_1 = some r) ∧ Aside0 (kq ≤ k) ∧ Aside0 (Kd.R k41 41 w' w.heap.size (fun _ => True) (.slice Ao4 t140.length co4) x4_1) ∧ Aside0 (Below w.heap.size w w'))
  case atStart => exact ⟨(0), (t140), (0), (by first | rfl | (simp; done) | (simp [*]; done)), (by first | rfl | (simp; done) | (simp [*]; done)), H', ⟨Nat.le_refl _⟩, ⟨by (with_reducible repeat (first | apply Kd.R_alloc | apply Kd.R_drewN | apply Kd.R_drew)); exact HO142.out⟩, ⟨by repeat (first | (with_reducible first | exact HB.out | apply below_alloc | apply pw_below_drewN | apply below_drew1) | exact HB.out)⟩⟩
  case round =>
    clear H'
    try clear c1
    try clear p2
    obtain ⟨x3_1, x4_1, x10_1, rfl, rfl, HA, HK1, HO_4, HB⟩ := hrel
    have hl4_1 := (Kd.R_reads' HO_4.out).1
    rw [hl4_1] at HO_4
    (try simp only [hl4_1])
    cases gk with
    | zero => exact absurd HA.out (by simp [penstocklaw21_log.l0])
    | succ k1 =>
      have H := HA.out
      clear HA
      simp only [penstocklaw21_log.l0] at H
      by_cases c5 : x10_1 < (t140.length : Int)
      · rw [if_pos c5] at H
        have c5b0 : decide (x10_1 < (t140.length : Int)) = true := decide_eq_true c5
        clear c5
        by_cases c6 : 0 ≤ x10_1
        · rw [if_pos c6] at H
          have c6b0 : decide (0 ≤ x10_1) = true := decide_eq_true c6
          clear c6
          by_cases c7 : x10_1 < (x4_1.length : Int)
          · rw [if_pos c7] at H
            have c7b0 : decide (x10_1 < (x4_1.length : Int)) = true := decide_eq_true c7
            clear c7
            obtain ⟨y143, hy143⟩ : ∃ y_ : List (S41), y_ = (x4_1.set (x10_1 : Int).toNat (⟨x3_1, (rd_T41 x4_1 x10_1).f1, (rd_T41 x4_1 x10_1).f2, (rd_T41 x4_1 x10_1).f3, (rd_T41 x4_1 x10_1).f4, (rd_T41 x4_1 x10_1).f5, (rd_T41 x4_1 x10_1).f6, (rd_T41 x4_1 x10_1).f7, (rd_T41 x4_1 x10_1).f8⟩ : S41)) := ⟨_, rfl⟩
            replace H : ((penstockref07_Size.f ((rd_T41 y143 x10_1).f0) ((rd_T41 y143 x10_1).f1) ((rd_T41 y143 x10_1).f2) ((rd_T41 y143 x10_1).f3) ((rd_T41 y143 x10_1).f4) ((rd_T41 y143 x10_1).f5) ((rd_T41 y143 x10_1).f6) ((rd_T41 y143 x10_1).f7) ((rd_T41 y143 x10_1).f8)).bind fun t145 => (penstocklaw21_log.l0 k1 (wrap64 (x3_1 + t145)) y143 (t140.length : Int) (wrap64 (x10_1 + 1)))) = some r := by first | (rw [hy143]; with_reducible exact H) | (have H2_ := (Option.bind_some _ _).symm.trans H; rw [hy143]; with_reducible exact H2_) | (have H2_ := (Option.bind_some _ _).symm.trans H; with_reducible exact H2_) | with_reducible exact H | (rw [hy143]; exact H) | exact H
            have Ny143 := Aside0.mk hy143
            clear hy143
            replace H := Option.bind_eq_some_iff.mp H
            obtain ⟨t145, A90, H⟩ := H
            replace H : (penstocklaw21_log.l0 k1 (wrap64 (x3_1 + t145)) y143 (t140.length : Int) (wrap64 (x10_1 + 1))) = some r := H
            have A9 := Aside0.mk A90
            clear A90
            have H' := Aside0.mk H
            clear H
            have p8 : 0 ≤ (x10_1 : Int) := of_decide_eq_true (by first | (with_reducible assumption) | assumption)
            have q8 : (x10_1 : Int) < ((x4_1.length : Int) : Int) := of_decide_eq_true (by first | (with_reducible assumption) | assumption)
            obtain ⟨go8, co8, eo8, gb8, gl8, cl8, HG8⟩ := Kd.R_form HO_4.out (by omega)
            (first | cases eo8 | (injection eo8 with ea_ en_ ec_; (first | subst ea_ | (injection ea_ with ea_; subst ea_)); subst ec_; clear en_))
            have GB8 := Aside0.mk gb8
            have GG8 := Aside0.mk HG8
            clear gb8 gl8 HG8
            obtain ⟨ce8, hcl8, hM8, hcc8, hfr8⟩ := Kd.R_elem HO_4.out z41 (x10_1 : Int) p8 q8
            obtain ⟨ve8_8, rfl, ge8_8⟩ := k41_openM hM8
            have hx8_0 : wr.cell? ⟨go8, (x10_1 : Int).toNat * 9, none⟩ = some (.int .i64 ((rd_T41 x4_1 x10_1).f0)) := hcc8 0 _ rfl
            have hx8_1 : wr.cell? ⟨go8, (x10_1 : Int).toNat * 9 + 1, none⟩ = some (.int .i64 ((rd_T41 x4_1 x10_1).f1)) := hcc8 1 _ rfl
            have hx8_2 : wr.cell? ⟨go8, (x10_1 : Int).toNat * 9 + 2, none⟩ = some (.int .u64 ((rd_T41 x4_1 x10_1).f2)) := hcc8 2 _ rfl
            have hx8_3 : wr.cell? ⟨go8, (x10_1 : Int).toNat * 9 + 3, none⟩ = some (.int .i64 ((rd_T41 x4_1 x10_1).f3)) := hcc8 3 _ rfl
            have hx8_4 : wr.cell? ⟨go8, (x10_1 : Int).toNat * 9 + 4, none⟩ = some (.int .i64 ((rd_T41 x4_1 x10_1).f4)) := hcc8 4 _ rfl
            have hx8_5 : wr.cell? ⟨go8, (x10_1 : Int).toNat * 9 + 5, none⟩ = some (.bool ((rd_T41 x4_1 x10_1).f5)) := hcc8 5 _ rfl
            have hx8_6 : wr.cell? ⟨go8, (x10_1 : Int).toNat * 9 + 6, none⟩ = some (.bool ((rd_T41 x4_1 x10_1).f6)) := hcc8 6 _ rfl
            have hx8_7 : wr.cell? ⟨go8, (x10_1 : Int).toNat * 9 + 7, none⟩ = some (.bool ((rd_T41 x4_1 x10_1).f7)) := hcc8 7 _ rfl
            have hx8_8 : wr.cell? ⟨go8, (x10_1 : Int).toNat * 9 + 8, none⟩ = some (ve8_8) := hcc8 8 _ rfl
            have hf8_0 : wr.frozen? ⟨go8, (x10_1 : Int).toNat * 9, none⟩ = false := hfr8 0
            have hf8_1 : wr.frozen? ⟨go8, (x10_1 : Int).toNat * 9 + 1, none⟩ = false := hfr8 1
            have hf8_2 : wr.frozen? ⟨go8, (x10_1 : Int).toNat * 9 + 2, none⟩ = false := hfr8 2
            have hf8_3 : wr.frozen? ⟨go8, (x10_1 : Int).toNat * 9 + 3, none⟩ = false := hfr8 3
            have hf8_4 : wr.frozen? ⟨go8, (x10_1 : Int).toNat * 9 + 4, none⟩ = false := hfr8 4
            have hf8_5 : wr.frozen? ⟨go8, (x10_1 : Int).toNat * 9 + 5, none⟩ = false := hfr8 5
            have hf8_6 : wr.frozen? ⟨go8, (x10_1 : Int).toNat * 9 + 6, none⟩ = false := hfr8 6
            have hf8_7 : wr.frozen? ⟨go8, (x10_1 : Int).toNat * 9 + 7, none⟩ = false := hfr8 7
            have hf8_8 : wr.frozen? ⟨go8, (x10_1 : Int).toNat * 9 + 8, none⟩ = false := hfr8 8
            clear hcl8 hcc8 hfr8 hM8
            replace p8 := eq_true p8
            replace q8 := eq_true q8
            have HX10 := Aside0.mk (show Kd.R k41 41 wr w.heap.size (fun _ => True) (.slice (some ⟨go8, 0, none⟩) x4_1.length co4) x4_1 from (by (with_reducible repeat (first | apply Kd.R_alloc | apply Kd.R_drewN | apply Kd.R_drew)); exact HO_4.out))
            obtain ⟨ce10, hcl10, hM10, hcc10, hfr10⟩ := Kd.R_elem HX10.out z41 (x10_1 : Int) (of_decide_eq_true (by first | (with_reducible assumption) | assumption)) (by have h_ : (x10_1 : Int) < ((x4_1.length : Int) : Int) := of_decide_eq_true (by first | (with_reducible assumption) | assumption); first | exact h_ | (have e_ := (Kd.R_reads' HO_4.out).1; omega) | simpa using h_)
            obtain ⟨ve10_8, rfl, ge10_8⟩ := k41_openM hM10
            have HP10 := Kd.R_seg HX10.out (x10_1 : Int) (of_decide_eq_true (by first | (with_reducible assumption) | assumption)) (by have h_ : (x10_1 : Int) < ((x4_1.length : Int) : Int) := of_decide_eq_true (by first | (with_reducible assumption) | assumption); first | exact h_ | (have e_ := (Kd.R_reads' HO_4.out).1; omega) | simpa using h_) (seg := [.int .i64 x3_1]) (j := 0) hcl10 hcc10 (show 1 ≤ 9 from by decide) (x' := (⟨x3_1, (rd_T41 x4_1 x10_1).f1, (rd_T41 x4_1 x10_1).f2, (rd_T41 x4_1 x10_1).f3, (rd_T41 x4_1 x10_1).f4, (rd_T41 x4_1 x10_1).f5, (rd_T41 x4_1 x10_1).f6, (rd_T41 x4_1 x10_1).f7, (rd_T41 x4_1 x10_1).f8⟩ : S41)) (k41_mkM _ _ _ (⟨x3_1, (rd_T41 x4_1 x10_1).f1, (rd_T41 x4_1 x10_1).f2, (rd_T41 x4_1 x10_1).f3, (rd_T41 x4_1 x10_1).f4, (rd_T41 x4_1 x10_1).f5, (rd_T41 x4_1 x10_1).f6, (rd_T41 x4_1 x10_1).f7, (rd_T41 x4_1 x10_1).f8⟩ : S41) ge10_8) (fun _ hk => hk)
            have hx10_0 := hcc10 0 _ rfl
            (try simp only [show (k41).sz = 9 from rfl, Nat.mul_one, Nat.add_zero] at hx10_0)
            have hf10_0 := hfr10 0
            (try simp only [show (k41).sz = 9 from rfl, Nat.mul_one, Nat.add_zero] at hf10_0)
            clear hcl10 hcc10 hfr10 hM10
            go_wp2_with (first | ((with_reducible refine gate_store (t := 3) (p := 17) rfl ?_); refine store_event (t := 3) (p := 17) (v := ?vo_w11) (w1 := (wr.setCell ⟨go8, (x10_1 : Int).toNat * 9, none⟩ (.int .i64 x3_1))) ?hg ?ho ?hn ?hr ?_; (case ho => rfl); (case hg => rfl); (case hn => rfl); (case hr => first | (go_simp; done) | (go_simp; rfl)); intro w11 hw; have hg : wr.grownBy w11 (some go8) := (by rw [hw]; exact HP10.2); have hp_ : Kd.R k41 41 w11 w.heap.size (fun _ => True) (.slice (some ⟨go8, 0, none⟩) x4_1.length co4) y143 := (by rw [hw, Ny143.out]; exact HP10.1); clear HP10; have n0_ := Aside0.mk (hp_); have n1_ := Aside0.mk ((by rw [hw]; exact below_set (HB.out) GB8.out : Below w.heap.size w w11)); clear HO_4; clear HB; have HO_4 := n0_; have HB := n1_; clear n0_ n1_; clear hg hw hp_; have p144 : 0 ≤ (x10_1 : Int) := of_decide_eq_true (by first | (with_reducible assumption) | assumption); have q144 : x10_1 < (y143.length : Int) := (by have h_ : (x10_1 : Int) < ((x4_1.length : Int) : Int) := of_decide_eq_true (by first | (with_reducible assumption) | assumption); first | (have e_ := (Kd.R_reads' HO_4.out).1; omega) | simpa only [Ny143.out, List.length_set] using h_); have ql144 : ((x10_1 : Int) < ((x4_1.length : Int) : Int)) = True := eq_true (of_decide_eq_true (by first | (with_reducible assumption) | assumption)); obtain ⟨ad144, A144_8, c144_8, e144, hx144_0, hx144_1, hx144_2, hx144_3, hx144_4, hx144_5, hx144_6, hx144_7, hx144_8, hl144_8, hi144_8⟩ := at_T41 (Kd.R_reads' HO_4.out).2.2 x10_1 p144 q144; obtain rfl : (⟨go8, 0, none⟩ : Addr) = ad144 := (by injection e144); obtain ⟨ce144, hce144, hMe144, hcc144⟩ := Kd.R_get HO_4.out z41 x10_1 p144 (by first | exact q144 | exact of_decide_eq_true (by first | (with_reducible assumption) | assumption) | (have e_ := (Kd.R_reads' HO_4.out).1; omega)); obtain ⟨ve144_8, rfl, ge144_8⟩ := k41_openM hMe144; have hv144_8 := hcc144 8 _ rfl; rw [add_field _ _ 8 (by omega)] at hv144_8; replace hv144_8 := Option.some.inj (hv144_8.symm.trans hx144_8); rw [hv144_8] at ge144_8; have HL144_8 := Aside0.mk (show Kd.R (Kd.slice 5 (Kd.int .u8)) 47 _ _ _ _ ((rd_T41 y143 x10_1).f8) from ge144_8); clear hv144_8 ge144_8; clear hcc144 hce144; (first | simp only [add_plain] at hx144_0 | simp only [add_at] at hx144_0 | simp only [Addr.add, Nat.zero_add] at hx144_0 | skip); (first | simp only [add_plain] at hx144_1 | simp only [add_at] at hx144_1 | simp only [Addr.add, Nat.zero_add] at hx144_1 | skip); (first | simp only [add_plain] at hx144_2 | simp only [add_at] at hx144_2 | simp only [Addr.add, Nat.zero_add] at hx144_2 | skip); (first | simp only [add_plain] at hx144_3 | simp only [add_at] at hx144_3 | simp only [Addr.add, Nat.zero_add] at hx144_3 | skip); (first | simp only [add_plain] at hx144_4 | simp only [add_at] at hx144_4 | simp only [Addr.add, Nat.zero_add] at hx144_4 | skip); (first | simp only [add_plain] at hx144_5 | simp only [add_at] at hx144_5 | simp only [Addr.add, Nat.zero_add] at hx144_5 | skip); (first | simp only [add_plain] at hx144_6 | simp only [add_at] at hx144_6 | simp only [Addr.add, Nat.zero_add] at hx144_6 | skip); (first | simp only [add_plain] at hx144_7 | simp only [add_at] at hx144_7 | simp only [Addr.add, Nat.zero_add] at hx144_7 | skip); (first | simp only [add_plain] at hx144_8 | simp only [add_at] at hx144_8 | simp only [Addr.add, Nat.zero_add] at hx144_8 | skip); have HR144_8 := Aside0.mk hi144_8; have HC144_8 := Aside0.mk hl144_8; clear hi144_8 hl144_8; replace p144 := eq_true p144; replace q144 := eq_true q144) | ((with_reducible refine gate_callee (f := 21) rfl ?_); refine goesL_ (some 23) rfl rfl Try.func21 (by kernel_rfl) rfl #[.agg #[.int .i64 ((rd_T41 y143 x10_1).f0), .int .i64 ((rd_T41 y143 x10_1).f1), .int .u64 ((rd_T41 y143 x10_1).f2), .int .i64 ((rd_T41 y143 x10_1).f3), .int .i64 ((rd_T41 y143 x10_1).f4), .bool ((rd_T41 y143 x10_1).f5), .bool ((rd_T41 y143 x10_1).f6), .bool ((rd_T41 y143 x10_1).f7), .slice A144_8 ((rd_T41 y143 x10_1).f8).length c144_8]] rfl (by (try simp only [List.map_toArray, List.map_cons, List.map_nil]); first | done | rfl | (simp only [List.length_drop, List.length_take]; rfl)) ?_; (with_reducible refine (penstockref07_Size.calls ((rd_T41 y143 x10_1).f0) ((rd_T41 y143 x10_1).f1) ((rd_T41 y143 x10_1).f2) ((rd_T41 y143 x10_1).f3) ((rd_T41 y143 x10_1).f4) ((rd_T41 y143 x10_1).f5) ((rd_T41 y143 x10_1).f6) ((rd_T41 y143 x10_1).f7) _ _ ((rd_T41 y143 x10_1).f8) t145 _ ?side1 ?side2 A9.out).mono ?_); (case side1 => repeat (first | exact (by repeat (first | (with_reducible exact HR144_8.out) | (with_reducible refine Kd.C_alloc ?_ _) | (with_reducible refine Kd.C_drewN ?_ _) | (with_reducible refine Kd.C_drew ?_) | exact HR144_8.out)) | (with_reducible refine Kd.C_alloc ?_ _) | (with_reducible refine Kd.C_drewN ?_ _) | (with_reducible refine Kd.C_drew ?_))); (case side2 => exact HC144_8.out); rintro e w12 ⟨rfl, hb⟩; refine ⟨_, rfl, ?_⟩; have n0_ := Aside0.mk (Kd.R_below (by (with_reducible repeat (first | apply Kd.R_alloc | apply Kd.R_drewN | apply Kd.R_drew)); exact HO_4.out) hb); have n1_ := Aside0.mk (Kd.R_below (by (with_reducible repeat (first | apply Kd.R_alloc | apply Kd.R_drewN | apply Kd.R_drew)); exact HL144_8.out) hb); have n2_ := Aside0.mk (Kd.C_below (by repeat (first | (with_reducible exact HR144_8.out) | (with_reducible refine Kd.C_alloc ?_ _) | (with_reducible refine Kd.C_drewN ?_ _) | (with_reducible refine Kd.C_drew ?_) | exact HR144_8.out)) hb); have n3_ := Aside0.mk (below_step (by repeat (first | (with_reducible first | exact HB.out | apply below_alloc | apply pw_below_drewN | apply below_drew1) | exact HB.out)) hb); clear HO_4; clear HL144_8; clear HR144_8; clear HB; have HO_4 := n0_; have HL144_8 := n1_; have HR144_8 := n2_; have HB := n3_; clear n0_ n1_ n2_ n3_; (try clear hb); (try clear hb2); (try clear hk); (try clear hi)))
            (try simp only [← hl4_1])
            go_roundg k1
            case measure => have := HK1.out; omega
            case rel => exact ⟨(wrap64 (x3_1 + t145)), (y143), (wrap64 (x10_1 + 1)), (by first | rfl | (simp; done) | (simp [*]; done)), (by first | rfl | (simp; done) | (simp [*]; done)), H', ⟨by have := HK1.out; omega⟩, ⟨by (try simp only [hl4_1]); (with_reducible repeat (first | apply Kd.R_alloc | apply Kd.R_drewN | apply Kd.R_drew)); exact HO_4.out⟩, ⟨by repeat (first | (with_reducible first | exact HB.out | apply below_alloc | apply pw_below_drewN | apply below_drew1) | exact HB.out)⟩⟩
          · rw [if_neg c7] at H
            exact absurd H (by simp)
        · rw [if_neg c6] at H
          exact absurd H (by simp)
      · rw [if_neg c5] at H
        have c5b0 : decide (x10_1 < (t140.length : Int)) = false := decide_eq_false c5
        clear c5
        rw [hl4_1] at c5b0
        obtain rfl := Option.some.inj H
        go_wp2
        go_ret
        exact ⟨_, by first | rfl | (simp [errW_none, errW_some] <;> rfl) | (simp [*, errW_none, errW_some] <;> rfl), by (with_reducible repeat (first | apply Kd.R_alloc | apply Kd.R_drewN | apply Kd.R_drew)); exact HO_4.out, by repeat (first | (with_reducible first | exact HB.out | apply below_alloc | apply pw_below_drewN | apply below_drew1) | exact HB.out)⟩

end Go.Proofs.Ytnbdlkjphdfkpaa.H

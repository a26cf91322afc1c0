/- Contracts of the helpers of layer 21, as the kit's printer writes them; one namespace for all laws. No conditions. -/
import Derived.Test.YtnbdlkjphdfkpaaHS
namespace Go.Proofs.Ytnbdlkjphdfkpaa.H
open Go.RowKit Go.Proofs.YtnbdlkjphdfkpaaW.PrintWords Go.Proofs.YtnbdlkjphdfkpaaW.PrintLast Go.Proofs.YtnbdlkjphdfkpaaW.PrintMore
attribute [local go_sem] max2_int min2_int max_two min_two max_three min_three max_four min_four   -- for this text's walks alone
set_option linter.unusedVariables false
set_option linter.unusedSimpArgs false

/-! ### penstockref07_Same: function 19 -/
mutual
def penstockref07_Same.j0 : Nat → Bool → Int → Int → Int → Int → Int → Bool → Bool → Bool → List (List Int) → Int → Int → Int → Int → Int → Bool → Bool → Bool → List (List Int) → Option (Bool)
  | 0, _, _, _, _, _, _, _, _, _, _, _, _, _, _, _, _, _, _, _ => none
  | k + 1, x68, x174000, x174001, x174002, x174003, x174004, x174005, x174006, x174007, x174008, x175000, x175001, x175002, x175003, x175004, x175005, x175006, x175007, x175008 => if x68 = true then (some false) else (penstockref07_Same.l0 k 0 x174000 x174001 x174002 x174003 x174004 x174005 x174006 x174007 x174008 x175000 x175001 x175002 x175003 x175004 x175005 x175006 x175007 x175008)
def penstockref07_Same.l0 : Nat → Int → Int → Int → Int → Int → Int → Bool → Bool → Bool → List (List Int) → Int → Int → Int → Int → Int → Bool → Bool → Bool → List (List Int) → Option (Bool)
  | 0, _, _, _, _, _, _, _, _, _, _, _, _, _, _, _, _, _, _, _ => none
  | k + 1, x5, x174000, x174001, x174002, x174003, x174004, x174005, x174006, x174007, x174008, x175000, x175001, x175002, x175003, x175004, x175005, x175006, x175007, x175008 => if x5 < (x174008.length : Int) then (if 0 ≤ x5 then (if x5 < (x175008.length : Int) then ((penstockref03_Same.f k (rd_L1 x174008 x5) (rd_L1 x175008 x5)).bind fun t177 => (if t177 = true then (penstockref07_Same.l0 k (wrap64 (x5 + 1)) x174000 x174001 x174002 x174003 x174004 x174005 x174006 x174007 x174008 x175000 x175001 x175002 x175003 x175004 x175005 x175006 x175007 x175008) else (some false))) else (none)) else (none)) else (some true)
end
def penstockref07_Same.f (k : Nat) (a0_0 : Int) (a0_1 : Int) (a0_2 : Int) (a0_3 : Int) (a0_4 : Int) (a0_5 : Bool) (a0_6 : Bool) (a0_7 : Bool) (l0_8 : List (List Int)) (a1_0 : Int) (a1_1 : Int) (a1_2 : Int) (a1_3 : Int) (a1_4 : Int) (a1_5 : Bool) (a1_6 : Bool) (a1_7 : Bool) (l1_8 : List (List Int)) : Option (Bool) := if a0_0 = a1_0 then (if a0_1 = a1_1 then (if a0_2 = a1_2 then (if a0_3 = a1_3 then (if a0_4 = a1_4 then (if (a0_5 != a1_5) = true then (penstockref07_Same.j0 k true a0_0 a0_1 a0_2 a0_3 a0_4 a0_5 a0_6 a0_7 l0_8 a1_0 a1_1 a1_2 a1_3 a1_4 a1_5 a1_6 a1_7 l1_8) else (if (a0_6 != a1_6) = true then (penstockref07_Same.j0 k true a0_0 a0_1 a0_2 a0_3 a0_4 a0_5 a0_6 a0_7 l0_8 a1_0 a1_1 a1_2 a1_3 a1_4 a1_5 a1_6 a1_7 l1_8) else (if (a0_7 != a1_7) = true then (penstockref07_Same.j0 k true a0_0 a0_1 a0_2 a0_3 a0_4 a0_5 a0_6 a0_7 l0_8 a1_0 a1_1 a1_2 a1_3 a1_4 a1_5 a1_6 a1_7 l1_8) else (penstockref07_Same.j0 k ((l0_8.length : Int) != (l1_8.length : Int)) a0_0 a0_1 a0_2 a0_3 a0_4 a0_5 a0_6 a0_7 l0_8 a1_0 a1_1 a1_2 a1_3 a1_4 a1_5 a1_6 a1_7 l1_8)))) else (penstockref07_Same.j0 k true a0_0 a0_1 a0_2 a0_3 a0_4 a0_5 a0_6 a0_7 l0_8 a1_0 a1_1 a1_2 a1_3 a1_4 a1_5 a1_6 a1_7 l1_8)) else (penstockref07_Same.j0 k true a0_0 a0_1 a0_2 a0_3 a0_4 a0_5 a0_6 a0_7 l0_8 a1_0 a1_1 a1_2 a1_3 a1_4 a1_5 a1_6 a1_7 l1_8)) else (penstockref07_Same.j0 k true a0_0 a0_1 a0_2 a0_3 a0_4 a0_5 a0_6 a0_7 l0_8 a1_0 a1_1 a1_2 a1_3 a1_4 a1_5 a1_6 a1_7 l1_8)) else (penstockref07_Same.j0 k true a0_0 a0_1 a0_2 a0_3 a0_4 a0_5 a0_6 a0_7 l0_8 a1_0 a1_1 a1_2 a1_3 a1_4 a1_5 a1_6 a1_7 l1_8)) else (penstockref07_Same.j0 k true a0_0 a0_1 a0_2 a0_3 a0_4 a0_5 a0_6 a0_7 l0_8 a1_0 a1_1 a1_2 a1_3 a1_4 a1_5 a1_6 a1_7 l1_8)
theorem penstockref07_Same.mono_l : ∀ k, (∀ y0 y1 y2 y3 y4 y5 y6 y7 y8 y9 y10 y11 y12 y13 y14 y15 y16 y17 y18, LeO (penstockref07_Same.j0 k y0 y1 y2 y3 y4 y5 y6 y7 y8 y9 y10 y11 y12 y13 y14 y15 y16 y17 y18) (penstockref07_Same.j0 (k + 1) y0 y1 y2 y3 y4 y5 y6 y7 y8 y9 y10 y11 y12 y13 y14 y15 y16 y17 y18)) ∧ (∀ y0 y1 y2 y3 y4 y5 y6 y7 y8 y9 y10 y11 y12 y13 y14 y15 y16 y17 y18, LeO (penstockref07_Same.l0 k y0 y1 y2 y3 y4 y5 y6 y7 y8 y9 y10 y11 y12 y13 y14 y15 y16 y17 y18) (penstockref07_Same.l0 (k + 1) y0 y1 y2 y3 y4 y5 y6 y7 y8 y9 y10 y11 y12 y13 y14 y15 y16 y17 y18))
  | 0 => ⟨fun _ _ _ _ _ _ _ _ _ _ _ _ _ _ _ _ _ _ _ r h => by simp [penstockref07_Same.j0] at h, fun _ _ _ _ _ _ _ _ _ _ _ _ _ _ _ _ _ _ _ r h => by simp [penstockref07_Same.l0] at h⟩
  | k + 1 => by
    obtain ⟨ih0, ih1⟩ := penstockref07_Same.mono_l k
    refine ⟨?_, ?_⟩
    · intro y0 y1 y2 y3 y4 y5 y6 y7 y8 y9 y10 y11 y12 y13 y14 y15 y16 y17 y18
      unfold penstockref07_Same.j0
      repeat' first
      | (with_reducible exact ih0 _ _ _ _ _ _ _ _ _ _ _ _ _ _ _ _ _ _ _)
      | (with_reducible exact ih1 _ _ _ _ _ _ _ _ _ _ _ _ _ _ _ _ _ _ _)
      | (with_reducible exact penstockref03_Same.mono _ _ _)
      | (with_reducible exact LeO.refl _)
      | (with_reducible exact LeO.none _)
      | (with_reducible refine LeO.ite ?_ ?_)
      | (with_reducible refine LeO.bind ?_ (fun _ => ?_))
      | exact ih0 _ _ _ _ _ _ _ _ _ _ _ _ _ _ _ _ _ _ _
      | exact ih1 _ _ _ _ _ _ _ _ _ _ _ _ _ _ _ _ _ _ _
      | exact penstockref03_Same.mono _ _ _
      | exact LeO.none _
      | refine LeO.ite ?_ ?_
      | refine LeO.bind ?_ (fun _ => ?_)
    · intro y0 y1 y2 y3 y4 y5 y6 y7 y8 y9 y10 y11 y12 y13 y14 y15 y16 y17 y18
      unfold penstockref07_Same.l0
      repeat' first
      | (with_reducible exact ih0 _ _ _ _ _ _ _ _ _ _ _ _ _ _ _ _ _ _ _)
      | (with_reducible exact ih1 _ _ _ _ _ _ _ _ _ _ _ _ _ _ _ _ _ _ _)
      | (with_reducible exact penstockref03_Same.mono _ _ _)
      | (with_reducible exact LeO.refl _)
      | (with_reducible exact LeO.none _)
      | (with_reducible refine LeO.ite ?_ ?_)
      | (with_reducible refine LeO.bind ?_ (fun _ => ?_))
      | exact ih0 _ _ _ _ _ _ _ _ _ _ _ _ _ _ _ _ _ _ _
      | exact ih1 _ _ _ _ _ _ _ _ _ _ _ _ _ _ _ _ _ _ _
      | exact penstockref03_Same.mono _ _ _
      | exact LeO.none _
      | refine LeO.ite ?_ ?_
      | refine LeO.bind ?_ (fun _ => ?_)
theorem penstockref07_Same.mono : ∀ a0 a1 a2 a3 a4 a5 a6 a7 a8 a9 a10 a11 a12 a13 a14 a15 a16 a17 k, LeO (penstockref07_Same.f k a0 a1 a2 a3 a4 a5 a6 a7 a8 a9 a10 a11 a12 a13 a14 a15 a16 a17) (penstockref07_Same.f (k + 1) a0 a1 a2 a3 a4 a5 a6 a7 a8 a9 a10 a11 a12 a13 a14 a15 a16 a17) := by
  intro a0 a1 a2 a3 a4 a5 a6 a7 a8 a9 a10 a11 a12 a13 a14 a15 a16 a17 k
  obtain ⟨ih0, ih1⟩ := penstockref07_Same.mono_l k
  unfold penstockref07_Same.f
  repeat' first
      | (with_reducible exact ih0 _ _ _ _ _ _ _ _ _ _ _ _ _ _ _ _ _ _ _)
      | (with_reducible exact ih1 _ _ _ _ _ _ _ _ _ _ _ _ _ _ _ _ _ _ _)
      | (with_reducible exact penstockref03_Same.mono _ _ _)
      | (with_reducible exact LeO.refl _)
      | (with_reducible exact LeO.none _)
      | (with_reducible refine LeO.ite ?_ ?_)
      | (with_reducible refine LeO.bind ?_ (fun _ => ?_))
      | exact ih0 _ _ _ _ _ _ _ _ _ _ _ _ _ _ _ _ _ _ _
      | exact ih1 _ _ _ _ _ _ _ _ _ _ _ _ _ _ _ _ _ _ _
      | exact penstockref03_Same.mono _ _ _
      | exact LeO.none _
      | refine LeO.ite ?_ ?_
      | refine LeO.bind ?_ (fun _ => ?_)
set_option maxHeartbeats 8000000 in
set_option maxRecDepth 100000 in
theorem penstockref07_Same.calls (k : Nat) (a0_0 : Int) (a0_1 : Int) (a0_2 : Int) (a0_3 : Int) (a0_4 : Int) (a0_5 : Bool) (a0_6 : Bool) (a0_7 : Bool) (A0_8 : Option Addr) (c0_8 : Nat) (l0_8 : List (List Int)) (a1_0 : Int) (a1_1 : Int) (a1_2 : Int) (a1_3 : Int) (a1_4 : Int) (a1_5 : Bool) (a1_6 : Bool) (a1_7 : Bool) (A1_8 : Option Addr) (c1_8 : Nat) (l1_8 : List (List Int)) (r : Bool) (w : World) (hr0_8 : Kd.C (Kd.slice 5 (Kd.int .u8)) w A0_8 l0_8.length l0_8) (hc0_8 : l0_8.length ≤ c0_8) (hr1_8 : Kd.C (Kd.slice 5 (Kd.int .u8)) w A1_8 l1_8.length l1_8) (hc1_8 : l1_8.length ≤ c1_8) (h : penstockref07_Same.f k a0_0 a0_1 a0_2 a0_3 a0_4 a0_5 a0_6 a0_7 l0_8 a1_0 a1_1 a1_2 a1_3 a1_4 a1_5 a1_6 a1_7 l1_8 = some r) :
    Calls Try.prog 19 #[.agg #[.int .i64 a0_0, .int .i64 a0_1, .int .u64 a0_2, .int .i64 a0_3, .int .i64 a0_4, .bool a0_5, .bool a0_6, .bool a0_7, .slice A0_8 l0_8.length c0_8], .agg #[.int .i64 a1_0, .int .i64 a1_1, .int .u64 a1_2, .int .i64 a1_3, .int .i64 a1_4, .bool a1_5, .bool a1_6, .bool a1_7, .slice A1_8 l1_8.length c1_8]] w fun e w' => e = .returned (.bool r) ∧ Below w.heap.size w w' := by
  have hu41 := Try.underlying41
  have HR0_8 := Aside0.mk hr0_8
  have HC0_8 := Aside0.mk hc0_8
  clear hr0_8 hc0_8
  have HR1_8 := Aside0.mk hr1_8
  have HC1_8 := Aside0.mk hc1_8
  clear hr1_8 hc1_8
  have HB := Aside0.mk (Below.refl w.heap.size w)
  have H : (if a0_0 = a1_0 then (if a0_1 = a1_1 then (if a0_2 = a1_2 then (if a0_3 = a1_3 then (if a0_4 = a1_4 then (if (a0_5 != a1_5) = true then (penstockref07_Same.j0 k true a0_0 a0_1 a0_2 a0_3 a0_4 a0_5 a0_6 a0_7 l0_8 a1_0 a1_1 a1_2 a1_3 a1_4 a1_5 a1_6 a1_7 l1_8) else (if (a0_6 != a1_6) = true then (penstockref07_Same.j0 k true a0_0 a0_1 a0_2 a0_3 a0_4 a0_5 a0_6 a0_7 l0_8 a1_0 a1_1 a1_2 a1_3 a1_4 a1_5 a1_6 a1_7 l1_8) else (if (a0_7 != a1_7) = true then (penstockref07_Same.j0 k true a0_0 a0_1 a0_2 a0_3 a0_4 a0_5 a0_6 a0_7 l0_8 a1_0 a1_1 a1_2 a1_3 a1_4 a1_5 a1_6 a1_7 l1_8) else (penstockref07_Same.j0 k ((l0_8.length : Int) != (l1_8.length : Int)) a0_0 a0_1 a0_2 a0_3 a0_4 a0_5 a0_6 a0_7 l0_8 a1_0 a1_1 a1_2 a1_3 a1_4 a1_5 a1_6 a1_7 l1_8)))) else (penstockref07_Same.j0 k true a0_0 a0_1 a0_2 a0_3 a0_4 a0_5 a0_6 a0_7 l0_8 a1_0 a1_1 a1_2 a1_3 a1_4 a1_5 a1_6 a1_7 l1_8)) else (penstockref07_Same.j0 k true a0_0 a0_1 a0_2 a0_3 a0_4 a0_5 a0_6 a0_7 l0_8 a1_0 a1_1 a1_2 a1_3 a1_4 a1_5 a1_6 a1_7 l1_8)) else (penstockref07_Same.j0 k true a0_0 a0_1 a0_2 a0_3 a0_4 a0_5 a0_6 a0_7 l0_8 a1_0 a1_1 a1_2 a1_3 a1_4 a1_5 a1_6 a1_7 l1_8)) else (penstockref07_Same.j0 k true a0_0 a0_1 a0_2 a0_3 a0_4 a0_5 a0_6 a0_7 l0_8 a1_0 a1_1 a1_2 a1_3 a1_4 a1_5 a1_6 a1_7 l1_8)) else (penstockref07_Same.j0 k true a0_0 a0_1 a0_2 a0_3 a0_4 a0_5 a0_6 a0_7 l0_8 a1_0 a1_1 a1_2 a1_3 a1_4 a1_5 a1_6 a1_7 l1_8)) = some r := h
  clear h
  have HC3 := Aside0.mk H
  clear H
  go_enter Try.func19, Try.ntmps19
  go_upto_region 1 with (first | ((with_reducible refine gate_dst (N := 2) rfl ?_); (try (refine gate_guard (by rfl) ?_; dsimp only)); refine box_event ?hg (N := 2) ?hd (cs := #[.int .i64 a0_0, .int .i64 a0_1, .int .u64 a0_2, .int .i64 a0_3, .int .i64 a0_4, .bool a0_5, .bool a0_6, .bool a0_7, .slice A0_8 l0_8.length c0_8]) (t := 41) ?hr ?_; (case hd => rfl); (case hg => rfl); (case hr => first | (go_simp; done) | (go_simp; rfl)); intro gb173 hg w4 hbox hb; have n0_ := Aside0.mk (below_step (by repeat (first | (with_reducible first | exact HB.out | apply below_alloc | apply pw_below_drewN | apply below_drew1) | exact HB.out)) hb); have n1_ := Aside0.mk (hbox); have n2_ := Aside0.mk ((by rw [hg]; exact (below_size (by repeat (first | (with_reducible first | exact HB.out | apply below_alloc | apply pw_below_drewN | apply below_drew1) | exact HB.out))) : w.heap.size ≤ gb173)); have n3_ := Aside0.mk ((by rw [hg]; exact (below_size (by repeat (first | (with_reducible first | exact HB.out | apply below_alloc | apply pw_below_drewN | apply below_drew1) | exact HB.out))) : w.heap.size ≤ gb173)); clear HB; have HB := n0_; have BK173 := n1_; have GW173 := n2_; have GE173 := n3_; clear n0_ n1_ n2_ n3_; clear hb hbox hg) | ((with_reducible refine gate_dst (N := 3) rfl ?_); (try (refine gate_guard (by rfl) ?_; dsimp only)); refine box_event ?hg (N := 3) ?hd (cs := #[.int .i64 a1_0, .int .i64 a1_1, .int .u64 a1_2, .int .i64 a1_3, .int .i64 a1_4, .bool a1_5, .bool a1_6, .bool a1_7, .slice A1_8 l1_8.length c1_8]) (t := 41) ?hr ?_; (case hd => rfl); (case hg => rfl); (case hr => first | (go_simp; done) | (go_simp; rfl)); intro gb174 hg w5 hbox hb; have n0_ := Aside0.mk (blk_below (g := gb173) (o := .cells #[.int .i64 a0_0, .int .i64 a0_1, .int .u64 a0_2, .int .i64 a0_3, .int .i64 a0_4, .bool a0_5, .bool a0_6, .bool a0_7, .slice A0_8 l0_8.length c0_8] 41 (0, 0)) (by (with_reducible repeat (first | refine blk_drewN ?_ _ | refine blk_drew ?_ | refine blk_alloc ?_ _)); exact BK173.out) hb); have n1_ := Aside0.mk (below_step (by repeat (first | (with_reducible first | exact HB.out | apply below_alloc | apply pw_below_drewN | apply below_drew1 | refine below_set ?_ GE173.out) | exact HB.out)) hb); have n2_ := Aside0.mk (hbox); have n3_ := Aside0.mk ((by rw [hg]; exact (below_size (by repeat (first | (with_reducible first | exact HB.out | apply below_alloc | apply pw_below_drewN | apply below_drew1 | refine below_set ?_ GE173.out) | exact HB.out))) : w.heap.size ≤ gb174)); have n4_ := Aside0.mk ((by rw [hg]; exact (below_size (by repeat (first | (with_reducible first | exact HB.out | apply below_alloc | apply pw_below_drewN | apply below_drew1 | refine below_set ?_ GE173.out) | exact HB.out))) : w.heap.size ≤ gb174)); have n5_ := Aside0.mk ((by rw [hg]; exact Nat.ne_of_lt (blk_lt (g := gb173) (o := .cells #[.int .i64 a0_0, .int .i64 a0_1, .int .u64 a0_2, .int .i64 a0_3, .int .i64 a0_4, .bool a0_5, .bool a0_6, .bool a0_7, .slice A0_8 l0_8.length c0_8] 41 (0, 0)) (by (with_reducible repeat (first | refine blk_drewN ?_ _ | refine blk_drew ?_ | refine blk_alloc ?_ _)); exact BK173.out)) : gb173 ≠ gb174)); have n6_ := Aside0.mk ((by rw [hg]; exact Nat.ne_of_gt (blk_lt (g := gb173) (o := .cells #[.int .i64 a0_0, .int .i64 a0_1, .int .u64 a0_2, .int .i64 a0_3, .int .i64 a0_4, .bool a0_5, .bool a0_6, .bool a0_7, .slice A0_8 l0_8.length c0_8] 41 (0, 0)) (by (with_reducible repeat (first | refine blk_drewN ?_ _ | refine blk_drew ?_ | refine blk_alloc ?_ _)); exact BK173.out)) : gb174 ≠ gb173)); clear BK173; clear HB; have BK173 := n0_; have HB := n1_; have BK174 := n2_; have GW174 := n3_; have GE174 := n4_; have NB173_174 := n5_; have NB174_173 := n6_; clear n0_ n1_ n2_ n3_ n4_ n5_ n6_; clear hb hbox hg))
  repeat (go_quiet (first | ((with_reducible refine gate_dst (N := 2) rfl ?_); (try (refine gate_guard (by rfl) ?_; dsimp only)); refine box_event ?hg (N := 2) ?hd (cs := #[.int .i64 a0_0, .int .i64 a0_1, .int .u64 a0_2, .int .i64 a0_3, .int .i64 a0_4, .bool a0_5, .bool a0_6, .bool a0_7, .slice A0_8 l0_8.length c0_8]) (t := 41) ?hr ?_; (case hd => rfl); (case hg => rfl); (case hr => first | (go_simp; done) | (go_simp; rfl)); intro gb173 hg w4 hbox hb; have n0_ := Aside0.mk (below_step (by repeat (first | (with_reducible first | exact HB.out | apply below_alloc | apply pw_below_drewN | apply below_drew1) | exact HB.out)) hb); have n1_ := Aside0.mk (hbox); have n2_ := Aside0.mk ((by rw [hg]; exact (below_size (by repeat (first | (with_reducible first | exact HB.out | apply below_alloc | apply pw_below_drewN | apply below_drew1) | exact HB.out))) : w.heap.size ≤ gb173)); have n3_ := Aside0.mk ((by rw [hg]; exact (below_size (by repeat (first | (with_reducible first | exact HB.out | apply below_alloc | apply pw_below_drewN | apply below_drew1) | exact HB.out))) : w.heap.size ≤ gb173)); clear HB; have HB := n0_; have BK173 := n1_; have GW173 := n2_; have GE173 := n3_; clear n0_ n1_ n2_ n3_; clear hb hbox hg) | ((with_reducible refine gate_dst (N := 3) rfl ?_); (try (refine gate_guard (by rfl) ?_; dsimp only)); refine box_event ?hg (N := 3) ?hd (cs := #[.int .i64 a1_0, .int .i64 a1_1, .int .u64 a1_2, .int .i64 a1_3, .int .i64 a1_4, .bool a1_5, .bool a1_6, .bool a1_7, .slice A1_8 l1_8.length c1_8]) (t := 41) ?hr ?_; (case hd => rfl); (case hg => rfl); (case hr => first | (go_simp; done) | (go_simp; rfl)); intro gb174 hg w5 hbox hb; have n0_ := Aside0.mk (blk_below (g := gb173) (o := .cells #[.int .i64 a0_0, .int .i64 a0_1, .int .u64 a0_2, .int .i64 a0_3, .int .i64 a0_4, .bool a0_5, .bool a0_6, .bool a0_7, .slice A0_8 l0_8.length c0_8] 41 (0, 0)) (by (with_reducible repeat (first | refine blk_drewN ?_ _ | refine blk_drew ?_ | refine blk_alloc ?_ _)); exact BK173.out) hb); have n1_ := Aside0.mk (below_step (by repeat (first | (with_reducible first | exact HB.out | apply below_alloc | apply pw_below_drewN | apply below_drew1 | refine below_set ?_ GE173.out) | exact HB.out)) hb); have n2_ := Aside0.mk (hbox); have n3_ := Aside0.mk ((by rw [hg]; exact (below_size (by repeat (first | (with_reducible first | exact HB.out | apply below_alloc | apply pw_below_drewN | apply below_drew1 | refine below_set ?_ GE173.out) | exact HB.out))) : w.heap.size ≤ gb174)); have n4_ := Aside0.mk ((by rw [hg]; exact (below_size (by repeat (first | (with_reducible first | exact HB.out | apply below_alloc | apply pw_below_drewN | apply below_drew1 | refine below_set ?_ GE173.out) | exact HB.out))) : w.heap.size ≤ gb174)); have n5_ := Aside0.mk ((by rw [hg]; exact Nat.ne_of_lt (blk_lt (g := gb173) (o := .cells #[.int .i64 a0_0, .int .i64 a0_1, .int .u64 a0_2, .int .i64 a0_3, .int .i64 a0_4, .bool a0_5, .bool a0_6, .bool a0_7, .slice A0_8 l0_8.length c0_8] 41 (0, 0)) (by (with_reducible repeat (first | refine blk_drewN ?_ _ | refine blk_drew ?_ | refine blk_alloc ?_ _)); exact BK173.out)) : gb173 ≠ gb174)); have n6_ := Aside0.mk ((by rw [hg]; exact Nat.ne_of_gt (blk_lt (g := gb173) (o := .cells #[.int .i64 a0_0, .int .i64 a0_1, .int .u64 a0_2, .int .i64 a0_3, .int .i64 a0_4, .bool a0_5, .bool a0_6, .bool a0_7, .slice A0_8 l0_8.length c0_8] 41 (0, 0)) (by (with_reducible repeat (first | refine blk_drewN ?_ _ | refine blk_drew ?_ | refine blk_alloc ?_ _)); exact BK173.out)) : gb174 ≠ gb173)); clear BK173; clear HB; have BK173 := n0_; have HB := n1_; have BK174 := n2_; have GW174 := n3_; have GE174 := n4_; have NB173_174 := n5_; have NB174_173 := n6_; clear n0_ n1_ n2_ n3_ n4_ n5_ n6_; clear hb hbox hg)); go_upto_region 1 with (first | ((with_reducible refine gate_dst (N := 2) rfl ?_); (try (refine gate_guard (by rfl) ?_; dsimp only)); refine box_event ?hg (N := 2) ?hd (cs := #[.int .i64 a0_0, .int .i64 a0_1, .int .u64 a0_2, .int .i64 a0_3, .int .i64 a0_4, .bool a0_5, .bool a0_6, .bool a0_7, .slice A0_8 l0_8.length c0_8]) (t := 41) ?hr ?_; (case hd => rfl); (case hg => rfl); (case hr => first | (go_simp; done) | (go_simp; rfl)); intro gb173 hg w4 hbox hb; have n0_ := Aside0.mk (below_step (by repeat (first | (with_reducible first | exact HB.out | apply below_alloc | apply pw_below_drewN | apply below_drew1) | exact HB.out)) hb); have n1_ := Aside0.mk (hbox); have n2_ := Aside0.mk ((by rw [hg]; exact (below_size (by repeat (first | (with_reducible first | exact HB.out | apply below_alloc | apply pw_below_drewN | apply below_drew1) | exact HB.out))) : w.heap.size ≤ gb173)); have n3_ := Aside0.mk ((by rw [hg]; exact (below_size (by repeat (first | (with_reducible first | exact HB.out | apply below_alloc | apply pw_below_drewN | apply below_drew1) | exact HB.out))) : w.heap.size ≤ gb173)); clear HB; have HB := n0_; have BK173 := n1_; have GW173 := n2_; have GE173 := n3_; clear n0_ n1_ n2_ n3_; clear hb hbox hg) | ((with_reducible refine gate_dst (N := 3) rfl ?_); (try (refine gate_guard (by rfl) ?_; dsimp only)); refine box_event ?hg (N := 3) ?hd (cs := #[.int .i64 a1_0, .int .i64 a1_1, .int .u64 a1_2, .int .i64 a1_3, .int .i64 a1_4, .bool a1_5, .bool a1_6, .bool a1_7, .slice A1_8 l1_8.length c1_8]) (t := 41) ?hr ?_; (case hd => rfl); (case hg => rfl); (case hr => first | (go_simp; done) | (go_simp; rfl)); intro gb174 hg w5 hbox hb; have n0_ := Aside0.mk (blk_below (g := gb173) (o := .cells #[.int .i64 a0_0, .int .i64 a0_1, .int .u64 a0_2, .int .i64 a0_3, .int .i64 a0_4, .bool a0_5, .bool a0_6, .bool a0_7, .slice A0_8 l0_8.length c0_8] 41 (0, 0)) (by (with_reducible repeat (first | refine blk_drewN ?_ _ | refine blk_drew ?_ | refine blk_alloc ?_ _)); exact BK173.out) hb); have n1_ := Aside0.mk (below_step (by repeat (first | (with_reducible first | exact HB.out | apply below_alloc | apply pw_below_drewN | apply below_drew1 | refine below_set ?_ GE173.out) | exact HB.out)) hb); have n2_ := Aside0.mk (hbox); have n3_ := Aside0.mk ((by rw [hg]; exact (below_size (by repeat (first | (with_reducible first | exact HB.out | apply below_alloc | apply pw_below_drewN | apply below_drew1 | refine below_set ?_ GE173.out) | exact HB.out))) : w.heap.size ≤ gb174)); have n4_ := Aside0.mk ((by rw [hg]; exact (below_size (by repeat (first | (with_reducible first | exact HB.out | apply below_alloc | apply pw_below_drewN | apply below_drew1 | refine below_set ?_ GE173.out) | exact HB.out))) : w.heap.size ≤ gb174)); have n5_ := Aside0.mk ((by rw [hg]; exact Nat.ne_of_lt (blk_lt (g := gb173) (o := .cells #[.int .i64 a0_0, .int .i64 a0_1, .int .u64 a0_2, .int .i64 a0_3, .int .i64 a0_4, .bool a0_5, .bool a0_6, .bool a0_7, .slice A0_8 l0_8.length c0_8] 41 (0, 0)) (by (with_reducible repeat (first | refine blk_drewN ?_ _ | refine blk_drew ?_ | refine blk_alloc ?_ _)); exact BK173.out)) : gb173 ≠ gb174)); have n6_ := Aside0.mk ((by rw [hg]; exact Nat.ne_of_gt (blk_lt (g := gb173) (o := .cells #[.int .i64 a0_0, .int .i64 a0_1, .int .u64 a0_2, .int .i64 a0_3, .int .i64 a0_4, .bool a0_5, .bool a0_6, .bool a0_7, .slice A0_8 l0_8.length c0_8] 41 (0, 0)) (by (with_reducible repeat (first | refine blk_drewN ?_ _ | refine blk_drew ?_ | refine blk_alloc ?_ _)); exact BK173.out)) : gb174 ≠ gb173)); clear BK173; clear HB; have BK173 := n0_; have HB := n1_; have BK174 := n2_; have GW174 := n3_; have GE174 := n4_; have NB173_174 := n5_; have NB174_173 := n6_; clear n0_ n1_ n2_ n3_ n4_ n5_ n6_; clear hb hbox hg)))
  (try simp only [Act.put, List.setIfInBounds_toArray, List.set_cons_zero, List.set_cons_succ])
  go_cut [68] (fun v68 wc => ∃ (kq : Nat) (x68_2 : Bool), v68 = .bool x68_2 ∧ Aside0 (penstockref07_Same.j0 kq x68_2 a0_0 a0_1 a0_2 a0_3 a0_4 a0_5 a0_6 a0_7 l0_8 a1_0 a1_1 a1_2 a1_3 a1_4 a1_5 a1_6 a1_7 l1_8 = some r) ∧ Aside0 (kq ≤ k) ∧ Aside0 (wc.heap[gb173]? = some (.cells #[.int .i64 a0_0, .int .i64 a0_1, .int .u64 a0_2, .int .i64 a0_3, .int .i64 a0_4, .bool a0_5, .bool a0_6, .bool a0_7, (.slice A0_8 l0_8.length c0_8)] 41 (0, 0))) ∧ Aside0 (wc.heap[gb174]? = some (.cells #[.int .i64 a1_0, .int .i64 a1_1, .int .u64 a1_2, .int .i64 a1_3, .int .i64 a1_4, .bool a1_5, .bool a1_6, .bool a1_7, (.slice A1_8 l1_8.length c1_8)] 41 (0, 0))) ∧ Aside0 (Below w.heap.size w wc))
  case first =>
    have H := HC3.out
    clear HC3
    by_cases c6 : a0_0 = a1_0
    · rw [if_pos c6] at H
      have c6b0 : (a0_0 == a1_0) = true := beq_iff_eq.mpr c6
      have c6b1 : (a0_0 != a1_0) = false := bne_eq_false_iff_eq.mpr c6
      clear c6
      (first | rw [c6b0] | (simp only [i64_w, i32_w]; rw [c6b0]) | skip)
      by_cases c7 : a0_1 = a1_1
      · rw [if_pos c7] at H
        have c7b0 : (a0_1 == a1_1) = true := beq_iff_eq.mpr c7
        have c7b1 : (a0_1 != a1_1) = false := bne_eq_false_iff_eq.mpr c7
        clear c7
        by_cases c8 : a0_2 = a1_2
        · rw [if_pos c8] at H
          have c8b0 : (a0_2 == a1_2) = true := beq_iff_eq.mpr c8
          have c8b1 : (a0_2 != a1_2) = false := bne_eq_false_iff_eq.mpr c8
          clear c8
          by_cases c9 : a0_3 = a1_3
          · rw [if_pos c9] at H
            have c9b0 : (a0_3 == a1_3) = true := beq_iff_eq.mpr c9
            have c9b1 : (a0_3 != a1_3) = false := bne_eq_false_iff_eq.mpr c9
            clear c9
            by_cases c10 : a0_4 = a1_4
            · rw [if_pos c10] at H
              have c10b0 : (a0_4 == a1_4) = true := beq_iff_eq.mpr c10
              have c10b1 : (a0_4 != a1_4) = false := bne_eq_false_iff_eq.mpr c10
              clear c10
              by_cases c11 : (a0_5 != a1_5) = true
              · rw [if_pos c11] at H
                have c11b0 : (a0_5 != a1_5) = true := c11
                (try (have c11b1 : decide (a0_5 = a1_5) = false := by simpa using c11))
                (try (have c11b2 : (a0_5 == a1_5) = false := by simpa using c11))
                (try (have c11b3 : ¬ (a0_5 = a1_5) := by simpa using c11))
                clear c11
                have H' := Aside0.mk H
                clear H
                have hnb12 := NB173_174.out
                have hnc12 := NB174_173.out
                have hcz13_0 : w5.cell? ⟨gb173, 0, none⟩ = some (.int .i64 a0_0) := (blk_cell BK173.out 0).trans rfl
                have hcz13_1 : w5.cell? ⟨gb173, 1, none⟩ = some (.int .i64 a0_1) := (blk_cell BK173.out 1).trans rfl
                have hcz13_2 : w5.cell? ⟨gb173, 2, none⟩ = some (.int .u64 a0_2) := (blk_cell BK173.out 2).trans rfl
                have hcz13_3 : w5.cell? ⟨gb173, 3, none⟩ = some (.int .i64 a0_3) := (blk_cell BK173.out 3).trans rfl
                have hcz13_4 : w5.cell? ⟨gb173, 4, none⟩ = some (.int .i64 a0_4) := (blk_cell BK173.out 4).trans rfl
                have hcz13_5 : w5.cell? ⟨gb173, 5, none⟩ = some (.bool a0_5) := (blk_cell BK173.out 5).trans rfl
                have hcz13_6 : w5.cell? ⟨gb173, 6, none⟩ = some (.bool a0_6) := (blk_cell BK173.out 6).trans rfl
                have hcz13_7 : w5.cell? ⟨gb173, 7, none⟩ = some (.bool a0_7) := (blk_cell BK173.out 7).trans rfl
                have hcz13_8 : w5.cell? ⟨gb173, 8, none⟩ = some (.slice A0_8 l0_8.length c0_8) := (blk_cell BK173.out 8).trans rfl
                have hfz13_0 := blk_frozen BK173.out 0
                have hfz13_1 := blk_frozen BK173.out 1
                have hfz13_2 := blk_frozen BK173.out 2
                have hfz13_3 := blk_frozen BK173.out 3
                have hfz13_4 := blk_frozen BK173.out 4
                have hfz13_5 := blk_frozen BK173.out 5
                have hfz13_6 := blk_frozen BK173.out 6
                have hfz13_7 := blk_frozen BK173.out 7
                have hfz13_8 := blk_frozen BK173.out 8
                have hcz14_0 : w5.cell? ⟨gb174, 0, none⟩ = some (.int .i64 a1_0) := (blk_cell BK174.out 0).trans rfl
                have hcz14_1 : w5.cell? ⟨gb174, 1, none⟩ = some (.int .i64 a1_1) := (blk_cell BK174.out 1).trans rfl
                have hcz14_2 : w5.cell? ⟨gb174, 2, none⟩ = some (.int .u64 a1_2) := (blk_cell BK174.out 2).trans rfl
                have hcz14_3 : w5.cell? ⟨gb174, 3, none⟩ = some (.int .i64 a1_3) := (blk_cell BK174.out 3).trans rfl
                have hcz14_4 : w5.cell? ⟨gb174, 4, none⟩ = some (.int .i64 a1_4) := (blk_cell BK174.out 4).trans rfl
                have hcz14_5 : w5.cell? ⟨gb174, 5, none⟩ = some (.bool a1_5) := (blk_cell BK174.out 5).trans rfl
                have hcz14_6 : w5.cell? ⟨gb174, 6, none⟩ = some (.bool a1_6) := (blk_cell BK174.out 6).trans rfl
                have hcz14_7 : w5.cell? ⟨gb174, 7, none⟩ = some (.bool a1_7) := (blk_cell BK174.out 7).trans rfl
                have hcz14_8 : w5.cell? ⟨gb174, 8, none⟩ = some (.slice A1_8 l1_8.length c1_8) := (blk_cell BK174.out 8).trans rfl
                have hfz14_0 := blk_frozen BK174.out 0
                have hfz14_1 := blk_frozen BK174.out 1
                have hfz14_2 := blk_frozen BK174.out 2
                have hfz14_3 := blk_frozen BK174.out 3
                have hfz14_4 := blk_frozen BK174.out 4
                have hfz14_5 := blk_frozen BK174.out 5
                have hfz14_6 := blk_frozen BK174.out 6
                have hfz14_7 := blk_frozen BK174.out 7
                have hfz14_8 := blk_frozen BK174.out 8
                go_wp2
                repeat (go_quiet (fail); try go_wp2)
                go_meet
                case rel => exact ⟨_, (true), (by first | rfl | (simp; done) | (simp [*]; done)), H', ⟨by first | omega | exact Nat.le_refl _⟩, ⟨by (with_reducible repeat (first | refine blk_drewN ?_ _ | refine blk_drew ?_ | refine blk_alloc ?_ _)); exact BK173.out⟩, ⟨by (with_reducible repeat (first | refine blk_drewN ?_ _ | refine blk_drew ?_ | refine blk_alloc ?_ _)); exact BK174.out⟩, ⟨by repeat (first | (with_reducible first | exact HB.out | apply below_alloc | apply pw_below_drewN | apply below_drew1 | refine below_set ?_ GE173.out | refine below_set ?_ GE174.out) | exact HB.out)⟩⟩
              · rw [if_neg c11] at H
                have c11b0 : (a0_5 != a1_5) = false := by simpa using c11
                (try (have c11b1 : decide (a0_5 = a1_5) = true := by simpa using c11))
                (try (have c11b2 : (a0_5 == a1_5) = true := by simpa using c11))
                clear c11
                by_cases c15 : (a0_6 != a1_6) = true
                · rw [if_pos c15] at H
                  have c15b0 : (a0_6 != a1_6) = true := c15
                  (try (have c15b1 : decide (a0_6 = a1_6) = false := by simpa using c15))
                  (try (have c15b2 : (a0_6 == a1_6) = false := by simpa using c15))
                  (try (have c15b3 : ¬ (a0_6 = a1_6) := by simpa using c15))
                  clear c15
                  have H' := Aside0.mk H
                  clear H
                  have hnb16 := NB173_174.out
                  have hnc16 := NB174_173.out
                  have hcz17_0 : w5.cell? ⟨gb173, 0, none⟩ = some (.int .i64 a0_0) := (blk_cell BK173.out 0).trans rfl
                  have hcz17_1 : w5.cell? ⟨gb173, 1, none⟩ = some (.int .i64 a0_1) := (blk_cell BK173.out 1).trans rfl
                  have hcz17_2 : w5.cell? ⟨gb173, 2, none⟩ = some (.int .u64 a0_2) := (blk_cell BK173.out 2).trans rfl
                  have hcz17_3 : w5.cell? ⟨gb173, 3, none⟩ = some (.int .i64 a0_3) := (blk_cell BK173.out 3).trans rfl
                  have hcz17_4 : w5.cell? ⟨gb173, 4, none⟩ = some (.int .i64 a0_4) := (blk_cell BK173.out 4).trans rfl
                  have hcz17_5 : w5.cell? ⟨gb173, 5, none⟩ = some (.bool a0_5) := (blk_cell BK173.out 5).trans rfl
                  have hcz17_6 : w5.cell? ⟨gb173, 6, none⟩ = some (.bool a0_6) := (blk_cell BK173.out 6).trans rfl
                  have hcz17_7 : w5.cell? ⟨gb173, 7, none⟩ = some (.bool a0_7) := (blk_cell BK173.out 7).trans rfl
                  have hcz17_8 : w5.cell? ⟨gb173, 8, none⟩ = some (.slice A0_8 l0_8.length c0_8) := (blk_cell BK173.out 8).trans rfl
                  have hfz17_0 := blk_frozen BK173.out 0
                  have hfz17_1 := blk_frozen BK173.out 1
                  have hfz17_2 := blk_frozen BK173.out 2
                  have hfz17_3 := blk_frozen BK173.out 3
                  have hfz17_4 := blk_frozen BK173.out 4
                  have hfz17_5 := blk_frozen BK173.out 5
                  have hfz17_6 := blk_frozen BK173.out 6
                  have hfz17_7 := blk_frozen BK173.out 7
                  have hfz17_8 := blk_frozen BK173.out 8
                  have hcz18_0 : w5.cell? ⟨gb174, 0, none⟩ = some (.int .i64 a1_0) := (blk_cell BK174.out 0).trans rfl
                  have hcz18_1 : w5.cell? ⟨gb174, 1, none⟩ = some (.int .i64 a1_1) := (blk_cell BK174.out 1).trans rfl
                  have hcz18_2 : w5.cell? ⟨gb174, 2, none⟩ = some (.int .u64 a1_2) := (blk_cell BK174.out 2).trans rfl
                  have hcz18_3 : w5.cell? ⟨gb174, 3, none⟩ = some (.int .i64 a1_3) := (blk_cell BK174.out 3).trans rfl
                  have hcz18_4 : w5.cell? ⟨gb174, 4, none⟩ = some (.int .i64 a1_4) := (blk_cell BK174.out 4).trans rfl
                  have hcz18_5 : w5.cell? ⟨gb174, 5, none⟩ = some (.bool a1_5) := (blk_cell BK174.out 5).trans rfl
                  have hcz18_6 : w5.cell? ⟨gb174, 6, none⟩ = some (.bool a1_6) := (blk_cell BK174.out 6).trans rfl
                  have hcz18_7 : w5.cell? ⟨gb174, 7, none⟩ = some (.bool a1_7) := (blk_cell BK174.out 7).trans rfl
                  have hcz18_8 : w5.cell? ⟨gb174, 8, none⟩ = some (.slice A1_8 l1_8.length c1_8) := (blk_cell BK174.out 8).trans rfl
                  have hfz18_0 := blk_frozen BK174.out 0
                  have hfz18_1 := blk_frozen BK174.out 1
                  have hfz18_2 := blk_frozen BK174.out 2
                  have hfz18_3 := blk_frozen BK174.out 3
                  have hfz18_4 := blk_frozen BK174.out 4
                  have hfz18_5 := blk_frozen BK174.out 5
                  have hfz18_6 := blk_frozen BK174.out 6
                  have hfz18_7 := blk_frozen BK174.out 7
                  have hfz18_8 := blk_frozen BK174.out 8
                  go_wp2
                  repeat (go_quiet (fail); try go_wp2)
                  go_meet
                  case rel => exact ⟨_, (true), (by first | rfl | (simp; done) | (simp [*]; done)), H', ⟨by first | omega | exact Nat.le_refl _⟩, ⟨by (with_reducible repeat (first | refine blk_drewN ?_ _ | refine blk_drew ?_ | refine blk_alloc ?_ _)); exact BK173.out⟩, ⟨by (with_reducible repeat (first | refine blk_drewN ?_ _ | refine blk_drew ?_ | refine blk_alloc ?_ _)); exact BK174.out⟩, ⟨by repeat (first | (with_reducible first | exact HB.out | apply below_alloc | apply pw_below_drewN | apply below_drew1 | refine below_set ?_ GE173.out | refine below_set ?_ GE174.out) | exact HB.out)⟩⟩
                · rw [if_neg c15] at H
                  have c15b0 : (a0_6 != a1_6) = false := by simpa using c15
                  (try (have c15b1 : decide (a0_6 = a1_6) = true := by simpa using c15))
                  (try (have c15b2 : (a0_6 == a1_6) = true := by simpa using c15))
                  clear c15
                  by_cases c19 : (a0_7 != a1_7) = true
                  · rw [if_pos c19] at H
                    have c19b0 : (a0_7 != a1_7) = true := c19
                    (try (have c19b1 : decide (a0_7 = a1_7) = false := by simpa using c19))
                    (try (have c19b2 : (a0_7 == a1_7) = false := by simpa using c19))
                    (try (have c19b3 : ¬ (a0_7 = a1_7) := by simpa using c19))
                    clear c19
                    have H' := Aside0.mk H
                    clear H
                    have hnb20 := NB173_174.out
                    have hnc20 := NB174_173.out
                    have hcz21_0 : w5.cell? ⟨gb173, 0, none⟩ = some (.int .i64 a0_0) := (blk_cell BK173.out 0).trans rfl
                    have hcz21_1 : w5.cell? ⟨gb173, 1, none⟩ = some (.int .i64 a0_1) := (blk_cell BK173.out 1).trans rfl
                    have hcz21_2 : w5.cell? ⟨gb173, 2, none⟩ = some (.int .u64 a0_2) := (blk_cell BK173.out 2).trans rfl
                    have hcz21_3 : w5.cell? ⟨gb173, 3, none⟩ = some (.int .i64 a0_3) := (blk_cell BK173.out 3).trans rfl
                    have hcz21_4 : w5.cell? ⟨gb173, 4, none⟩ = some (.int .i64 a0_4) := (blk_cell BK173.out 4).trans rfl
                    have hcz21_5 : w5.cell? ⟨gb173, 5, none⟩ = some (.bool a0_5) := (blk_cell BK173.out 5).trans rfl
                    have hcz21_6 : w5.cell? ⟨gb173, 6, none⟩ = some (.bool a0_6) := (blk_cell BK173.out 6).trans rfl
                    have hcz21_7 : w5.cell? ⟨gb173, 7, none⟩ = some (.bool a0_7) := (blk_cell BK173.out 7).trans rfl
                    have hcz21_8 : w5.cell? ⟨gb173, 8, none⟩ = some (.slice A0_8 l0_8.length c0_8) := (blk_cell BK173.out 8).trans rfl
                    have hfz21_0 := blk_frozen BK173.out 0
                    have hfz21_1 := blk_frozen BK173.out 1
                    have hfz21_2 := blk_frozen BK173.out 2
                    have hfz21_3 := blk_frozen BK173.out 3
                    have hfz21_4 := blk_frozen BK173.out 4
                    have hfz21_5 := blk_frozen BK173.out 5
                    have hfz21_6 := blk_frozen BK173.out 6
                    have hfz21_7 := blk_frozen BK173.out 7
                    have hfz21_8 := blk_frozen BK173.out 8
                    have hcz22_0 : w5.cell? ⟨gb174, 0, none⟩ = some (.int .i64 a1_0) := (blk_cell BK174.out 0).trans rfl
                    have hcz22_1 : w5.cell? ⟨gb174, 1, none⟩ = some (.int .i64 a1_1) := (blk_cell BK174.out 1).trans rfl
                    have hcz22_2 : w5.cell? ⟨gb174, 2, none⟩ = some (.int .u64 a1_2) := (blk_cell BK174.out 2).trans rfl
                    have hcz22_3 : w5.cell? ⟨gb174, 3, none⟩ = some (.int .i64 a1_3) := (blk_cell BK174.out 3).trans rfl
                    have hcz22_4 : w5.cell? ⟨gb174, 4, none⟩ = some (.int .i64 a1_4) := (blk_cell BK174.out 4).trans rfl
                    have hcz22_5 : w5.cell? ⟨gb174, 5, none⟩ = some (.bool a1_5) := (blk_cell BK174.out 5).trans rfl
                    have hcz22_6 : w5.cell? ⟨gb174, 6, none⟩ = some (.bool a1_6) := (blk_cell BK174.out 6).trans rfl
                    have hcz22_7 : w5.cell? ⟨gb174, 7, none⟩ = some (.bool a1_7) := (blk_cell BK174.out 7).trans rfl
                    have hcz22_8 : w5.cell? ⟨gb174, 8, none⟩ = some (.slice A1_8 l1_8.length c1_8) := (blk_cell BK174.out 8).trans rfl
                    have hfz22_0 := blk_frozen BK174.out 0
                    have hfz22_1 := blk_frozen BK174.out 1
                    have hfz22_2 := blk_frozen BK174.out 2
                    have hfz22_3 := blk_frozen BK174.out 3
                    have hfz22_4 := blk_frozen BK174.out 4
                    have hfz22_5 := blk_frozen BK174.out 5
                    have hfz22_6 := blk_frozen BK174.out 6
                    have hfz22_7 := blk_frozen BK174.out 7
                    have hfz22_8 := blk_frozen BK174.out 8
                    go_wp2
                    repeat (go_quiet (fail); try go_wp2)
                    go_meet
                    case rel => exact ⟨_, (true), (by first | rfl | (simp; done) | (simp [*]; done)), H', ⟨by first | omega | exact Nat.le_refl _⟩, ⟨by (with_reducible repeat (first | refine blk_drewN ?_ _ | refine blk_drew ?_ | refine blk_alloc ?_ _)); exact BK173.out⟩, ⟨by (with_reducible repeat (first | refine blk_drewN ?_ _ | refine blk_drew ?_ | refine blk_alloc ?_ _)); exact BK174.out⟩, ⟨by repeat (first | (with_reducible first | exact HB.out | apply below_alloc | apply pw_below_drewN | apply below_drew1 | refine below_set ?_ GE173.out | refine below_set ?_ GE174.out) | exact HB.out)⟩⟩
                  · rw [if_neg c19] at H
                    have c19b0 : (a0_7 != a1_7) = false := by simpa using c19
                    (try (have c19b1 : decide (a0_7 = a1_7) = true := by simpa using c19))
                    (try (have c19b2 : (a0_7 == a1_7) = true := by simpa using c19))
                    clear c19
                    have H' := Aside0.mk H
                    clear H
                    have hnb23 := NB173_174.out
                    have hnc23 := NB174_173.out
                    have hcz24_0 : w5.cell? ⟨gb173, 0, none⟩ = some (.int .i64 a0_0) := (blk_cell BK173.out 0).trans rfl
                    have hcz24_1 : w5.cell? ⟨gb173, 1, none⟩ = some (.int .i64 a0_1) := (blk_cell BK173.out 1).trans rfl
                    have hcz24_2 : w5.cell? ⟨gb173, 2, none⟩ = some (.int .u64 a0_2) := (blk_cell BK173.out 2).trans rfl
                    have hcz24_3 : w5.cell? ⟨gb173, 3, none⟩ = some (.int .i64 a0_3) := (blk_cell BK173.out 3).trans rfl
                    have hcz24_4 : w5.cell? ⟨gb173, 4, none⟩ = some (.int .i64 a0_4) := (blk_cell BK173.out 4).trans rfl
                    have hcz24_5 : w5.cell? ⟨gb173, 5, none⟩ = some (.bool a0_5) := (blk_cell BK173.out 5).trans rfl
                    have hcz24_6 : w5.cell? ⟨gb173, 6, none⟩ = some (.bool a0_6) := (blk_cell BK173.out 6).trans rfl
                    have hcz24_7 : w5.cell? ⟨gb173, 7, none⟩ = some (.bool a0_7) := (blk_cell BK173.out 7).trans rfl
                    have hcz24_8 : w5.cell? ⟨gb173, 8, none⟩ = some (.slice A0_8 l0_8.length c0_8) := (blk_cell BK173.out 8).trans rfl
                    have hfz24_0 := blk_frozen BK173.out 0
                    have hfz24_1 := blk_frozen BK173.out 1
                    have hfz24_2 := blk_frozen BK173.out 2
                    have hfz24_3 := blk_frozen BK173.out 3
                    have hfz24_4 := blk_frozen BK173.out 4
                    have hfz24_5 := blk_frozen BK173.out 5
                    have hfz24_6 := blk_frozen BK173.out 6
                    have hfz24_7 := blk_frozen BK173.out 7
                    have hfz24_8 := blk_frozen BK173.out 8
                    have hcz25_0 : w5.cell? ⟨gb174, 0, none⟩ = some (.int .i64 a1_0) := (blk_cell BK174.out 0).trans rfl
                    have hcz25_1 : w5.cell? ⟨gb174, 1, none⟩ = some (.int .i64 a1_1) := (blk_cell BK174.out 1).trans rfl
                    have hcz25_2 : w5.cell? ⟨gb174, 2, none⟩ = some (.int .u64 a1_2) := (blk_cell BK174.out 2).trans rfl
                    have hcz25_3 : w5.cell? ⟨gb174, 3, none⟩ = some (.int .i64 a1_3) := (blk_cell BK174.out 3).trans rfl
                    have hcz25_4 : w5.cell? ⟨gb174, 4, none⟩ = some (.int .i64 a1_4) := (blk_cell BK174.out 4).trans rfl
                    have hcz25_5 : w5.cell? ⟨gb174, 5, none⟩ = some (.bool a1_5) := (blk_cell BK174.out 5).trans rfl
                    have hcz25_6 : w5.cell? ⟨gb174, 6, none⟩ = some (.bool a1_6) := (blk_cell BK174.out 6).trans rfl
                    have hcz25_7 : w5.cell? ⟨gb174, 7, none⟩ = some (.bool a1_7) := (blk_cell BK174.out 7).trans rfl
                    have hcz25_8 : w5.cell? ⟨gb174, 8, none⟩ = some (.slice A1_8 l1_8.length c1_8) := (blk_cell BK174.out 8).trans rfl
                    have hfz25_0 := blk_frozen BK174.out 0
                    have hfz25_1 := blk_frozen BK174.out 1
                    have hfz25_2 := blk_frozen BK174.out 2
                    have hfz25_3 := blk_frozen BK174.out 3
                    have hfz25_4 := blk_frozen BK174.out 4
                    have hfz25_5 := blk_frozen BK174.out 5
                    have hfz25_6 := blk_frozen BK174.out 6
                    have hfz25_7 := blk_frozen BK174.out 7
                    have hfz25_8 := blk_frozen BK174.out 8
                    go_wp2
                    repeat (go_quiet (fail); try go_wp2)
                    go_meet
                    case rel => exact ⟨_, (((l0_8.length : Int) != (l1_8.length : Int))), (by first | rfl | (simp; done) | (simp [*]; done)), H', ⟨by first | omega | exact Nat.le_refl _⟩, ⟨by (with_reducible repeat (first | refine blk_drewN ?_ _ | refine blk_drew ?_ | refine blk_alloc ?_ _)); exact BK173.out⟩, ⟨by (with_reducible repeat (first | refine blk_drewN ?_ _ | refine blk_drew ?_ | refine blk_alloc ?_ _)); exact BK174.out⟩, ⟨by repeat (first | (with_reducible first | exact HB.out | apply below_alloc | apply pw_below_drewN | apply below_drew1 | refine below_set ?_ GE173.out | refine below_set ?_ GE174.out) | exact HB.out)⟩⟩
            · rw [if_neg c10] at H
              have c10b0 : (a0_4 == a1_4) = false := beq_eq_false_iff_ne.mpr c10
              have c10b1 : (a0_4 != a1_4) = true := bne_iff_ne.mpr c10
              have H' := Aside0.mk H
              clear H
              have hnb26 := NB173_174.out
              have hnc26 := NB174_173.out
              have hcz27_0 : w5.cell? ⟨gb173, 0, none⟩ = some (.int .i64 a0_0) := (blk_cell BK173.out 0).trans rfl
              have hcz27_1 : w5.cell? ⟨gb173, 1, none⟩ = some (.int .i64 a0_1) := (blk_cell BK173.out 1).trans rfl
              have hcz27_2 : w5.cell? ⟨gb173, 2, none⟩ = some (.int .u64 a0_2) := (blk_cell BK173.out 2).trans rfl
              have hcz27_3 : w5.cell? ⟨gb173, 3, none⟩ = some (.int .i64 a0_3) := (blk_cell BK173.out 3).trans rfl
              have hcz27_4 : w5.cell? ⟨gb173, 4, none⟩ = some (.int .i64 a0_4) := (blk_cell BK173.out 4).trans rfl
              have hcz27_5 : w5.cell? ⟨gb173, 5, none⟩ = some (.bool a0_5) := (blk_cell BK173.out 5).trans rfl
              have hcz27_6 : w5.cell? ⟨gb173, 6, none⟩ = some (.bool a0_6) := (blk_cell BK173.out 6).trans rfl
              have hcz27_7 : w5.cell? ⟨gb173, 7, none⟩ = some (.bool a0_7) := (blk_cell BK173.out 7).trans rfl
              have hcz27_8 : w5.cell? ⟨gb173, 8, none⟩ = some (.slice A0_8 l0_8.length c0_8) := (blk_cell BK173.out 8).trans rfl
              have hfz27_0 := blk_frozen BK173.out 0
              have hfz27_1 := blk_frozen BK173.out 1
              have hfz27_2 := blk_frozen BK173.out 2
              have hfz27_3 := blk_frozen BK173.out 3
              have hfz27_4 := blk_frozen BK173.out 4
              have hfz27_5 := blk_frozen BK173.out 5
              have hfz27_6 := blk_frozen BK173.out 6
              have hfz27_7 := blk_frozen BK173.out 7
              have hfz27_8 := blk_frozen BK173.out 8
              have hcz28_0 : w5.cell? ⟨gb174, 0, none⟩ = some (.int .i64 a1_0) := (blk_cell BK174.out 0).trans rfl
              have hcz28_1 : w5.cell? ⟨gb174, 1, none⟩ = some (.int .i64 a1_1) := (blk_cell BK174.out 1).trans rfl
              have hcz28_2 : w5.cell? ⟨gb174, 2, none⟩ = some (.int .u64 a1_2) := (blk_cell BK174.out 2).trans rfl
              have hcz28_3 : w5.cell? ⟨gb174, 3, none⟩ = some (.int .i64 a1_3) := (blk_cell BK174.out 3).trans rfl
              have hcz28_4 : w5.cell? ⟨gb174, 4, none⟩ = some (.int .i64 a1_4) := (blk_cell BK174.out 4).trans rfl
              have hcz28_5 : w5.cell? ⟨gb174, 5, none⟩ = some (.bool a1_5) := (blk_cell BK174.out 5).trans rfl
              have hcz28_6 : w5.cell? ⟨gb174, 6, none⟩ = some (.bool a1_6) := (blk_cell BK174.out 6).trans rfl
              have hcz28_7 : w5.cell? ⟨gb174, 7, none⟩ = some (.bool a1_7) := (blk_cell BK174.out 7).trans rfl
              have hcz28_8 : w5.cell? ⟨gb174, 8, none⟩ = some (.slice A1_8 l1_8.length c1_8) := (blk_cell BK174.out 8).trans rfl
              have hfz28_0 := blk_frozen BK174.out 0
              have hfz28_1 := blk_frozen BK174.out 1
              have hfz28_2 := blk_frozen BK174.out 2
              have hfz28_3 := blk_frozen BK174.out 3
              have hfz28_4 := blk_frozen BK174.out 4
              have hfz28_5 := blk_frozen BK174.out 5
              have hfz28_6 := blk_frozen BK174.out 6
              have hfz28_7 := blk_frozen BK174.out 7
              have hfz28_8 := blk_frozen BK174.out 8
              go_wp2
              repeat (go_quiet (fail); try go_wp2)
              go_meet
              case rel => exact ⟨_, (true), (by first | rfl | (simp; done) | (simp [*]; done)), H', ⟨by first | omega | exact Nat.le_refl _⟩, ⟨by (with_reducible repeat (first | refine blk_drewN ?_ _ | refine blk_drew ?_ | refine blk_alloc ?_ _)); exact BK173.out⟩, ⟨by (with_reducible repeat (first | refine blk_drewN ?_ _ | refine blk_drew ?_ | refine blk_alloc ?_ _)); exact BK174.out⟩, ⟨by repeat (first | (with_reducible first | exact HB.out | apply below_alloc | apply pw_below_drewN | apply below_drew1 | refine below_set ?_ GE173.out | refine below_set ?_ GE174.out) | exact HB.out)⟩⟩
          · rw [if_neg c9] at H
            have c9b0 : (a0_3 == a1_3) = false := beq_eq_false_iff_ne.mpr c9
            have c9b1 : (a0_3 != a1_3) = true := bne_iff_ne.mpr c9
            have H' := Aside0.mk H
            clear H
            have hnb29 := NB173_174.out
            have hnc29 := NB174_173.out
            have hcz30_0 : w5.cell? ⟨gb173, 0, none⟩ = some (.int .i64 a0_0) := (blk_cell BK173.out 0).trans rfl
            have hcz30_1 : w5.cell? ⟨gb173, 1, none⟩ = some (.int .i64 a0_1) := (blk_cell BK173.out 1).trans rfl
            have hcz30_2 : w5.cell? ⟨gb173, 2, none⟩ = some (.int .u64 a0_2) := (blk_cell BK173.out 2).trans rfl
            have hcz30_3 : w5.cell? ⟨gb173, 3, none⟩ = some (.int .i64 a0_3) := (blk_cell BK173.out 3).trans rfl
            have hcz30_4 : w5.cell? ⟨gb173, 4, none⟩ = some (.int .i64 a0_4) := (blk_cell BK173.out 4).trans rfl
            have hcz30_5 : w5.cell? ⟨gb173, 5, none⟩ = some (.bool a0_5) := (blk_cell BK173.out 5).trans rfl
            have hcz30_6 : w5.cell? ⟨gb173, 6, none⟩ = some (.bool a0_6) := (blk_cell BK173.out 6).trans rfl
            have hcz30_7 : w5.cell? ⟨gb173, 7, none⟩ = some (.bool a0_7) := (blk_cell BK173.out 7).trans rfl
            have hcz30_8 : w5.cell? ⟨gb173, 8, none⟩ = some (.slice A0_8 l0_8.length c0_8) := (blk_cell BK173.out 8).trans rfl
            have hfz30_0 := blk_frozen BK173.out 0
            have hfz30_1 := blk_frozen BK173.out 1
            have hfz30_2 := blk_frozen BK173.out 2
            have hfz30_3 := blk_frozen BK173.out 3
            have hfz30_4 := blk_frozen BK173.out 4
            have hfz30_5 := blk_frozen BK173.out 5
            have hfz30_6 := blk_frozen BK173.out 6
            have hfz30_7 := blk_frozen BK173.out 7
            have hfz30_8 := blk_frozen BK173.out 8
            have hcz31_0 : w5.cell? ⟨gb174, 0, none⟩ = some (.int .i64 a1_0) := (blk_cell BK174.out 0).trans rfl
            have hcz31_1 : w5.cell? ⟨gb174, 1, none⟩ = some (.int .i64 a1_1) := (blk_cell BK174.out 1).trans rfl
            have hcz31_2 : w5.cell? ⟨gb174, 2, none⟩ = some (.int .u64 a1_2) := (blk_cell BK174.out 2).trans rfl
            have hcz31_3 : w5.cell? ⟨gb174, 3, none⟩ = some (.int .i64 a1_3) := (blk_cell BK174.out 3).trans rfl
            have hcz31_4 : w5.cell? ⟨gb174, 4, none⟩ = some (.int .i64 a1_4) := (blk_cell BK174.out 4).trans rfl
            have hcz31_5 : w5.cell? ⟨gb174, 5, none⟩ = some (.bool a1_5) := (blk_cell BK174.out 5).trans rfl
            have hcz31_6 : w5.cell? ⟨gb174, 6, none⟩ = some (.bool a1_6) := (blk_cell BK174.out 6).trans rfl
            have hcz31_7 : w5.cell? ⟨gb174, 7, none⟩ = some (.bool a1_7) := (blk_cell BK174.out 7).trans rfl
            have hcz31_8 : w5.cell? ⟨gb174, 8, none⟩ = some (.slice A1_8 l1_8.length c1_8) := (blk_cell BK174.out 8).trans rfl
            have hfz31_0 := blk_frozen BK174.out 0
            have hfz31_1 := blk_frozen BK174.out 1
            have hfz31_2 := blk_frozen BK174.out 2
            have hfz31_3 := blk_frozen BK174.out 3
            have hfz31_4 := blk_frozen BK174.out 4
            have hfz31_5 := blk_frozen BK174.out 5
            have hfz31_6 := blk_frozen BK174.out 6
            have hfz31_7 := blk_frozen BK174.out 7
            have hfz31_8 := blk_frozen BK174.out 8
            go_wp2
            repeat (go_quiet (fail); try go_wp2)
            go_meet
            case rel => exact ⟨_, (true), (by first | rfl | (simp; done) | (simp [*]; done)), H', ⟨by first | omega | exact Nat.le_refl _⟩, ⟨by (with_reducible repeat (first | refine blk_drewN ?_ _ | refine blk_drew ?_ | refine blk_alloc ?_ _)); exact BK173.out⟩, ⟨by (with_reducible repeat (first | refine blk_drewN ?_ _ | refine blk_drew ?_ | refine blk_alloc ?_ _)); exact BK174.out⟩, ⟨by repeat (first | (with_reducible first | exact HB.out | apply below_alloc | apply pw_below_drewN | apply below_drew1 | refine below_set ?_ GE173.out | refine below_set ?_ GE174.out) | exact HB.out)⟩⟩
        · rw [if_neg c8] at H
          have c8b0 : (a0_2 == a1_2) = false := beq_eq_false_iff_ne.mpr c8
          have c8b1 : (a0_2 != a1_2) = true := bne_iff_ne.mpr c8
          have H' := Aside0.mk H
          clear H
          have hnb32 := NB173_174.out
          have hnc32 := NB174_173.out
          have hcz33_0 : w5.cell? ⟨gb173, 0, none⟩ = some (.int .i64 a0_0) := (blk_cell BK173.out 0).trans rfl
          have hcz33_1 : w5.cell? ⟨gb173, 1, none⟩ = some (.int .i64 a0_1) := (blk_cell BK173.out 1).trans rfl
          have hcz33_2 : w5.cell? ⟨gb173, 2, none⟩ = some (.int .u64 a0_2) := (blk_cell BK173.out 2).trans rfl
          have hcz33_3 : w5.cell? ⟨gb173, 3, none⟩ = some (.int .i64 a0_3) := (blk_cell BK173.out 3).trans rfl
          have hcz33_4 : w5.cell? ⟨gb173, 4, none⟩ = some (.int .i64 a0_4) := (blk_cell BK173.out 4).trans rfl
          have hcz33_5 : w5.cell? ⟨gb173, 5, none⟩ = some (.bool a0_5) := (blk_cell BK173.out 5).trans rfl
          have hcz33_6 : w5.cell? ⟨gb173, 6, none⟩ = some (.bool a0_6) := (blk_cell BK173.out 6).trans rfl
          have hcz33_7 : w5.cell? ⟨gb173, 7, none⟩ = some (.bool a0_7) := (blk_cell BK173.out 7).trans rfl
          have hcz33_8 : w5.cell? ⟨gb173, 8, none⟩ = some (.slice A0_8 l0_8.length c0_8) := (blk_cell BK173.out 8).trans rfl
          have hfz33_0 := blk_frozen BK173.out 0
          have hfz33_1 := blk_frozen BK173.out 1
          have hfz33_2 := blk_frozen BK173.out 2
          have hfz33_3 := blk_frozen BK173.out 3
          have hfz33_4 := blk_frozen BK173.out 4
          have hfz33_5 := blk_frozen BK173.out 5
          have hfz33_6 := blk_frozen BK173.out 6
          have hfz33_7 := blk_frozen BK173.out 7
          have hfz33_8 := blk_frozen BK173.out 8
          have hcz34_0 : w5.cell? ⟨gb174, 0, none⟩ = some (.int .i64 a1_0) := (blk_cell BK174.out 0).trans rfl
          have hcz34_1 : w5.cell? ⟨gb174, 1, none⟩ = some (.int .i64 a1_1) := (blk_cell BK174.out 1).trans rfl
          have hcz34_2 : w5.cell? ⟨gb174, 2, none⟩ = some (.int .u64 a1_2) := (blk_cell BK174.out 2).trans rfl
          have hcz34_3 : w5.cell? ⟨gb174, 3, none⟩ = some (.int .i64 a1_3) := (blk_cell BK174.out 3).trans rfl
          have hcz34_4 : w5.cell? ⟨gb174, 4, none⟩ = some (.int .i64 a1_4) := (blk_cell BK174.out 4).trans rfl
          have hcz34_5 : w5.cell? ⟨gb174, 5, none⟩ = some (.bool a1_5) := (blk_cell BK174.out 5).trans rfl
          have hcz34_6 : w5.cell? ⟨gb174, 6, none⟩ = some (.bool a1_6) := (blk_cell BK174.out 6).trans rfl
          have hcz34_7 : w5.cell? ⟨gb174, 7, none⟩ = some (.bool a1_7) := (blk_cell BK174.out 7).trans rfl
          have hcz34_8 : w5.cell? ⟨gb174, 8, none⟩ = some (.slice A1_8 l1_8.length c1_8) := (blk_cell BK174.out 8).trans rfl
          have hfz34_0 := blk_frozen BK174.out 0
          have hfz34_1 := blk_frozen BK174.out 1
          have hfz34_2 := blk_frozen BK174.out 2
          have hfz34_3 := blk_frozen BK174.out 3
          have hfz34_4 := blk_frozen BK174.out 4
          have hfz34_5 := blk_frozen BK174.out 5
          have hfz34_6 := blk_frozen BK174.out 6
          have hfz34_7 := blk_frozen BK174.out 7
          have hfz34_8 := blk_frozen BK174.out 8
          go_wp2
          repeat (go_quiet (fail); try go_wp2)
          go_meet
          case rel => exact ⟨_, (true), (by first | rfl | (simp; done) | (simp [*]; done)), H', ⟨by first | omega | exact Nat.le_refl _⟩, ⟨by (with_reducible repeat (first | refine blk_drewN ?_ _ | refine blk_drew ?_ | refine blk_alloc ?_ _)); exact BK173.out⟩, ⟨by (with_reducible repeat (first | refine blk_drewN ?_ _ | refine blk_drew ?_ | refine blk_alloc ?_ _)); exact BK174.out⟩, ⟨by repeat (first | (with_reducible first | exact HB.out | apply below_alloc | apply pw_below_drewN | apply below_drew1 | refine below_set ?_ GE173.out | refine below_set ?_ GE174.out) | exact HB.out)⟩⟩
      · rw [if_neg c7] at H
        have c7b0 : (a0_1 == a1_1) = false := beq_eq_false_iff_ne.mpr c7
        have c7b1 : (a0_1 != a1_1) = true := bne_iff_ne.mpr c7
        have H' := Aside0.mk H
        clear H
        have hnb35 := NB173_174.out
        have hnc35 := NB174_173.out
        have hcz36_0 : w5.cell? ⟨gb173, 0, none⟩ = some (.int .i64 a0_0) := (blk_cell BK173.out 0).trans rfl
        have hcz36_1 : w5.cell? ⟨gb173, 1, none⟩ = some (.int .i64 a0_1) := (blk_cell BK173.out 1).trans rfl
        have hcz36_2 : w5.cell? ⟨gb173, 2, none⟩ = some (.int .u64 a0_2) := (blk_cell BK173.out 2).trans rfl
        have hcz36_3 : w5.cell? ⟨gb173, 3, none⟩ = some (.int .i64 a0_3) := (blk_cell BK173.out 3).trans rfl
        have hcz36_4 : w5.cell? ⟨gb173, 4, none⟩ = some (.int .i64 a0_4) := (blk_cell BK173.out 4).trans rfl
        have hcz36_5 : w5.cell? ⟨gb173, 5, none⟩ = some (.bool a0_5) := (blk_cell BK173.out 5).trans rfl
        have hcz36_6 : w5.cell? ⟨gb173, 6, none⟩ = some (.bool a0_6) := (blk_cell BK173.out 6).trans rfl
        have hcz36_7 : w5.cell? ⟨gb173, 7, none⟩ = some (.bool a0_7) := (blk_cell BK173.out 7).trans rfl
        have hcz36_8 : w5.cell? ⟨gb173, 8, none⟩ = some (.slice A0_8 l0_8.length c0_8) := (blk_cell BK173.out 8).trans rfl
        have hfz36_0 := blk_frozen BK173.out 0
        have hfz36_1 := blk_frozen BK173.out 1
        have hfz36_2 := blk_frozen BK173.out 2
        have hfz36_3 := blk_frozen BK173.out 3
        have hfz36_4 := blk_frozen BK173.out 4
        have hfz36_5 := blk_frozen BK173.out 5
        have hfz36_6 := blk_frozen BK173.out 6
        have hfz36_7 := blk_frozen BK173.out 7
        have hfz36_8 := blk_frozen BK173.out 8
        have hcz37_0 : w5.cell? ⟨gb174, 0, none⟩ = some (.int .i64 a1_0) := (blk_cell BK174.out 0).trans rfl
        have hcz37_1 : w5.cell? ⟨gb174, 1, none⟩ = some (.int .i64 a1_1) := (blk_cell BK174.out 1).trans rfl
        have hcz37_2 : w5.cell? ⟨gb174, 2, none⟩ = some (.int .u64 a1_2) := (blk_cell BK174.out 2).trans rfl
        have hcz37_3 : w5.cell? ⟨gb174, 3, none⟩ = some (.int .i64 a1_3) := (blk_cell BK174.out 3).trans rfl
        have hcz37_4 : w5.cell? ⟨gb174, 4, none⟩ = some (.int .i64 a1_4) := (blk_cell BK174.out 4).trans rfl
        have hcz37_5 : w5.cell? ⟨gb174, 5, none⟩ = some (.bool a1_5) := (blk_cell BK174.out 5).trans rfl
        have hcz37_6 : w5.cell? ⟨gb174, 6, none⟩ = some (.bool a1_6) := (blk_cell BK174.out 6).trans rfl
        have hcz37_7 : w5.cell? ⟨gb174, 7, none⟩ = some (.bool a1_7) := (blk_cell BK174.out 7).trans rfl
        have hcz37_8 : w5.cell? ⟨gb174, 8, none⟩ = some (.slice A1_8 l1_8.length c1_8) := (blk_cell BK174.out 8).trans rfl
        have hfz37_0 := blk_frozen BK174.out 0
        have hfz37_1 := blk_frozen BK174.out 1
        have hfz37_2 := blk_frozen BK174.out 2
        have hfz37_3 := blk_frozen BK174.out 3
        have hfz37_4 := blk_frozen BK174.out 4
        have hfz37_5 := blk_frozen BK174.out 5
        have hfz37_6 := blk_frozen BK174.out 6
        have hfz37_7 := blk_frozen BK174.out 7
        have hfz37_8 := blk_frozen BK174.out 8
        go_wp2
        repeat (go_quiet (fail); try go_wp2)
        go_meet
        case rel => exact ⟨_, (true), (by first | rfl | (simp; done) | (simp [*]; done)), H', ⟨by first | omega | exact Nat.le_refl _⟩, ⟨by (with_reducible repeat (first | refine blk_drewN ?_ _ | refine blk_drew ?_ | refine blk_alloc ?_ _)); exact BK173.out⟩, ⟨by (with_reducible repeat (first | refine blk_drewN ?_ _ | refine blk_drew ?_ | refine blk_alloc ?_ _)); exact BK174.out⟩, ⟨by repeat (first | (with_reducible first | exact HB.out | apply below_alloc | apply pw_below_drewN | apply below_drew1 | refine below_set ?_ GE173.out | refine below_set ?_ GE174.out) | exact HB.out)⟩⟩
    · rw [if_neg c6] at H
      have c6b0 : (a0_0 == a1_0) = false := beq_eq_false_iff_ne.mpr c6
      have c6b1 : (a0_0 != a1_0) = true := bne_iff_ne.mpr c6
      (first | rw [c6b0] | (simp only [i64_w, i32_w]; rw [c6b0]) | skip)
      have H' := Aside0.mk H
      clear H
      have hnb38 := NB173_174.out
      have hnc38 := NB174_173.out
      have hcz39_0 : w5.cell? ⟨gb173, 0, none⟩ = some (.int .i64 a0_0) := (blk_cell BK173.out 0).trans rfl
      have hcz39_1 : w5.cell? ⟨gb173, 1, none⟩ = some (.int .i64 a0_1) := (blk_cell BK173.out 1).trans rfl
      have hcz39_2 : w5.cell? ⟨gb173, 2, none⟩ = some (.int .u64 a0_2) := (blk_cell BK173.out 2).trans rfl
      have hcz39_3 : w5.cell? ⟨gb173, 3, none⟩ = some (.int .i64 a0_3) := (blk_cell BK173.out 3).trans rfl
      have hcz39_4 : w5.cell? ⟨gb173, 4, none⟩ = some (.int .i64 a0_4) := (blk_cell BK173.out 4).trans rfl
      have hcz39_5 : w5.cell? ⟨gb173, 5, none⟩ = some (.bool a0_5) := (blk_cell BK173.out 5).trans rfl
      have hcz39_6 : w5.cell? ⟨gb173, 6, none⟩ = some (.bool a0_6) := (blk_cell BK173.out 6).trans rfl
      have hcz39_7 : w5.cell? ⟨gb173, 7, none⟩ = some (.bool a0_7) := (blk_cell BK173.out 7).trans rfl
      have hcz39_8 : w5.cell? ⟨gb173, 8, none⟩ = some (.slice A0_8 l0_8.length c0_8) := (blk_cell BK173.out 8).trans rfl
      have hfz39_0 := blk_frozen BK173.out 0
      have hfz39_1 := blk_frozen BK173.out 1
      have hfz39_2 := blk_frozen BK173.out 2
      have hfz39_3 := blk_frozen BK173.out 3
      have hfz39_4 := blk_frozen BK173.out 4
      have hfz39_5 := blk_frozen BK173.out 5
      have hfz39_6 := blk_frozen BK173.out 6
      have hfz39_7 := blk_frozen BK173.out 7
      have hfz39_8 := blk_frozen BK173.out 8
      have hcz40_0 : w5.cell? ⟨gb174, 0, none⟩ = some (.int .i64 a1_0) := (blk_cell BK174.out 0).trans rfl
      have hcz40_1 : w5.cell? ⟨gb174, 1, none⟩ = some (.int .i64 a1_1) := (blk_cell BK174.out 1).trans rfl
      have hcz40_2 : w5.cell? ⟨gb174, 2, none⟩ = some (.int .u64 a1_2) := (blk_cell BK174.out 2).trans rfl
      have hcz40_3 : w5.cell? ⟨gb174, 3, none⟩ = some (.int .i64 a1_3) := (blk_cell BK174.out 3).trans rfl
      have hcz40_4 : w5.cell? ⟨gb174, 4, none⟩ = some (.int .i64 a1_4) := (blk_cell BK174.out 4).trans rfl
      have hcz40_5 : w5.cell? ⟨gb174, 5, none⟩ = some (.bool a1_5) := (blk_cell BK174.out 5).trans rfl
      have hcz40_6 : w5.cell? ⟨gb174, 6, none⟩ = some (.bool a1_6) := (blk_cell BK174.out 6).trans rfl
      have hcz40_7 : w5.cell? ⟨gb174, 7, none⟩ = some (.bool a1_7) := (blk_cell BK174.out 7).trans rfl
      have hcz40_8 : w5.cell? ⟨gb174, 8, none⟩ = some (.slice A1_8 l1_8.length c1_8) := (blk_cell BK174.out 8).trans rfl
      have hfz40_0 := blk_frozen BK174.out 0
      have hfz40_1 := blk_frozen BK174.out 1
      have hfz40_2 := blk_frozen BK174.out 2
      have hfz40_3 := blk_frozen BK174.out 3
      have hfz40_4 := blk_frozen BK174.out 4
      have hfz40_5 := blk_frozen BK174.out 5
      have hfz40_6 := blk_frozen BK174.out 6
      have hfz40_7 := blk_frozen BK174.out 7
      have hfz40_8 := blk_frozen BK174.out 8
      go_wp2
      repeat (go_quiet (fail); try go_wp2)
      go_meet
      case rel => exact ⟨_, (true), (by first | rfl | (simp; done) | (simp [*]; done)), H', ⟨by first | omega | exact Nat.le_refl _⟩, ⟨by (with_reducible repeat (first | refine blk_drewN ?_ _ | refine blk_drew ?_ | refine blk_alloc ?_ _)); exact BK173.out⟩, ⟨by (with_reducible repeat (first | refine blk_drewN ?_ _ | refine blk_drew ?_ | refine blk_alloc ?_ _)); exact BK174.out⟩, ⟨by repeat (first | (with_reducible first | exact HB.out | apply below_alloc | apply pw_below_drewN | apply below_drew1 | refine below_set ?_ GE173.out | refine below_set ?_ GE174.out) | exact HB.out)⟩⟩
  case rest =>
    clear HC3
    try clear c1
    try clear c2
    try clear p2
    try clear c3
    try clear c6
    try clear c6b0
    try clear c6b1
    try clear c7
    try clear c7b0
    try clear c7b1
    try clear c8
    try clear c8b0
    try clear c8b1
    try clear c9
    try clear c9b0
    try clear c9b1
    try clear c10
    try clear c10b0
    try clear c10b1
    try clear c11
    try clear c11b0
    try clear c11b1
    try clear c11b2
    try clear c12
    try clear c15
    try clear c15b0
    try clear c15b1
    try clear c15b2
    try clear c16
    try clear c19
    try clear c19b0
    try clear c19b1
    try clear c19b2
    try clear c20
    try clear c23
    try clear c26
    try clear c29
    try clear c32
    try clear c35
    try clear c38
    try clear hcz13_0
    try clear hcz13_1
    try clear hcz13_2
    try clear hcz13_3
    try clear hcz13_4
    try clear hcz13_5
    try clear hcz13_6
    try clear hcz13_7
    try clear hcz13_8
    try clear hcz14_0
    try clear hcz14_1
    try clear hcz14_2
    try clear hcz14_3
    try clear hcz14_4
    try clear hcz14_5
    try clear hcz14_6
    try clear hcz14_7
    try clear hcz14_8
    try clear hcz17_0
    try clear hcz17_1
    try clear hcz17_2
    try clear hcz17_3
    try clear hcz17_4
    try clear hcz17_5
    try clear hcz17_6
    try clear hcz17_7
    try clear hcz17_8
    try clear hcz18_0
    try clear hcz18_1
    try clear hcz18_2
    try clear hcz18_3
    try clear hcz18_4
    try clear hcz18_5
    try clear hcz18_6
    try clear hcz18_7
    try clear hcz18_8
    try clear hcz21_0
    try clear hcz21_1
    try clear hcz21_2
    try clear hcz21_3
    try clear hcz21_4
    try clear hcz21_5
    try clear hcz21_6
    try clear hcz21_7
    try clear hcz21_8
    try clear hcz22_0
    try clear hcz22_1
    try clear hcz22_2
    try clear hcz22_3
    try clear hcz22_4
    try clear hcz22_5
    try clear hcz22_6
    try clear hcz22_7
    try clear hcz22_8
    try clear hcz24_0
    try clear hcz24_1
    try clear hcz24_2
    try clear hcz24_3
    try clear hcz24_4
    try clear hcz24_5
    try clear hcz24_6
    try clear hcz24_7
    try clear hcz24_8
    try clear hcz25_0
    try clear hcz25_1
    try clear hcz25_2
    try clear hcz25_3
    try clear hcz25_4
    try clear hcz25_5
    try clear hcz25_6
    try clear hcz25_7
    try clear hcz25_8
    try clear hcz27_0
    try clear hcz27_1
    try clear hcz27_2
    try clear hcz27_3
    try clear hcz27_4
    try clear hcz27_5
    try clear hcz27_6
    try clear hcz27_7
    try clear hcz27_8
    try clear hcz28_0
    try clear hcz28_1
    try clear hcz28_2
    try clear hcz28_3
    try clear hcz28_4
    try clear hcz28_5
    try clear hcz28_6
    try clear hcz28_7
    try clear hcz28_8
    try clear hcz30_0
    try clear hcz30_1
    try clear hcz30_2
    try clear hcz30_3
    try clear hcz30_4
    try clear hcz30_5
    try clear hcz30_6
    try clear hcz30_7
    try clear hcz30_8
    try clear hcz31_0
    try clear hcz31_1
    try clear hcz31_2
    try clear hcz31_3
    try clear hcz31_4
    try clear hcz31_5
    try clear hcz31_6
    try clear hcz31_7
    try clear hcz31_8
    try clear hcz33_0
    try clear hcz33_1
    try clear hcz33_2
    try clear hcz33_3
    try clear hcz33_4
    try clear hcz33_5
    try clear hcz33_6
    try clear hcz33_7
    try clear hcz33_8
    try clear hcz34_0
    try clear hcz34_1
    try clear hcz34_2
    try clear hcz34_3
    try clear hcz34_4
    try clear hcz34_5
    try clear hcz34_6
    try clear hcz34_7
    try clear hcz34_8
    try clear hcz36_0
    try clear hcz36_1
    try clear hcz36_2
    try clear hcz36_3
    try clear hcz36_4
    try clear hcz36_5
    try clear hcz36_6
    try clear hcz36_7
    try clear hcz36_8
    try clear hcz37_0
    try clear hcz37_1
    try clear hcz37_2
    try clear hcz37_3
    try clear hcz37_4
    try clear hcz37_5
    try clear hcz37_6
    try clear hcz37_7
    try clear hcz37_8
    try clear hcz39_0
    try clear hcz39_1
    try clear hcz39_2
    try clear hcz39_3
    try clear hcz39_4
    try clear hcz39_5
    try clear hcz39_6
    try clear hcz39_7
    try clear hcz39_8
    try clear hcz40_0
    try clear hcz40_1
    try clear hcz40_2
    try clear hcz40_3
    try clear hcz40_4
    try clear hcz40_5
    try clear hcz40_6
    try clear hcz40_7
    try clear hcz40_8
    try clear hfz13_0
    try clear hfz13_1
    try clear hfz13_2
    try clear hfz13_3
    try clear hfz13_4
    try clear hfz13_5
    try clear hfz13_6
    try clear hfz13_7
    try clear hfz13_8
    try clear hfz14_0
    try clear hfz14_1
    try clear hfz14_2
    try clear hfz14_3
    try clear hfz14_4
    try clear hfz14_5
    try clear hfz14_6
    try clear hfz14_7
    try clear hfz14_8
    try clear hfz17_0
    try clear hfz17_1
    try clear hfz17_2
    try clear hfz17_3
    try clear hfz17_4
    try clear hfz17_5
    try clear hfz17_6
    try clear hfz17_7
    try clear hfz17_8
    try clear hfz18_0
    try clear hfz18_1
    try clear hfz18_2
    try clear hfz18_3
    try clear hfz18_4
    try clear hfz18_5
    try clear hfz18_6
    try clear hfz18_7
    try clear hfz18_8
    try clear hfz21_0
    try clear hfz21_1
    try clear hfz21_2
    try clear hfz21_3
    try clear hfz21_4
    try clear hfz21_5
    try clear hfz21_6
    try clear hfz21_7
    try clear hfz21_8
    try clear hfz22_0
    try clear hfz22_1
    try clear hfz22_2
    try clear hfz22_3
    try clear hfz22_4
    try clear hfz22_5
    try clear hfz22_6
    try clear hfz22_7
    try clear hfz22_8
    try clear hfz24_0
    try clear hfz24_1
    try clear hfz24_2
    try clear hfz24_3
    try clear hfz24_4
    try clear hfz24_5
    try clear hfz24_6
    try clear hfz24_7
    try clear hfz24_8
    try clear hfz25_0
    try clear hfz25_1
    try clear hfz25_2
    try clear hfz25_3
    try clear hfz25_4
    try clear hfz25_5
    try clear hfz25_6
    try clear hfz25_7
    try clear hfz25_8
    try clear hfz27_0
    try clear hfz27_1
    try clear hfz27_2
    try clear hfz27_3
    try clear hfz27_4
    try clear hfz27_5
    try clear hfz27_6
    try clear hfz27_7
    try clear hfz27_8
    try clear hfz28_0
    try clear hfz28_1
    try clear hfz28_2
    try clear hfz28_3
    try clear hfz28_4
    try clear hfz28_5
    try clear hfz28_6
    try clear hfz28_7
    try clear hfz28_8
    try clear hfz30_0
    try clear hfz30_1
    try clear hfz30_2
    try clear hfz30_3
    try clear hfz30_4
    try clear hfz30_5
    try clear hfz30_6
    try clear hfz30_7
    try clear hfz30_8
    try clear hfz31_0
    try clear hfz31_1
    try clear hfz31_2
    try clear hfz31_3
    try clear hfz31_4
    try clear hfz31_5
    try clear hfz31_6
    try clear hfz31_7
    try clear hfz31_8
    try clear hfz33_0
    try clear hfz33_1
    try clear hfz33_2
    try clear hfz33_3
    try clear hfz33_4
    try clear hfz33_5
    try clear hfz33_6
    try clear hfz33_7
    try clear hfz33_8
    try clear hfz34_0
    try clear hfz34_1
    try clear hfz34_2
    try clear hfz34_3
    try clear hfz34_4
    try clear hfz34_5
    try clear hfz34_6
    try clear hfz34_7
    try clear hfz34_8
    try clear hfz36_0
    try clear hfz36_1
    try clear hfz36_2
    try clear hfz36_3
    try clear hfz36_4
    try clear hfz36_5
    try clear hfz36_6
    try clear hfz36_7
    try clear hfz36_8
    try clear hfz37_0
    try clear hfz37_1
    try clear hfz37_2
    try clear hfz37_3
    try clear hfz37_4
    try clear hfz37_5
    try clear hfz37_6
    try clear hfz37_7
    try clear hfz37_8
    try clear hfz39_0
    try clear hfz39_1
    try clear hfz39_2
    try clear hfz39_3
    try clear hfz39_4
    try clear hfz39_5
    try clear hfz39_6
    try clear hfz39_7
    try clear hfz39_8
    try clear hfz40_0
    try clear hfz40_1
    try clear hfz40_2
    try clear hfz40_3
    try clear hfz40_4
    try clear hfz40_5
    try clear hfz40_6
    try clear hfz40_7
    try clear hfz40_8
    obtain ⟨kq, x68_2, rfl, HA, HJ2, BK173, BK174, HB⟩ := hcut
    cases kq with
    | zero => exact absurd HA.out (by simp [penstockref07_Same.j0])
    | succ kj2 =>
      have H := HA.out
      clear HA
      simp only [penstockref07_Same.j0] at H
      by_cases c41 : x68_2 = true
      · subst c41
        have H1 : (some false) = some r := by rw [if_pos rfl] at H; exact H
        clear H
        have H := H1
        clear H1
        obtain rfl := Option.some.inj H
        go_wp2
        repeat (go_quiet (fail); try go_wp2)
        go_ret
        exact ⟨by first | rfl | (simp [errW_none, errW_some] <;> rfl) | (simp [*, errW_none, errW_some] <;> rfl), by repeat (first | (with_reducible first | exact HB.out | apply below_alloc | apply pw_below_drewN | apply below_drew1 | refine below_set ?_ GE173.out | refine below_set ?_ GE174.out) | exact HB.out)⟩
      · replace c41 := Bool.eq_false_iff.mpr c41
        subst c41
        have H1 : (penstockref07_Same.l0 kj2 0 a0_0 a0_1 a0_2 a0_3 a0_4 a0_5 a0_6 a0_7 l0_8 a1_0 a1_1 a1_2 a1_3 a1_4 a1_5 a1_6 a1_7 l1_8) = some r := by rw [if_neg (show ¬ (false = true) by decide)] at H; exact H
        clear H
        have H := H1
        clear H1
        have H' := Aside0.mk H
        clear H
        go_wp2
        repeat (go_quiet (fail); try go_wp2)
        go_loopg [5] kj2 (fun kq v5 w' => ∃ (x5_2 : Int), v5 = .int .i64 x5_2 ∧ Aside0 (penstockref07_Same.l0 kq x5_2 a0_0 a0_1 a0_2 a0_3 a0_4 a0_5 a0_6 a0_7 l0_8 a1_0 a1_1 a1_2 a1_3 a1_4 a1_5 a1_6 a1_7 l1_8 = some r) ∧ Aside0 (kq ≤ kj2) ∧ Aside0 (w'.heap[gb173]? = some (.cells #[.int .i64 a0_0, .int .i64 a0_1, .int .u64 a0_2, .int .i64 a0_3, .int .i64 a0_4, .bool a0_5, .bool a0_6, .bool a0_7, (.slice A0_8 l0_8.length c0_8)] 41 (0, 0))) ∧ Aside0 (w'.heap[gb174]? = some (.cells #[.int .i64 a1_0, .int .i64 a1_1, .int .u64 a1_2, .int .i64 a1_3, .int .i64 a1_4, .bool a1_5, .bool a1_6, .bool a1_7, (.slice A1_8 l1_8.length c1_8)] 41 (0, 0))) ∧ Aside0 (Below w.heap.size w w'))
        case atStart => exact ⟨(0), (by first | rfl | (simp; done) | (simp [*]; done)), H', ⟨Nat.le_refl _⟩, ⟨by (with_reducible repeat (first | refine blk_drewN ?_ _ | refine blk_drew ?_ | refine blk_alloc ?_ _)); exact BK173.out⟩, ⟨by (with_reducible repeat (first | refine blk_drewN ?_ _ | refine blk_drew ?_ | refine blk_alloc ?_ _)); exact BK174.out⟩, ⟨by repeat (first | (with_reducible first | exact HB.out | apply below_alloc | apply pw_below_drewN | apply below_drew1 | refine below_set ?_ GE173.out | refine below_set ?_ GE174.out) | exact HB.out)⟩⟩
        case round =>
          clear H'
          try clear c1
          try clear c2
          try clear p2
          try clear c3
          try clear c4
          try clear c6
          try clear c6b0
          try clear c6b1
          try clear c7
          try clear c7b0
          try clear c7b1
          try clear c8
          try clear c8b0
          try clear c8b1
          try clear c9
          try clear c9b0
          try clear c9b1
          try clear c10
          try clear c10b0
          try clear c10b1
          try clear c11
          try clear c11b0
          try clear c11b1
          try clear c11b2
          try clear c12
          try clear c15
          try clear c15b0
          try clear c15b1
          try clear c15b2
          try clear c16
          try clear c19
          try clear c19b0
          try clear c19b1
          try clear c19b2
          try clear c20
          try clear c23
          try clear c26
          try clear c29
          try clear c32
          try clear c35
          try clear c38
          try clear c41
          try clear hcz13_0
          try clear hcz13_1
          try clear hcz13_2
          try clear hcz13_3
          try clear hcz13_4
          try clear hcz13_5
          try clear hcz13_6
          try clear hcz13_7
          try clear hcz13_8
          try clear hcz14_0
          try clear hcz14_1
          try clear hcz14_2
          try clear hcz14_3
          try clear hcz14_4
          try clear hcz14_5
          try clear hcz14_6
          try clear hcz14_7
          try clear hcz14_8
          try clear hcz17_0
          try clear hcz17_1
          try clear hcz17_2
          try clear hcz17_3
          try clear hcz17_4
          try clear hcz17_5
          try clear hcz17_6
          try clear hcz17_7
          try clear hcz17_8
          try clear hcz18_0
          try clear hcz18_1
          try clear hcz18_2
          try clear hcz18_3
          try clear hcz18_4
          try clear hcz18_5
          try clear hcz18_6
          try clear hcz18_7
          try clear hcz18_8
          try clear hcz21_0
          try clear hcz21_1
          try clear hcz21_2
          try clear hcz21_3
          try clear hcz21_4
          try clear hcz21_5
          try clear hcz21_6
          try clear hcz21_7
          try clear hcz21_8
          try clear hcz22_0
          try clear hcz22_1
          try clear hcz22_2
          try clear hcz22_3
          try clear hcz22_4
          try clear hcz22_5
          try clear hcz22_6
          try clear hcz22_7
          try clear hcz22_8
          try clear hcz24_0
          try clear hcz24_1
          try clear hcz24_2
          try clear hcz24_3
          try clear hcz24_4
          try clear hcz24_5
          try clear hcz24_6
          try clear hcz24_7
          try clear hcz24_8
          try clear hcz25_0
          try clear hcz25_1
          try clear hcz25_2
          try clear hcz25_3
          try clear hcz25_4
          try clear hcz25_5
          try clear hcz25_6
          try clear hcz25_7
          try clear hcz25_8
          try clear hcz27_0
          try clear hcz27_1
          try clear hcz27_2
          try clear hcz27_3
          try clear hcz27_4
          try clear hcz27_5
          try clear hcz27_6
          try clear hcz27_7
          try clear hcz27_8
          try clear hcz28_0
          try clear hcz28_1
          try clear hcz28_2
          try clear hcz28_3
          try clear hcz28_4
          try clear hcz28_5
          try clear hcz28_6
          try clear hcz28_7
          try clear hcz28_8
          try clear hcz30_0
          try clear hcz30_1
          try clear hcz30_2
          try clear hcz30_3
          try clear hcz30_4
          try clear hcz30_5
          try clear hcz30_6
          try clear hcz30_7
          try clear hcz30_8
          try clear hcz31_0
          try clear hcz31_1
          try clear hcz31_2
          try clear hcz31_3
          try clear hcz31_4
          try clear hcz31_5
          try clear hcz31_6
          try clear hcz31_7
          try clear hcz31_8
          try clear hcz33_0
          try clear hcz33_1
          try clear hcz33_2
          try clear hcz33_3
          try clear hcz33_4
          try clear hcz33_5
          try clear hcz33_6
          try clear hcz33_7
          try clear hcz33_8
          try clear hcz34_0
          try clear hcz34_1
          try clear hcz34_2
          try clear hcz34_3
          try clear hcz34_4
          try clear hcz34_5
          try clear hcz34_6
          try clear hcz34_7
          try clear hcz34_8
          try clear hcz36_0
          try clear hcz36_1
          try clear hcz36_2
          try clear hcz36_3
          try clear hcz36_4
          try clear hcz36_5
          try clear hcz36_6
          try clear hcz36_7
          try clear hcz36_8
          try clear hcz37_0
          try clear hcz37_1
          try clear hcz37_2
          try clear hcz37_3
          try clear hcz37_4
          try clear hcz37_5
          try clear hcz37_6
          try clear hcz37_7
          try clear hcz37_8
          try clear hcz39_0
          try clear hcz39_1
          try clear hcz39_2
          try clear hcz39_3
          try clear hcz39_4
          try clear hcz39_5
          try clear hcz39_6
          try clear hcz39_7
          try clear hcz39_8
          try clear hcz40_0
          try clear hcz40_1
          try clear hcz40_2
          try clear hcz40_3
          try clear hcz40_4
          try clear hcz40_5
          try clear hcz40_6
          try clear hcz40_7
          try clear hcz40_8
          try clear hfz13_0
          try clear hfz13_1
          try clear hfz13_2
          try clear hfz13_3
          try clear hfz13_4
          try clear hfz13_5
          try clear hfz13_6
          try clear hfz13_7
          try clear hfz13_8
          try clear hfz14_0
          try clear hfz14_1
          try clear hfz14_2
          try clear hfz14_3
          try clear hfz14_4
          try clear hfz14_5
          try clear hfz14_6
          try clear hfz14_7
          try clear hfz14_8
          try clear hfz17_0
          try clear hfz17_1
          try clear hfz17_2
          try clear hfz17_3
          try clear hfz17_4
          try clear hfz17_5
          try clear hfz17_6
          try clear hfz17_7
          try clear hfz17_8
          try clear hfz18_0
          try clear hfz18_1
          try clear hfz18_2
          try clear hfz18_3
          try clear hfz18_4
          try clear hfz18_5
          try clear hfz18_6
          try clear hfz18_7
          try clear hfz18_8
          try clear hfz21_0
          try clear hfz21_1
          try clear hfz21_2
          try clear hfz21_3
          try clear hfz21_4
          try clear hfz21_5
          try clear hfz21_6
          try clear hfz21_7
          try clear hfz21_8
          try clear hfz22_0
          try clear hfz22_1
          try clear hfz22_2
          try clear hfz22_3
          try clear hfz22_4
          try clear hfz22_5
          try clear hfz22_6
          try clear hfz22_7
          try clear hfz22_8
          try clear hfz24_0
          try clear hfz24_1
          try clear hfz24_2
          try clear hfz24_3
          try clear hfz24_4
          try clear hfz24_5
          try clear hfz24_6
          try clear hfz24_7
          try clear hfz24_8
          try clear hfz25_0
          try clear hfz25_1
          try clear hfz25_2
          try clear hfz25_3
          try clear hfz25_4
          try clear hfz25_5
          try clear hfz25_6
          try clear hfz25_7
          try clear hfz25_8
          try clear hfz27_0
          try clear hfz27_1
          try clear hfz27_2
          try clear hfz27_3
          try clear hfz27_4
          try clear hfz27_5
          try clear hfz27_6
          try clear hfz27_7
          try clear hfz27_8
          try clear hfz28_0
          try clear hfz28_1
          try clear hfz28_2
          try clear hfz28_3
          try clear hfz28_4
          try clear hfz28_5
          try clear hfz28_6
          try clear hfz28_7
          try clear hfz28_8
          try clear hfz30_0
          try clear hfz30_1
          try clear hfz30_2
          try clear hfz30_3
          try clear hfz30_4
          try clear hfz30_5
          try clear hfz30_6
          try clear hfz30_7
          try clear hfz30_8
          try clear hfz31_0
          try clear hfz31_1
          try clear hfz31_2
          try clear hfz31_3
          try clear hfz31_4
          try clear hfz31_5
          try clear hfz31_6
          try clear hfz31_7
          try clear hfz31_8
          try clear hfz33_0
          try clear hfz33_1
          try clear hfz33_2
          try clear hfz33_3
          try clear hfz33_4
          try clear hfz33_5
          try clear hfz33_6
          try clear hfz33_7
          try clear hfz33_8
          try clear hfz34_0
          try clear hfz34_1
          try clear hfz34_2
          try clear hfz34_3
          try clear hfz34_4
          try clear hfz34_5
          try clear hfz34_6
          try clear hfz34_7
          try clear hfz34_8
          try clear hfz36_0
          try clear hfz36_1
          try clear hfz36_2
          try clear hfz36_3
          try clear hfz36_4
          try clear hfz36_5
          try clear hfz36_6
          try clear hfz36_7
          try clear hfz36_8
          try clear hfz37_0
          try clear hfz37_1
          try clear hfz37_2
          try clear hfz37_3
          try clear hfz37_4
          try clear hfz37_5
          try clear hfz37_6
          try clear hfz37_7
          try clear hfz37_8
          try clear hfz39_0
          try clear hfz39_1
          try clear hfz39_2
          try clear hfz39_3
          try clear hfz39_4
          try clear hfz39_5
          try clear hfz39_6
          try clear hfz39_7
          try clear hfz39_8
          try clear hfz40_0
          try clear hfz40_1
          try clear hfz40_2
          try clear hfz40_3
          try clear hfz40_4
          try clear hfz40_5
          try clear hfz40_6
          try clear hfz40_7
          try clear hfz40_8
          try clear p2
          obtain ⟨x5_2, rfl, HA, HK2, BK173, BK174, HB⟩ := hrel
          cases gk with
          | zero => exact absurd HA.out (by simp [penstockref07_Same.l0])
          | succ k2 =>
            have H := HA.out
            clear HA
            simp only [penstockref07_Same.l0] at H
            by_cases c42 : x5_2 < (l0_8.length : Int)
            · rw [if_pos c42] at H
              have c42b0 : decide (x5_2 < (l0_8.length : Int)) = true := decide_eq_true c42
              clear c42
              by_cases c43 : 0 ≤ x5_2
              · rw [if_pos c43] at H
                have c43b0 : decide (0 ≤ x5_2) = true := decide_eq_true c43
                clear c43
                by_cases c44 : x5_2 < (l1_8.length : Int)
                · rw [if_pos c44] at H
                  have c44b0 : decide (x5_2 < (l1_8.length : Int)) = true := decide_eq_true c44
                  clear c44
                  replace H := Option.bind_eq_some_iff.mp H
                  obtain ⟨t177, A450, H⟩ := H
                  replace H : (if t177 = true then (penstockref07_Same.l0 k2 (wrap64 (x5_2 + 1)) a0_0 a0_1 a0_2 a0_3 a0_4 a0_5 a0_6 a0_7 l0_8 a1_0 a1_1 a1_2 a1_3 a1_4 a1_5 a1_6 a1_7 l1_8) else (some false)) = some r := H
                  have A45 := Aside0.mk A450
                  clear A450
                  by_cases c46 : t177 = true
                  · subst c46
                    have H1 : (penstockref07_Same.l0 k2 (wrap64 (x5_2 + 1)) a0_0 a0_1 a0_2 a0_3 a0_4 a0_5 a0_6 a0_7 l0_8 a1_0 a1_1 a1_2 a1_3 a1_4 a1_5 a1_6 a1_7 l1_8) = some r := by rw [if_pos rfl] at H; exact H
                    clear H
                    have H := H1
                    clear H1
                    have H' := Aside0.mk H
                    clear H
                    have hnb47 := NB173_174.out
                    have hnc47 := NB174_173.out
                    have hcz48_0 : wr.cell? ⟨gb173, 0, none⟩ = some (.int .i64 a0_0) := (blk_cell BK173.out 0).trans rfl
                    have hcz48_1 : wr.cell? ⟨gb173, 1, none⟩ = some (.int .i64 a0_1) := (blk_cell BK173.out 1).trans rfl
                    have hcz48_2 : wr.cell? ⟨gb173, 2, none⟩ = some (.int .u64 a0_2) := (blk_cell BK173.out 2).trans rfl
                    have hcz48_3 : wr.cell? ⟨gb173, 3, none⟩ = some (.int .i64 a0_3) := (blk_cell BK173.out 3).trans rfl
                    have hcz48_4 : wr.cell? ⟨gb173, 4, none⟩ = some (.int .i64 a0_4) := (blk_cell BK173.out 4).trans rfl
                    have hcz48_5 : wr.cell? ⟨gb173, 5, none⟩ = some (.bool a0_5) := (blk_cell BK173.out 5).trans rfl
                    have hcz48_6 : wr.cell? ⟨gb173, 6, none⟩ = some (.bool a0_6) := (blk_cell BK173.out 6).trans rfl
                    have hcz48_7 : wr.cell? ⟨gb173, 7, none⟩ = some (.bool a0_7) := (blk_cell BK173.out 7).trans rfl
                    have hcz48_8 : wr.cell? ⟨gb173, 8, none⟩ = some (.slice A0_8 l0_8.length c0_8) := (blk_cell BK173.out 8).trans rfl
                    have hfz48_0 := blk_frozen BK173.out 0
                    have hfz48_1 := blk_frozen BK173.out 1
                    have hfz48_2 := blk_frozen BK173.out 2
                    have hfz48_3 := blk_frozen BK173.out 3
                    have hfz48_4 := blk_frozen BK173.out 4
                    have hfz48_5 := blk_frozen BK173.out 5
                    have hfz48_6 := blk_frozen BK173.out 6
                    have hfz48_7 := blk_frozen BK173.out 7
                    have hfz48_8 := blk_frozen BK173.out 8
                    have p175 : 0 ≤ (x5_2 : Int) := of_decide_eq_true (by first | (with_reducible assumption) | assumption)
                    have q175 : x5_2 < (l0_8.length : Int) := of_decide_eq_true (by first | (with_reducible assumption) | assumption)
                    obtain ⟨ad175, A175_0, c175_0, e175, hx175_0, hl175_0, hi175_0⟩ := at_L1 HR0_8.out x5_2 p175 q175
                    cases e175
                    replace hx175_0 := (HB.out.cell (World.block_lt_of_cell? w _ hx175_0)).trans hx175_0
                    have HR175_0 := Aside0.mk hi175_0
                    have HC175_0 := Aside0.mk hl175_0
                    clear hi175_0 hl175_0
                    replace p175 := eq_true p175
                    replace q175 := eq_true q175
                    have hcz49_0 : wr.cell? ⟨gb174, 0, none⟩ = some (.int .i64 a1_0) := (blk_cell BK174.out 0).trans rfl
                    have hcz49_1 : wr.cell? ⟨gb174, 1, none⟩ = some (.int .i64 a1_1) := (blk_cell BK174.out 1).trans rfl
                    have hcz49_2 : wr.cell? ⟨gb174, 2, none⟩ = some (.int .u64 a1_2) := (blk_cell BK174.out 2).trans rfl
                    have hcz49_3 : wr.cell? ⟨gb174, 3, none⟩ = some (.int .i64 a1_3) := (blk_cell BK174.out 3).trans rfl
                    have hcz49_4 : wr.cell? ⟨gb174, 4, none⟩ = some (.int .i64 a1_4) := (blk_cell BK174.out 4).trans rfl
                    have hcz49_5 : wr.cell? ⟨gb174, 5, none⟩ = some (.bool a1_5) := (blk_cell BK174.out 5).trans rfl
                    have hcz49_6 : wr.cell? ⟨gb174, 6, none⟩ = some (.bool a1_6) := (blk_cell BK174.out 6).trans rfl
                    have hcz49_7 : wr.cell? ⟨gb174, 7, none⟩ = some (.bool a1_7) := (blk_cell BK174.out 7).trans rfl
                    have hcz49_8 : wr.cell? ⟨gb174, 8, none⟩ = some (.slice A1_8 l1_8.length c1_8) := (blk_cell BK174.out 8).trans rfl
                    have hfz49_0 := blk_frozen BK174.out 0
                    have hfz49_1 := blk_frozen BK174.out 1
                    have hfz49_2 := blk_frozen BK174.out 2
                    have hfz49_3 := blk_frozen BK174.out 3
                    have hfz49_4 := blk_frozen BK174.out 4
                    have hfz49_5 := blk_frozen BK174.out 5
                    have hfz49_6 := blk_frozen BK174.out 6
                    have hfz49_7 := blk_frozen BK174.out 7
                    have hfz49_8 := blk_frozen BK174.out 8
                    have p176 : 0 ≤ (x5_2 : Int) := of_decide_eq_true (by first | (with_reducible assumption) | assumption)
                    have q176 : x5_2 < (l1_8.length : Int) := of_decide_eq_true (by first | (with_reducible assumption) | assumption)
                    obtain ⟨ad176, A176_0, c176_0, e176, hx176_0, hl176_0, hi176_0⟩ := at_L1 HR1_8.out x5_2 p176 q176
                    cases e176
                    replace hx176_0 := (HB.out.cell (World.block_lt_of_cell? w _ hx176_0)).trans hx176_0
                    have HR176_0 := Aside0.mk hi176_0
                    have HC176_0 := Aside0.mk hl176_0
                    clear hi176_0 hl176_0
                    replace p176 := eq_true p176
                    replace q176 := eq_true q176
                    go_wp2_with (first | (go_at_call 27; (with_reducible refine (penstockref03_Same.calls k2 _ _ (rd_L1 l0_8 x5_2) _ _ (rd_L1 l1_8 x5_2) true _ ?side1 ?side2 ?side3 ?side4 A45.out).mono ?_); (case side1 => repeat (first | exact (Kd.C_below HR175_0.out HB.out) | (with_reducible refine Kd.C_alloc ?_ _) | (with_reducible refine Kd.C_drewN ?_ _) | (with_reducible refine Kd.C_drew ?_))); (case side2 => exact HC175_0.out); (case side3 => repeat (first | exact (Kd.C_below HR176_0.out HB.out) | (with_reducible refine Kd.C_alloc ?_ _) | (with_reducible refine Kd.C_drewN ?_ _) | (with_reducible refine Kd.C_drew ?_))); (case side4 => exact HC176_0.out); rintro e w' ⟨rfl, ⟨nd, rfl⟩⟩; (try first | exact ⟨rfl, _, World.drewN_drewN _ _ _⟩ | exact ⟨rfl, _, Eq.trans (World.drewN_drewN _ _ _) (congrArg (World.drewN _) (Nat.add_assoc _ _ _))⟩)))
                    repeat (go_quiet (first | (go_at_call 27; (with_reducible refine (penstockref03_Same.calls k2 _ _ (rd_L1 l0_8 x5_2) _ _ (rd_L1 l1_8 x5_2) true _ ?side1 ?side2 ?side3 ?side4 A45.out).mono ?_); (case side1 => repeat (first | exact (Kd.C_below HR175_0.out HB.out) | (with_reducible refine Kd.C_alloc ?_ _) | (with_reducible refine Kd.C_drewN ?_ _) | (with_reducible refine Kd.C_drew ?_))); (case side2 => exact HC175_0.out); (case side3 => repeat (first | exact (Kd.C_below HR176_0.out HB.out) | (with_reducible refine Kd.C_alloc ?_ _) | (with_reducible refine Kd.C_drewN ?_ _) | (with_reducible refine Kd.C_drew ?_))); (case side4 => exact HC176_0.out); rintro e w' ⟨rfl, ⟨nd, rfl⟩⟩; (try first | exact ⟨rfl, _, World.drewN_drewN _ _ _⟩ | exact ⟨rfl, _, Eq.trans (World.drewN_drewN _ _ _) (congrArg (World.drewN _) (Nat.add_assoc _ _ _))⟩))); try go_wp2_with (first | (go_at_call 27; (with_reducible refine (penstockref03_Same.calls k2 _ _ (rd_L1 l0_8 x5_2) _ _ (rd_L1 l1_8 x5_2) true _ ?side1 ?side2 ?side3 ?side4 A45.out).mono ?_); (case side1 => repeat (first | exact (Kd.C_below HR175_0.out HB.out) | (with_reducible refine Kd.C_alloc ?_ _) | (with_reducible refine Kd.C_drewN ?_ _) | (with_reducible refine Kd.C_drew ?_))); (case side2 => exact HC175_0.out); (case side3 => repeat (first | exact (Kd.C_below HR176_0.out HB.out) | (with_reducible refine Kd.C_alloc ?_ _) | (with_reducible refine Kd.C_drewN ?_ _) | (with_reducible refine Kd.C_drew ?_))); (case side4 => exact HC176_0.out); rintro e w' ⟨rfl, ⟨nd, rfl⟩⟩; (try first | exact ⟨rfl, _, World.drewN_drewN _ _ _⟩ | exact ⟨rfl, _, Eq.trans (World.drewN_drewN _ _ _) (congrArg (World.drewN _) (Nat.add_assoc _ _ _))⟩))))
                    go_roundg k2
                    case measure => have := HJ2.out; have := HK2.out; omega
                    case rel => exact ⟨(wrap64 (x5_2 + 1)), (by first | rfl | (simp; done) | (simp [*]; done)), H', ⟨by have := HJ2.out; have := HK2.out; omega⟩, ⟨by (with_reducible repeat (first | refine blk_drewN ?_ _ | refine blk_drew ?_ | refine blk_alloc ?_ _)); exact BK173.out⟩, ⟨by (with_reducible repeat (first | refine blk_drewN ?_ _ | refine blk_drew ?_ | refine blk_alloc ?_ _)); exact BK174.out⟩, ⟨by repeat (first | (with_reducible first | exact HB.out | apply below_alloc | apply pw_below_drewN | apply below_drew1 | refine below_set ?_ GE173.out | refine below_set ?_ GE174.out) | exact HB.out)⟩⟩
                  · replace c46 := Bool.eq_false_iff.mpr c46
                    subst c46
                    have H1 : (some false) = some r := by rw [if_neg (show ¬ (false = true) by decide)] at H; exact H
                    clear H
                    have H := H1
                    clear H1
                    obtain rfl := Option.some.inj H
                    have hnb50 := NB173_174.out
                    have hnc50 := NB174_173.out
                    have hcz51_0 : wr.cell? ⟨gb173, 0, none⟩ = some (.int .i64 a0_0) := (blk_cell BK173.out 0).trans rfl
                    have hcz51_1 : wr.cell? ⟨gb173, 1, none⟩ = some (.int .i64 a0_1) := (blk_cell BK173.out 1).trans rfl
                    have hcz51_2 : wr.cell? ⟨gb173, 2, none⟩ = some (.int .u64 a0_2) := (blk_cell BK173.out 2).trans rfl
                    have hcz51_3 : wr.cell? ⟨gb173, 3, none⟩ = some (.int .i64 a0_3) := (blk_cell BK173.out 3).trans rfl
                    have hcz51_4 : wr.cell? ⟨gb173, 4, none⟩ = some (.int .i64 a0_4) := (blk_cell BK173.out 4).trans rfl
                    have hcz51_5 : wr.cell? ⟨gb173, 5, none⟩ = some (.bool a0_5) := (blk_cell BK173.out 5).trans rfl
                    have hcz51_6 : wr.cell? ⟨gb173, 6, none⟩ = some (.bool a0_6) := (blk_cell BK173.out 6).trans rfl
                    have hcz51_7 : wr.cell? ⟨gb173, 7, none⟩ = some (.bool a0_7) := (blk_cell BK173.out 7).trans rfl
                    have hcz51_8 : wr.cell? ⟨gb173, 8, none⟩ = some (.slice A0_8 l0_8.length c0_8) := (blk_cell BK173.out 8).trans rfl
                    have hfz51_0 := blk_frozen BK173.out 0
                    have hfz51_1 := blk_frozen BK173.out 1
                    have hfz51_2 := blk_frozen BK173.out 2
                    have hfz51_3 := blk_frozen BK173.out 3
                    have hfz51_4 := blk_frozen BK173.out 4
                    have hfz51_5 := blk_frozen BK173.out 5
                    have hfz51_6 := blk_frozen BK173.out 6
                    have hfz51_7 := blk_frozen BK173.out 7
                    have hfz51_8 := blk_frozen BK173.out 8
                    have p175 : 0 ≤ (x5_2 : Int) := of_decide_eq_true (by first | (with_reducible assumption) | assumption)
                    have q175 : x5_2 < (l0_8.length : Int) := of_decide_eq_true (by first | (with_reducible assumption) | assumption)
                    obtain ⟨ad175, A175_0, c175_0, e175, hx175_0, hl175_0, hi175_0⟩ := at_L1 HR0_8.out x5_2 p175 q175
                    cases e175
                    replace hx175_0 := (HB.out.cell (World.block_lt_of_cell? w _ hx175_0)).trans hx175_0
                    have HR175_0 := Aside0.mk hi175_0
                    have HC175_0 := Aside0.mk hl175_0
                    clear hi175_0 hl175_0
                    replace p175 := eq_true p175
                    replace q175 := eq_true q175
                    have hcz52_0 : wr.cell? ⟨gb174, 0, none⟩ = some (.int .i64 a1_0) := (blk_cell BK174.out 0).trans rfl
                    have hcz52_1 : wr.cell? ⟨gb174, 1, none⟩ = some (.int .i64 a1_1) := (blk_cell BK174.out 1).trans rfl
                    have hcz52_2 : wr.cell? ⟨gb174, 2, none⟩ = some (.int .u64 a1_2) := (blk_cell BK174.out 2).trans rfl
                    have hcz52_3 : wr.cell? ⟨gb174, 3, none⟩ = some (.int .i64 a1_3) := (blk_cell BK174.out 3).trans rfl
                    have hcz52_4 : wr.cell? ⟨gb174, 4, none⟩ = some (.int .i64 a1_4) := (blk_cell BK174.out 4).trans rfl
                    have hcz52_5 : wr.cell? ⟨gb174, 5, none⟩ = some (.bool a1_5) := (blk_cell BK174.out 5).trans rfl
                    have hcz52_6 : wr.cell? ⟨gb174, 6, none⟩ = some (.bool a1_6) := (blk_cell BK174.out 6).trans rfl
                    have hcz52_7 : wr.cell? ⟨gb174, 7, none⟩ = some (.bool a1_7) := (blk_cell BK174.out 7).trans rfl
                    have hcz52_8 : wr.cell? ⟨gb174, 8, none⟩ = some (.slice A1_8 l1_8.length c1_8) := (blk_cell BK174.out 8).trans rfl
                    have hfz52_0 := blk_frozen BK174.out 0
                    have hfz52_1 := blk_frozen BK174.out 1
                    have hfz52_2 := blk_frozen BK174.out 2
                    have hfz52_3 := blk_frozen BK174.out 3
                    have hfz52_4 := blk_frozen BK174.out 4
                    have hfz52_5 := blk_frozen BK174.out 5
                    have hfz52_6 := blk_frozen BK174.out 6
                    have hfz52_7 := blk_frozen BK174.out 7
                    have hfz52_8 := blk_frozen BK174.out 8
                    have p176 : 0 ≤ (x5_2 : Int) := of_decide_eq_true (by first | (with_reducible assumption) | assumption)
                    have q176 : x5_2 < (l1_8.length : Int) := of_decide_eq_true (by first | (with_reducible assumption) | assumption)
                    obtain ⟨ad176, A176_0, c176_0, e176, hx176_0, hl176_0, hi176_0⟩ := at_L1 HR1_8.out x5_2 p176 q176
                    cases e176
                    replace hx176_0 := (HB.out.cell (World.block_lt_of_cell? w _ hx176_0)).trans hx176_0
                    have HR176_0 := Aside0.mk hi176_0
                    have HC176_0 := Aside0.mk hl176_0
                    clear hi176_0 hl176_0
                    replace p176 := eq_true p176
                    replace q176 := eq_true q176
                    go_wp2_with (first | (go_at_call 27; (with_reducible refine (penstockref03_Same.calls k2 _ _ (rd_L1 l0_8 x5_2) _ _ (rd_L1 l1_8 x5_2) false _ ?side1 ?side2 ?side3 ?side4 A45.out).mono ?_); (case side1 => repeat (first | exact (Kd.C_below HR175_0.out HB.out) | (with_reducible refine Kd.C_alloc ?_ _) | (with_reducible refine Kd.C_drewN ?_ _) | (with_reducible refine Kd.C_drew ?_))); (case side2 => exact HC175_0.out); (case side3 => repeat (first | exact (Kd.C_below HR176_0.out HB.out) | (with_reducible refine Kd.C_alloc ?_ _) | (with_reducible refine Kd.C_drewN ?_ _) | (with_reducible refine Kd.C_drew ?_))); (case side4 => exact HC176_0.out); rintro e w' ⟨rfl, ⟨nd, rfl⟩⟩; (try first | exact ⟨rfl, _, World.drewN_drewN _ _ _⟩ | exact ⟨rfl, _, Eq.trans (World.drewN_drewN _ _ _) (congrArg (World.drewN _) (Nat.add_assoc _ _ _))⟩)))
                    repeat (go_quiet (first | (go_at_call 27; (with_reducible refine (penstockref03_Same.calls k2 _ _ (rd_L1 l0_8 x5_2) _ _ (rd_L1 l1_8 x5_2) false _ ?side1 ?side2 ?side3 ?side4 A45.out).mono ?_); (case side1 => repeat (first | exact (Kd.C_below HR175_0.out HB.out) | (with_reducible refine Kd.C_alloc ?_ _) | (with_reducible refine Kd.C_drewN ?_ _) | (with_reducible refine Kd.C_drew ?_))); (case side2 => exact HC175_0.out); (case side3 => repeat (first | exact (Kd.C_below HR176_0.out HB.out) | (with_reducible refine Kd.C_alloc ?_ _) | (with_reducible refine Kd.C_drewN ?_ _) | (with_reducible refine Kd.C_drew ?_))); (case side4 => exact HC176_0.out); rintro e w' ⟨rfl, ⟨nd, rfl⟩⟩; (try first | exact ⟨rfl, _, World.drewN_drewN _ _ _⟩ | exact ⟨rfl, _, Eq.trans (World.drewN_drewN _ _ _) (congrArg (World.drewN _) (Nat.add_assoc _ _ _))⟩))); try go_wp2_with (first | (go_at_call 27; (with_reducible refine (penstockref03_Same.calls k2 _ _ (rd_L1 l0_8 x5_2) _ _ (rd_L1 l1_8 x5_2) false _ ?side1 ?side2 ?side3 ?side4 A45.out).mono ?_); (case side1 => repeat (first | exact (Kd.C_below HR175_0.out HB.out) | (with_reducible refine Kd.C_alloc ?_ _) | (with_reducible refine Kd.C_drewN ?_ _) | (with_reducible refine Kd.C_drew ?_))); (case side2 => exact HC175_0.out); (case side3 => repeat (first | exact (Kd.C_below HR176_0.out HB.out) | (with_reducible refine Kd.C_alloc ?_ _) | (with_reducible refine Kd.C_drewN ?_ _) | (with_reducible refine Kd.C_drew ?_))); (case side4 => exact HC176_0.out); rintro e w' ⟨rfl, ⟨nd, rfl⟩⟩; (try first | exact ⟨rfl, _, World.drewN_drewN _ _ _⟩ | exact ⟨rfl, _, Eq.trans (World.drewN_drewN _ _ _) (congrArg (World.drewN _) (Nat.add_assoc _ _ _))⟩))))
                    go_ret
                    exact ⟨by first | rfl | (simp [errW_none, errW_some] <;> rfl) | (simp [*, errW_none, errW_some] <;> rfl), by repeat (first | (with_reducible first | exact HB.out | apply below_alloc | apply pw_below_drewN | apply below_drew1 | refine below_set ?_ GE173.out | refine below_set ?_ GE174.out) | exact HB.out)⟩
                · rw [if_neg c44] at H
                  exact absurd H (by simp)
              · rw [if_neg c43] at H
                exact absurd H (by simp)
            · rw [if_neg c42] at H
              have c42b0 : decide (x5_2 < (l0_8.length : Int)) = false := decide_eq_false c42
              clear c42
              obtain rfl := Option.some.inj H
              have hnb53 := NB173_174.out
              have hnc53 := NB174_173.out
              have hcz54_0 : wr.cell? ⟨gb173, 0, none⟩ = some (.int .i64 a0_0) := (blk_cell BK173.out 0).trans rfl
              have hcz54_1 : wr.cell? ⟨gb173, 1, none⟩ = some (.int .i64 a0_1) := (blk_cell BK173.out 1).trans rfl
              have hcz54_2 : wr.cell? ⟨gb173, 2, none⟩ = some (.int .u64 a0_2) := (blk_cell BK173.out 2).trans rfl
              have hcz54_3 : wr.cell? ⟨gb173, 3, none⟩ = some (.int .i64 a0_3) := (blk_cell BK173.out 3).trans rfl
              have hcz54_4 : wr.cell? ⟨gb173, 4, none⟩ = some (.int .i64 a0_4) := (blk_cell BK173.out 4).trans rfl
              have hcz54_5 : wr.cell? ⟨gb173, 5, none⟩ = some (.bool a0_5) := (blk_cell BK173.out 5).trans rfl
              have hcz54_6 : wr.cell? ⟨gb173, 6, none⟩ = some (.bool a0_6) := (blk_cell BK173.out 6).trans rfl
              have hcz54_7 : wr.cell? ⟨gb173, 7, none⟩ = some (.bool a0_7) := (blk_cell BK173.out 7).trans rfl
              have hcz54_8 : wr.cell? ⟨gb173, 8, none⟩ = some (.slice A0_8 l0_8.length c0_8) := (blk_cell BK173.out 8).trans rfl
              have hfz54_0 := blk_frozen BK173.out 0
              have hfz54_1 := blk_frozen BK173.out 1
              have hfz54_2 := blk_frozen BK173.out 2
              have hfz54_3 := blk_frozen BK173.out 3
              have hfz54_4 := blk_frozen BK173.out 4
              have hfz54_5 := blk_frozen BK173.out 5
              have hfz54_6 := blk_frozen BK173.out 6
              have hfz54_7 := blk_frozen BK173.out 7
              have hfz54_8 := blk_frozen BK173.out 8
              go_wp2
              repeat (go_quiet (fail); try go_wp2)
              go_ret
              exact ⟨by first | rfl | (simp [errW_none, errW_some] <;> rfl) | (simp [*, errW_none, errW_some] <;> rfl), by repeat (first | (with_reducible first | exact HB.out | apply below_alloc | apply pw_below_drewN | apply below_drew1 | refine below_set ?_ GE173.out | refine below_set ?_ GE174.out) | exact HB.out)⟩

end Go.Proofs.Ytnbdlkjphdfkpaa.H

/- Contracts of the helpers of layer 21, as the kit's printer writes them; one namespace for all laws. No conditions. -/
import Derived.Test.YtnbdlkjphdfkpaaH0
namespace Go.Proofs.Ytnbdlkjphdfkpaa.H
open Go.RowKit Go.Proofs.YtnbdlkjphdfkpaaW.PrintWords Go.Proofs.YtnbdlkjphdfkpaaW.PrintLast Go.Proofs.YtnbdlkjphdfkpaaW.PrintMore
attribute [local go_sem] max2_int min2_int max_two min_two max_three min_three max_four min_four   -- for this text's walks alone
set_option linter.unusedVariables false
set_option linter.unusedSimpArgs false

/-! ### batch_Size: function 22 -/
def batch_Size.f (a0_0 : Int) (a0_1 : Int) (a0_2 : Int) (a0_3 : Int) (a0_4 : Int) (a0_5 : Bool) (a0_6 : Bool) (a0_7 : Bool) (l0_8 : List (List Int)) : Option (Int) := if a0_6 = true then (some 1) else (some (l0_8.length : Int))
set_option maxHeartbeats 8000000 in
set_option maxRecDepth 100000 in
theorem batch_Size.calls (a0_0 : Int) (a0_1 : Int) (a0_2 : Int) (a0_3 : Int) (a0_4 : Int) (a0_5 : Bool) (a0_6 : Bool) (a0_7 : Bool) (A0_8 : Option Addr) (c0_8 : Nat) (l0_8 : List (List Int)) (r : Int) (w : World) (hr0_8 : Kd.C (Kd.slice 5 (Kd.int .u8)) w A0_8 l0_8.length l0_8) (hc0_8 : l0_8.length ≤ c0_8) (h : batch_Size.f a0_0 a0_1 a0_2 a0_3 a0_4 a0_5 a0_6 a0_7 l0_8 = some r) :
    Calls Try.prog 22 #[.agg #[.int .i64 a0_0, .int .i64 a0_1, .int .u64 a0_2, .int .i64 a0_3, .int .i64 a0_4, .bool a0_5, .bool a0_6, .bool a0_7, .slice A0_8 l0_8.length c0_8]] w fun e w' => e = .returned (.int .i64 r) ∧ Below w.heap.size w w' := by
  have hu41 := Try.underlying41
  have HR0_8 := Aside0.mk hr0_8
  have HC0_8 := Aside0.mk hc0_8
  clear hr0_8 hc0_8
  have HB := Aside0.mk (Below.refl w.heap.size w)
  have H : (if a0_6 = true then (some 1) else (some (l0_8.length : Int))) = some r := h
  clear h
  by_cases c2 : a0_6 = true
  · subst c2
    have H1 : (some 1) = some r := by rw [if_pos rfl] at H; exact H
    clear H
    have H := H1
    clear H1
    obtain rfl := Option.some.inj H
    go_enter Try.func22, Try.ntmps22
    go_wp2_with (first | ((with_reducible refine gate_dst (N := 1) rfl ?_); refine box_event ?hg (N := 1) ?hd (cs := #[.int .i64 a0_0, .int .i64 a0_1, .int .u64 a0_2, .int .i64 a0_3, .int .i64 a0_4, .bool a0_5, .bool true, .bool a0_7, .slice A0_8 l0_8.length c0_8]) (t := 41) ?hr ?_; (case hd => rfl); (case hg => rfl); (case hr => first | (go_simp; done) | (go_simp; rfl)); intro gb101 hg w3 hbox hb; have n0_ := Aside0.mk (below_step (by repeat (first | (with_reducible first | exact HB.out | apply below_alloc | apply pw_below_drewN | apply below_drew1) | exact HB.out)) hb); have n1_ := Aside0.mk (hbox); have n2_ := Aside0.mk ((by rw [hg]; exact (below_size (by repeat (first | (with_reducible first | exact HB.out | apply below_alloc | apply pw_below_drewN | apply below_drew1) | exact HB.out))) : w.heap.size ≤ gb101)); have n3_ := Aside0.mk ((by rw [hg]; exact (below_size (by repeat (first | (with_reducible first | exact HB.out | apply below_alloc | apply pw_below_drewN | apply below_drew1) | exact HB.out))) : w.heap.size ≤ gb101)); clear HB; have HB := n0_; have BK101 := n1_; have GW101 := n2_; have GE101 := n3_; clear n0_ n1_ n2_ n3_; clear hb hbox hg; have hcz4_0 : w3.cell? ⟨gb101, 0, none⟩ = some (.int .i64 a0_0) := (blk_cell BK101.out 0).trans rfl; have hcz4_1 : w3.cell? ⟨gb101, 1, none⟩ = some (.int .i64 a0_1) := (blk_cell BK101.out 1).trans rfl; have hcz4_2 : w3.cell? ⟨gb101, 2, none⟩ = some (.int .u64 a0_2) := (blk_cell BK101.out 2).trans rfl; have hcz4_3 : w3.cell? ⟨gb101, 3, none⟩ = some (.int .i64 a0_3) := (blk_cell BK101.out 3).trans rfl; have hcz4_4 : w3.cell? ⟨gb101, 4, none⟩ = some (.int .i64 a0_4) := (blk_cell BK101.out 4).trans rfl; have hcz4_5 : w3.cell? ⟨gb101, 5, none⟩ = some (.bool a0_5) := (blk_cell BK101.out 5).trans rfl; have hcz4_6 : w3.cell? ⟨gb101, 6, none⟩ = some (.bool true) := (blk_cell BK101.out 6).trans rfl; have hcz4_7 : w3.cell? ⟨gb101, 7, none⟩ = some (.bool a0_7) := (blk_cell BK101.out 7).trans rfl; have hcz4_8 : w3.cell? ⟨gb101, 8, none⟩ = some (.slice A0_8 l0_8.length c0_8) := (blk_cell BK101.out 8).trans rfl; have hfz4_0 := blk_frozen BK101.out 0; have hfz4_1 := blk_frozen BK101.out 1; have hfz4_2 := blk_frozen BK101.out 2; have hfz4_3 := blk_frozen BK101.out 3; have hfz4_4 := blk_frozen BK101.out 4; have hfz4_5 := blk_frozen BK101.out 5; have hfz4_6 := blk_frozen BK101.out 6; have hfz4_7 := blk_frozen BK101.out 7; have hfz4_8 := blk_frozen BK101.out 8))
    go_ret
    exact ⟨by first | rfl | (simp [errW_none, errW_some] <;> rfl) | (simp [*, errW_none, errW_some] <;> rfl), by repeat (first | (with_reducible first | exact HB.out | apply below_alloc | apply pw_below_drewN | apply below_drew1 | refine below_set ?_ GE101.out) | exact HB.out)⟩
  · replace c2 := Bool.eq_false_iff.mpr c2
    subst c2
    have H1 : (some (l0_8.length : Int)) = some r := by rw [if_neg (show ¬ (false = true) by decide)] at H; exact H
    clear H
    have H := H1
    clear H1
    obtain rfl := Option.some.inj H
    go_enter Try.func22, Try.ntmps22
    go_wp2_with (first | ((with_reducible refine gate_dst (N := 1) rfl ?_); refine box_event ?hg (N := 1) ?hd (cs := #[.int .i64 a0_0, .int .i64 a0_1, .int .u64 a0_2, .int .i64 a0_3, .int .i64 a0_4, .bool a0_5, .bool false, .bool a0_7, .slice A0_8 l0_8.length c0_8]) (t := 41) ?hr ?_; (case hd => rfl); (case hg => rfl); (case hr => first | (go_simp; done) | (go_simp; rfl)); intro gb101 hg w5 hbox hb; have n0_ := Aside0.mk (below_step (by repeat (first | (with_reducible first | exact HB.out | apply below_alloc | apply pw_below_drewN | apply below_drew1) | exact HB.out)) hb); have n1_ := Aside0.mk (hbox); have n2_ := Aside0.mk ((by rw [hg]; exact (below_size (by repeat (first | (with_reducible first | exact HB.out | apply below_alloc | apply pw_below_drewN | apply below_drew1) | exact HB.out))) : w.heap.size ≤ gb101)); have n3_ := Aside0.mk ((by rw [hg]; exact (below_size (by repeat (first | (with_reducible first | exact HB.out | apply below_alloc | apply pw_below_drewN | apply below_drew1) | exact HB.out))) : w.heap.size ≤ gb101)); clear HB; have HB := n0_; have BK101 := n1_; have GW101 := n2_; have GE101 := n3_; clear n0_ n1_ n2_ n3_; clear hb hbox hg; have hcz6_0 : w5.cell? ⟨gb101, 0, none⟩ = some (.int .i64 a0_0) := (blk_cell BK101.out 0).trans rfl; have hcz6_1 : w5.cell? ⟨gb101, 1, none⟩ = some (.int .i64 a0_1) := (blk_cell BK101.out 1).trans rfl; have hcz6_2 : w5.cell? ⟨gb101, 2, none⟩ = some (.int .u64 a0_2) := (blk_cell BK101.out 2).trans rfl; have hcz6_3 : w5.cell? ⟨gb101, 3, none⟩ = some (.int .i64 a0_3) := (blk_cell BK101.out 3).trans rfl; have hcz6_4 : w5.cell? ⟨gb101, 4, none⟩ = some (.int .i64 a0_4) := (blk_cell BK101.out 4).trans rfl; have hcz6_5 : w5.cell? ⟨gb101, 5, none⟩ = some (.bool a0_5) := (blk_cell BK101.out 5).trans rfl; have hcz6_6 : w5.cell? ⟨gb101, 6, none⟩ = some (.bool false) := (blk_cell BK101.out 6).trans rfl; have hcz6_7 : w5.cell? ⟨gb101, 7, none⟩ = some (.bool a0_7) := (blk_cell BK101.out 7).trans rfl; have hcz6_8 : w5.cell? ⟨gb101, 8, none⟩ = some (.slice A0_8 l0_8.length c0_8) := (blk_cell BK101.out 8).trans rfl; have hfz6_0 := blk_frozen BK101.out 0; have hfz6_1 := blk_frozen BK101.out 1; have hfz6_2 := blk_frozen BK101.out 2; have hfz6_3 := blk_frozen BK101.out 3; have hfz6_4 := blk_frozen BK101.out 4; have hfz6_5 := blk_frozen BK101.out 5; have hfz6_6 := blk_frozen BK101.out 6; have hfz6_7 := blk_frozen BK101.out 7; have hfz6_8 := blk_frozen BK101.out 8))
    go_ret
    exact ⟨by first | rfl | (simp [errW_none, errW_some] <;> rfl) | (simp [*, errW_none, errW_some] <;> rfl), by repeat (first | (with_reducible first | exact HB.out | apply below_alloc | apply pw_below_drewN | apply below_drew1 | refine below_set ?_ GE101.out) | exact HB.out)⟩




/-! ### penstockref07_Copy: function 18 -/
def penstockref07_Copy.l0 : Nat → List (List Int) → Int → Int → Int → Int → Int → Int → Bool → Bool → Bool → List (List Int) → Option (Int × Int × Int × Int × Int × Bool × Bool × Bool × (List (List Int)))
  | 0, _, _, _, _, _, _, _, _, _, _, _ => none
  | k + 1, x3, x4, x115000, x115001, x115002, x115003, x115004, x115005, x115006, x115007, x115008 => if x4 < (x115008.length : Int) then (if 0 ≤ x4 then (if ([] : List Int).length + (rd_L1 x115008 x4).length < 140737488355328 then (if x3.length < 5864062014805 then (penstockref07_Copy.l0 k (x3 ++ [(([] : List Int) ++ (rd_L1 x115008 x4))]) (wrap64 (x4 + 1)) x115000 x115001 x115002 x115003 x115004 x115005 x115006 x115007 x115008) else (none)) else (none)) else (none)) else (some (x115000, x115001, x115002, x115003, x115004, x115005, x115006, x115007, x3))
def penstockref07_Copy.f (k : Nat) (a0_0 : Int) (a0_1 : Int) (a0_2 : Int) (a0_3 : Int) (a0_4 : Int) (a0_5 : Bool) (a0_6 : Bool) (a0_7 : Bool) (l0_8 : List (List Int)) : Option (Int × Int × Int × Int × Int × Bool × Bool × Bool × (List (List Int))) := penstockref07_Copy.l0 k ([] : List (List Int)) 0 a0_0 a0_1 a0_2 a0_3 a0_4 a0_5 a0_6 a0_7 l0_8
theorem penstockref07_Copy.mono_l : ∀ k, (∀ y0 y1 y2 y3 y4 y5 y6 y7 y8 y9 y10, LeO (penstockref07_Copy.l0 k y0 y1 y2 y3 y4 y5 y6 y7 y8 y9 y10) (penstockref07_Copy.l0 (k + 1) y0 y1 y2 y3 y4 y5 y6 y7 y8 y9 y10))
  | 0 => fun _ _ _ _ _ _ _ _ _ _ _ r h => by simp [penstockref07_Copy.l0] at h
  | k + 1 => by
    have ih0 := penstockref07_Copy.mono_l k
    · intro y0 y1 y2 y3 y4 y5 y6 y7 y8 y9 y10
      unfold penstockref07_Copy.l0
      repeat' first
      | (with_reducible exact ih0 _ _ _ _ _ _ _ _ _ _ _)
      | (with_reducible exact LeO.refl _)
      | (with_reducible exact LeO.none _)
      | (with_reducible refine LeO.ite ?_ ?_)
      | (with_reducible refine LeO.bind ?_ (fun _ => ?_))
      | exact ih0 _ _ _ _ _ _ _ _ _ _ _
      | exact LeO.none _
      | refine LeO.ite ?_ ?_
      | refine LeO.bind ?_ (fun _ => ?_)
theorem penstockref07_Copy.mono : ∀ a0 a1 a2 a3 a4 a5 a6 a7 a8 k, LeO (penstockref07_Copy.f k a0 a1 a2 a3 a4 a5 a6 a7 a8) (penstockref07_Copy.f (k + 1) a0 a1 a2 a3 a4 a5 a6 a7 a8) := by
  intro a0 a1 a2 a3 a4 a5 a6 a7 a8 k
  have ih0 := penstockref07_Copy.mono_l k
  unfold penstockref07_Copy.f
  repeat' first
      | (with_reducible exact ih0 _ _ _ _ _ _ _ _ _ _ _)
      | (with_reducible exact LeO.refl _)
      | (with_reducible exact LeO.none _)
      | (with_reducible refine LeO.ite ?_ ?_)
      | (with_reducible refine LeO.bind ?_ (fun _ => ?_))
      | exact ih0 _ _ _ _ _ _ _ _ _ _ _
      | exact LeO.none _
      | refine LeO.ite ?_ ?_
      | refine LeO.bind ?_ (fun _ => ?_)
set_option maxHeartbeats 8000000 in
set_option maxRecDepth 100000 in
theorem penstockref07_Copy.calls (k : Nat) (a0_0 : Int) (a0_1 : Int) (a0_2 : Int) (a0_3 : Int) (a0_4 : Int) (a0_5 : Bool) (a0_6 : Bool) (a0_7 : Bool) (A0_8 : Option Addr) (c0_8 : Nat) (l0_8 : List (List Int)) (r1 : Int) (r2 : Int) (r3 : Int) (r4 : Int) (r5 : Int) (r6 : Bool) (r7 : Bool) (r8 : Bool) (r9 : List (List Int)) (w : World) (hr0_8 : Kd.C (Kd.slice 5 (Kd.int .u8)) w A0_8 l0_8.length l0_8) (hc0_8 : l0_8.length ≤ c0_8) (h : penstockref07_Copy.f k a0_0 a0_1 a0_2 a0_3 a0_4 a0_5 a0_6 a0_7 l0_8 = some (r1, r2, r3, r4, r5, r6, r7, r8, r9)) :
    Calls Try.prog 18 #[.agg #[.int .i64 a0_0, .int .i64 a0_1, .int .u64 a0_2, .int .i64 a0_3, .int .i64 a0_4, .bool a0_5, .bool a0_6, .bool a0_7, .slice A0_8 l0_8.length c0_8]] w fun e w' => ∃ v8_ : Value, e = .returned (.agg #[.int .i64 r1, .int .i64 r2, .int .u64 r3, .int .i64 r4, .int .i64 r5, .bool r6, .bool r7, .bool r8, v8_]) ∧ Kd.S (Kd.slice 5 (Kd.int .u8)) 47 w' w.heap.size (fun _ => True) v8_ r9 ∧ Below w.heap.size w w' := by
  have hu41 := Try.underlying41
  have HR0_8 := Aside0.mk hr0_8
  have HC0_8 := Aside0.mk hc0_8
  clear hr0_8 hc0_8
  have HB := Aside0.mk (Below.refl w.heap.size w)
  have H : (penstockref07_Copy.l0 k ([] : List (List Int)) 0 a0_0 a0_1 a0_2 a0_3 a0_4 a0_5 a0_6 a0_7 l0_8) = some (r1, r2, r3, r4, r5, r6, r7, r8, r9) := h
  clear h
  have H' := Aside0.mk H
  clear H
  go_enter Try.func18, Try.ntmps18
  go_wp2_with (first | ((with_reducible refine gate_dst (N := 1) rfl ?_); refine box_event ?hg (N := 1) ?hd (cs := #[.int .i64 a0_0, .int .i64 a0_1, .int .u64 a0_2, .int .i64 a0_3, .int .i64 a0_4, .bool a0_5, .bool a0_6, .bool a0_7, .slice A0_8 l0_8.length c0_8]) (t := 41) ?hr ?_; (case hd => rfl); (case hg => rfl); (case hr => first | (go_simp; done) | (go_simp; rfl)); intro gb114 hg w2 hbox hb; have n0_ := Aside0.mk (below_step (by repeat (first | (with_reducible first | exact HB.out | apply below_alloc | apply pw_below_drewN | apply below_drew1) | exact HB.out)) hb); have n1_ := Aside0.mk (hbox); have n2_ := Aside0.mk ((by rw [hg]; exact (below_size (by repeat (first | (with_reducible first | exact HB.out | apply below_alloc | apply pw_below_drewN | apply below_drew1) | exact HB.out))) : w.heap.size ≤ gb114)); have n3_ := Aside0.mk ((by rw [hg]; exact (below_size (by repeat (first | (with_reducible first | exact HB.out | apply below_alloc | apply pw_below_drewN | apply below_drew1) | exact HB.out))) : w.heap.size ≤ gb114)); clear HB; have HB := n0_; have BK114 := n1_; have GW114 := n2_; have GE114 := n3_; clear n0_ n1_ n2_ n3_; clear hb hbox hg) | ((with_reducible refine gate_dst (N := 2) rfl ?_); refine box_event ?hg (N := 2) ?hd (cs := #[.int .i64 0, .int .i64 0, .int .u64 0, .int .i64 0, .int .i64 0, .bool false, .bool false, .bool false, .slice none 0 0]) (t := 41) ?hr ?_; (case hd => rfl); (case hg => rfl); (case hr => first | (go_simp; done) | (go_simp; rfl)); intro gb115 hg w3 hbox hb; have n0_ := Aside0.mk (blk_below (g := gb114) (o := .cells #[.int .i64 a0_0, .int .i64 a0_1, .int .u64 a0_2, .int .i64 a0_3, .int .i64 a0_4, .bool a0_5, .bool a0_6, .bool a0_7, .slice A0_8 l0_8.length c0_8] 41 (0, 0)) (by (with_reducible repeat (first | refine blk_drewN ?_ _ | refine blk_drew ?_ | refine blk_alloc ?_ _)); exact BK114.out) hb); have n1_ := Aside0.mk (below_step (by repeat (first | (with_reducible first | exact HB.out | apply below_alloc | apply pw_below_drewN | apply below_drew1 | refine below_set ?_ GE114.out) | exact HB.out)) hb); have n2_ := Aside0.mk (hbox); have n3_ := Aside0.mk ((by rw [hg]; exact (below_size (by repeat (first | (with_reducible first | exact HB.out | apply below_alloc | apply pw_below_drewN | apply below_drew1 | refine below_set ?_ GE114.out) | exact HB.out))) : w.heap.size ≤ gb115)); have n4_ := Aside0.mk ((by rw [hg]; exact (below_size (by repeat (first | (with_reducible first | exact HB.out | apply below_alloc | apply pw_below_drewN | apply below_drew1 | refine below_set ?_ GE114.out) | exact HB.out))) : w.heap.size ≤ gb115)); have n5_ := Aside0.mk ((by rw [hg]; exact Nat.ne_of_lt (blk_lt (g := gb114) (o := .cells #[.int .i64 a0_0, .int .i64 a0_1, .int .u64 a0_2, .int .i64 a0_3, .int .i64 a0_4, .bool a0_5, .bool a0_6, .bool a0_7, .slice A0_8 l0_8.length c0_8] 41 (0, 0)) (by (with_reducible repeat (first | refine blk_drewN ?_ _ | refine blk_drew ?_ | refine blk_alloc ?_ _)); exact BK114.out)) : gb114 ≠ gb115)); have n6_ := Aside0.mk ((by rw [hg]; exact Nat.ne_of_gt (blk_lt (g := gb114) (o := .cells #[.int .i64 a0_0, .int .i64 a0_1, .int .u64 a0_2, .int .i64 a0_3, .int .i64 a0_4, .bool a0_5, .bool a0_6, .bool a0_7, .slice A0_8 l0_8.length c0_8] 41 (0, 0)) (by (with_reducible repeat (first | refine blk_drewN ?_ _ | refine blk_drew ?_ | refine blk_alloc ?_ _)); exact BK114.out)) : gb115 ≠ gb114)); clear BK114; clear HB; have BK114 := n0_; have HB := n1_; have BK115 := n2_; have GW115 := n3_; have GE115 := n4_; have NB114_115 := n5_; have NB115_114 := n6_; clear n0_ n1_ n2_ n3_ n4_ n5_ n6_; clear hb hbox hg))
  go_loopg [3, 4] k (fun kq v3 v4 w' => ∃ (x3_1 : List (List Int)) (x4_1 : Int), v4 = .int .i64 x4_1 ∧ Aside0 (penstockref07_Copy.l0 kq x3_1 x4_1 a0_0 a0_1 a0_2 a0_3 a0_4 a0_5 a0_6 a0_7 l0_8 = some (r1, r2, r3, r4, r5, r6, r7, r8, r9)) ∧ Aside0 (kq ≤ k) ∧ Aside0 (Kd.S (Kd.slice 5 (Kd.int .u8)) 47 w' w.heap.size (fun _ => True) v3 x3_1) ∧ Aside0 (w'.heap[gb114]? = some (.cells #[.int .i64 a0_0, .int .i64 a0_1, .int .u64 a0_2, .int .i64 a0_3, .int .i64 a0_4, .bool a0_5, .bool a0_6, .bool a0_7, (.slice A0_8 l0_8.length c0_8)] 41 (0, 0))) ∧ Aside0 (w'.heap[gb115]? = some (.cells #[.int .i64 0, .int .i64 0, .int .u64 0, .int .i64 0, .int .i64 0, .bool false, .bool false, .bool false, (.slice none 0 0)] 41 (0, 0))) ∧ Aside0 (Below w.heap.size w w'))
  case atStart => exact ⟨(([] : List (List Int))), (0), (by first | rfl | (simp; done) | (simp [*]; done)), H', ⟨Nat.le_refl _⟩, ⟨by first | exact Kd.S_nil _ _ _ _ _ | exact Kd.N_nil _ _ _ _ _ | exact Kd.V_nil _ _ _ _ _ | exact Kd.Q_nil _ _ _ _ _ | exact Kd.R_nil _ _ _ _ _⟩, ⟨by (with_reducible repeat (first | refine blk_drewN ?_ _ | refine blk_drew ?_ | refine blk_alloc ?_ _)); exact BK114.out⟩, ⟨by (with_reducible repeat (first | refine blk_drewN ?_ _ | refine blk_drew ?_ | refine blk_alloc ?_ _)); exact BK115.out⟩, ⟨by repeat (first | (with_reducible first | exact HB.out | apply below_alloc | apply pw_below_drewN | apply below_drew1 | refine below_set ?_ GE114.out | refine below_set ?_ GE115.out) | exact HB.out)⟩⟩
  case round =>
    clear H'
    try clear c1
    try clear p2
    obtain ⟨x3_1, x4_1, rfl, HA, HK1, HO_3, BK114, BK115, HB⟩ := hrel
    cases gk with
    | zero => exact absurd HA.out (by simp [penstockref07_Copy.l0])
    | succ k1 =>
      have H := HA.out
      clear HA
      simp only [penstockref07_Copy.l0] at H
      by_cases c4 : x4_1 < (l0_8.length : Int)
      · rw [if_pos c4] at H
        have c4b0 : decide (x4_1 < (l0_8.length : Int)) = true := decide_eq_true c4
        clear c4
        by_cases c5 : 0 ≤ x4_1
        · rw [if_pos c5] at H
          have c5b0 : decide (0 ≤ x4_1) = true := decide_eq_true c5
          clear c5
          by_cases c6 : ([] : List Int).length + (rd_L1 l0_8 x4_1).length < 140737488355328
          · rw [if_pos c6] at H
            have LMc6 := Aside0.mk c6
            clear c6
            obtain ⟨y117, hy117⟩ : ∃ y_ : List Int, y_ = (([] : List Int) ++ (rd_L1 l0_8 x4_1)) := ⟨_, rfl⟩
            replace H : (if x3_1.length < 5864062014805 then (penstockref07_Copy.l0 k1 (x3_1 ++ [y117]) (wrap64 (x4_1 + 1)) a0_0 a0_1 a0_2 a0_3 a0_4 a0_5 a0_6 a0_7 l0_8) else (none)) = some (r1, r2, r3, r4, r5, r6, r7, r8, r9) := by first | (rw [hy117]; with_reducible exact H) | (have H2_ := (Option.bind_some _ _).symm.trans H; rw [hy117]; with_reducible exact H2_) | (have H2_ := (Option.bind_some _ _).symm.trans H; with_reducible exact H2_) | with_reducible exact H | (rw [hy117]; exact H) | exact H
            have Ny117 := Aside0.mk hy117
            clear hy117
            by_cases c7 : x3_1.length < 5864062014805
            · rw [if_pos c7] at H
              have LMc7 := Aside0.mk c7
              clear c7
              obtain ⟨y120, hy120⟩ : ∃ y_ : List (List Int), y_ = (x3_1 ++ [y117]) := ⟨_, rfl⟩
              replace H : (penstockref07_Copy.l0 k1 y120 (wrap64 (x4_1 + 1)) a0_0 a0_1 a0_2 a0_3 a0_4 a0_5 a0_6 a0_7 l0_8) = some (r1, r2, r3, r4, r5, r6, r7, r8, r9) := by first | (rw [hy120]; with_reducible exact H) | (have H2_ := (Option.bind_some _ _).symm.trans H; rw [hy120]; with_reducible exact H2_) | (have H2_ := (Option.bind_some _ _).symm.trans H; with_reducible exact H2_) | with_reducible exact H | (rw [hy120]; exact H) | exact H
              have Ny120 := Aside0.mk hy120
              clear hy120
              have H' := Aside0.mk H
              clear H
              have hnb8 := NB114_115.out
              have hnc8 := NB115_114.out
              have hcz9_0 : wr.cell? ⟨gb114, 0, none⟩ = some (.int .i64 a0_0) := (blk_cell BK114.out 0).trans rfl
              have hcz9_1 : wr.cell? ⟨gb114, 1, none⟩ = some (.int .i64 a0_1) := (blk_cell BK114.out 1).trans rfl
              have hcz9_2 : wr.cell? ⟨gb114, 2, none⟩ = some (.int .u64 a0_2) := (blk_cell BK114.out 2).trans rfl
              have hcz9_3 : wr.cell? ⟨gb114, 3, none⟩ = some (.int .i64 a0_3) := (blk_cell BK114.out 3).trans rfl
              have hcz9_4 : wr.cell? ⟨gb114, 4, none⟩ = some (.int .i64 a0_4) := (blk_cell BK114.out 4).trans rfl
              have hcz9_5 : wr.cell? ⟨gb114, 5, none⟩ = some (.bool a0_5) := (blk_cell BK114.out 5).trans rfl
              have hcz9_6 : wr.cell? ⟨gb114, 6, none⟩ = some (.bool a0_6) := (blk_cell BK114.out 6).trans rfl
              have hcz9_7 : wr.cell? ⟨gb114, 7, none⟩ = some (.bool a0_7) := (blk_cell BK114.out 7).trans rfl
              have hcz9_8 : wr.cell? ⟨gb114, 8, none⟩ = some (.slice A0_8 l0_8.length c0_8) := (blk_cell BK114.out 8).trans rfl
              have hfz9_0 := blk_frozen BK114.out 0
              have hfz9_1 := blk_frozen BK114.out 1
              have hfz9_2 := blk_frozen BK114.out 2
              have hfz9_3 := blk_frozen BK114.out 3
              have hfz9_4 := blk_frozen BK114.out 4
              have hfz9_5 := blk_frozen BK114.out 5
              have hfz9_6 := blk_frozen BK114.out 6
              have hfz9_7 := blk_frozen BK114.out 7
              have hfz9_8 := blk_frozen BK114.out 8
              have p116 : 0 ≤ (x4_1 : Int) := of_decide_eq_true (by first | (with_reducible assumption) | assumption)
              have q116 : x4_1 < (l0_8.length : Int) := of_decide_eq_true (by first | (with_reducible assumption) | assumption)
              obtain ⟨ad116, A116_0, c116_0, e116, hx116_0, hl116_0, hi116_0⟩ := at_L1 HR0_8.out x4_1 p116 q116
              cases e116
              replace hx116_0 := (HB.out.cell (World.block_lt_of_cell? w _ hx116_0)).trans hx116_0
              have HR116_0 := Aside0.mk hi116_0
              have HC116_0 := Aside0.mk hl116_0
              clear hi116_0 hl116_0
              replace p116 := eq_true p116
              replace q116 := eq_true q116
              go_wp2_with (first | ((with_reducible refine gate_builtin (b := .append) (xs := #[.tmp 13, .tmp 18]) rfl ?_); at_builtin; refine Kd.R_append_rows (Kd.int .u8) (w0 := w) w.heap.size rfl (.tmp 13) (.tmp 18) 47 5 (.int .u8 0) 1 rfl Try.underlying47 info5 rfl (by decide) (by omega) (.slice none 0 0) ([] : List Int) (rd_L1 l0_8 x4_1) _ _ _ (fun _ => True) (fun _ => False) rfl rfl ?aO ?aR (fun _ _ h => h) (fun _ h => h.elim) ?aF ?aB ?aS ?aL ?_; (case aR => repeat (first | exact (Kd.C_below HR116_0.out HB.out) | (with_reducible refine Kd.C_alloc ?_ _) | (with_reducible refine Kd.C_drewN ?_ _) | (with_reducible refine Kd.C_drew ?_))); (case aB => exact (by repeat (first | (with_reducible first | exact HB.out | apply below_alloc | apply pw_below_drewN | apply below_drew1 | refine below_set ?_ GE114.out | refine below_set ?_ GE115.out) | exact HB.out))); (case aF => exact (fun _ _ => trivial)); (case aO => exact ((Kd.R_nil _ _ _ _ (fun _ => True)))); (case aS => exact (below_size (by repeat (first | (with_reducible first | exact HB.out | apply below_alloc | apply pw_below_drewN | apply below_drew1 | refine below_set ?_ GE114.out | refine below_set ?_ GE115.out) | exact HB.out)))); (case aL => have := LMc6.out; omega); intro v118 w10 ho hb hg hat; rw [← Ny117.out] at ho; have n0_ := Aside0.mk (Kd.S_after (Kd.S_apart_nil (by (with_reducible repeat (first | apply Kd.S_alloc | apply Kd.S_drewN | apply Kd.S_drew)); exact HO_3.out)) hg hat); have n1_ := Aside0.mk (blk_grown (g := gb114) (o := .cells #[.int .i64 a0_0, .int .i64 a0_1, .int .u64 a0_2, .int .i64 a0_3, .int .i64 a0_4, .bool a0_5, .bool a0_6, .bool a0_7, .slice (some ad116) l0_8.length c0_8] 41 (0, 0)) (by (with_reducible repeat (first | refine blk_drewN ?_ _ | refine blk_drew ?_ | refine blk_alloc ?_ _)); exact BK114.out) hg (by simp [Value.ownBlock])); have n2_ := Aside0.mk (blk_grown (g := gb115) (o := .cells #[.int .i64 0, .int .i64 0, .int .u64 0, .int .i64 0, .int .i64 0, .bool false, .bool false, .bool false, .slice none 0 0] 41 (0, 0)) (by (with_reducible repeat (first | refine blk_drewN ?_ _ | refine blk_drew ?_ | refine blk_alloc ?_ _)); exact BK115.out) hg (by simp [Value.ownBlock])); have n3_ := Aside0.mk (hb); have n4_ := Aside0.mk (ho); clear HO_3; clear BK114; clear BK115; clear HB; have HO_3 := n0_; have BK114 := n1_; have BK115 := n2_; have HB := n3_; have HO119 := n4_; clear n0_ n1_ n2_ n3_ n4_; clear ho hb hg hat; obtain ⟨Ao12, co12, eo12⟩ := Kd.R_slice HO119.out; subst eo12) | ((with_reducible refine gate_builtin (b := .append) (xs := #[.tmp 20, .tmp 22]) rfl ?_); at_builtin; refine Kd.S_append (Kd.slice 5 (Kd.int .u8)) (w0 := w) w.heap.size rfl (.tmp 20) (.tmp 22) 39 47 (.slice none 0 0) 24 rfl Try.underlying39 info47 rfl (by decide) (by omega) u3 x3_1 y117 [.slice Ao12 y117.length co12] (fun _ => True) (fun k_ => some k_ = (.slice Ao12 y117.length co12 : Value).ownBlock) rfl rfl ?aP (fun k_ hk_ => ((Kd.R_mono (ok' := fun k_ => ((fun _ => True)) k_ ∧ some k_ ≠ (u3 : Value).ownBlock) (Kd.R_apart' (HO119.out) (Kd.S_typed HO_3.out) (by decide)) (fun k_ hk => ⟨trivial, hk.2⟩))).1 k_ hk_.symm) ?aF ?aO ?aB ?aS ?aL ?_; (case aP => exact Kd.M_row (Kd.R_mono (Kd.R_tight rfl (Kd.R_mono (ok' := fun k_ => ((fun _ => True)) k_ ∧ some k_ ≠ (u3 : Value).ownBlock) (Kd.R_apart' (HO119.out) (Kd.S_typed HO_3.out) (by decide)) (fun k_ hk => ⟨trivial, hk.2⟩))) (fun _ h_ => h_))); (case aB => exact (by repeat (first | (with_reducible first | exact HB.out | apply below_alloc | apply pw_below_drewN | apply below_drew1 | refine below_set ?_ GE114.out | refine below_set ?_ GE115.out) | exact HB.out))); (case aF => exact (fun _ _ => trivial)); (case aO => exact (by (with_reducible repeat (first | apply Kd.S_alloc | apply Kd.S_drewN | apply Kd.S_drew)); exact Kd.S_mono HO_3.out (fun k_ hk => ⟨trivial, fun e_ => hk.2 e_⟩))); (case aS => exact (below_size (by repeat (first | (with_reducible first | exact HB.out | apply below_alloc | apply pw_below_drewN | apply below_drew1 | refine below_set ?_ GE114.out | refine below_set ?_ GE115.out) | exact HB.out)))); (case aL => have := LMc7.out; omega); intro v121 w11 ho hb hg hat; rw [← Ny120.out] at ho; have n0_ := Aside0.mk (blk_grown (g := gb114) (o := .cells #[.int .i64 a0_0, .int .i64 a0_1, .int .u64 a0_2, .int .i64 a0_3, .int .i64 a0_4, .bool a0_5, .bool a0_6, .bool a0_7, .slice (some ad116) l0_8.length c0_8] 41 (0, 0)) (by (with_reducible repeat (first | refine blk_drewN ?_ _ | refine blk_drew ?_ | refine blk_alloc ?_ _)); exact BK114.out) hg (Kd.S_ne HO_3.out BK114.out (by decide))); have n1_ := Aside0.mk (blk_grown (g := gb115) (o := .cells #[.int .i64 0, .int .i64 0, .int .u64 0, .int .i64 0, .int .i64 0, .bool false, .bool false, .bool false, .slice none 0 0] 41 (0, 0)) (by (with_reducible repeat (first | refine blk_drewN ?_ _ | refine blk_drew ?_ | refine blk_alloc ?_ _)); exact BK115.out) hg (Kd.S_ne HO_3.out BK115.out (by decide))); have n2_ := Aside0.mk (hb); have n3_ := Aside0.mk (ho); clear BK114; clear BK115; clear HB; clear HO_3; clear HO119; have BK114 := n0_; have BK115 := n1_; have HB := n2_; have HO122 := n3_; clear n0_ n1_ n2_ n3_; clear ho hb hg hat))
              go_roundg k1
              case measure => have := HK1.out; omega
              case rel => exact ⟨(y120), (wrap64 (x4_1 + 1)), (by first | rfl | (simp; done) | (simp [*]; done)), H', ⟨by have := HK1.out; omega⟩, ⟨by (with_reducible repeat (first | apply Kd.S_alloc | apply Kd.S_drewN | apply Kd.S_drew)); exact HO122.out⟩, ⟨by (with_reducible repeat (first | refine blk_drewN ?_ _ | refine blk_drew ?_ | refine blk_alloc ?_ _)); exact BK114.out⟩, ⟨by (with_reducible repeat (first | refine blk_drewN ?_ _ | refine blk_drew ?_ | refine blk_alloc ?_ _)); exact BK115.out⟩, ⟨by repeat (first | (with_reducible first | exact HB.out | apply below_alloc | apply pw_below_drewN | apply below_drew1 | refine below_set ?_ GE114.out | refine below_set ?_ GE115.out) | exact HB.out)⟩⟩
            · rw [if_neg c7] at H
              exact absurd H (by simp)
          · rw [if_neg c6] at H
            exact absurd H (by simp)
        · rw [if_neg c5] at H
          exact absurd H (by simp)
      · rw [if_neg c4] at H
        have c4b0 : decide (x4_1 < (l0_8.length : Int)) = false := decide_eq_false c4
        clear c4
        simp only [Option.some.injEq, Prod.mk.injEq] at H
        obtain ⟨rfl, rfl, rfl, rfl, rfl, rfl, rfl, rfl, rfl⟩ := H
        have hnb13 := NB114_115.out
        have hnc13 := NB115_114.out
        have hcz14_0 : wr.cell? ⟨gb114, 0, none⟩ = some (.int .i64 a0_0) := (blk_cell BK114.out 0).trans rfl
        have hcz14_1 : wr.cell? ⟨gb114, 1, none⟩ = some (.int .i64 a0_1) := (blk_cell BK114.out 1).trans rfl
        have hcz14_2 : wr.cell? ⟨gb114, 2, none⟩ = some (.int .u64 a0_2) := (blk_cell BK114.out 2).trans rfl
        have hcz14_3 : wr.cell? ⟨gb114, 3, none⟩ = some (.int .i64 a0_3) := (blk_cell BK114.out 3).trans rfl
        have hcz14_4 : wr.cell? ⟨gb114, 4, none⟩ = some (.int .i64 a0_4) := (blk_cell BK114.out 4).trans rfl
        have hcz14_5 : wr.cell? ⟨gb114, 5, none⟩ = some (.bool a0_5) := (blk_cell BK114.out 5).trans rfl
        have hcz14_6 : wr.cell? ⟨gb114, 6, none⟩ = some (.bool a0_6) := (blk_cell BK114.out 6).trans rfl
        have hcz14_7 : wr.cell? ⟨gb114, 7, none⟩ = some (.bool a0_7) := (blk_cell BK114.out 7).trans rfl
        have hcz14_8 : wr.cell? ⟨gb114, 8, none⟩ = some (.slice A0_8 l0_8.length c0_8) := (blk_cell BK114.out 8).trans rfl
        have hfz14_0 := blk_frozen BK114.out 0
        have hfz14_1 := blk_frozen BK114.out 1
        have hfz14_2 := blk_frozen BK114.out 2
        have hfz14_3 := blk_frozen BK114.out 3
        have hfz14_4 := blk_frozen BK114.out 4
        have hfz14_5 := blk_frozen BK114.out 5
        have hfz14_6 := blk_frozen BK114.out 6
        have hfz14_7 := blk_frozen BK114.out 7
        have hfz14_8 := blk_frozen BK114.out 8
        obtain ⟨Ao15, co15, eo15⟩ := Kd.S_slice HO_3.out
        subst eo15
        have hcz16_0 : wr.cell? ⟨gb115, 0, none⟩ = some (.int .i64 0) := (blk_cell BK115.out 0).trans rfl
        have hcz16_1 : wr.cell? ⟨gb115, 1, none⟩ = some (.int .i64 0) := (blk_cell BK115.out 1).trans rfl
        have hcz16_2 : wr.cell? ⟨gb115, 2, none⟩ = some (.int .u64 0) := (blk_cell BK115.out 2).trans rfl
        have hcz16_3 : wr.cell? ⟨gb115, 3, none⟩ = some (.int .i64 0) := (blk_cell BK115.out 3).trans rfl
        have hcz16_4 : wr.cell? ⟨gb115, 4, none⟩ = some (.int .i64 0) := (blk_cell BK115.out 4).trans rfl
        have hcz16_5 : wr.cell? ⟨gb115, 5, none⟩ = some (.bool false) := (blk_cell BK115.out 5).trans rfl
        have hcz16_6 : wr.cell? ⟨gb115, 6, none⟩ = some (.bool false) := (blk_cell BK115.out 6).trans rfl
        have hcz16_7 : wr.cell? ⟨gb115, 7, none⟩ = some (.bool false) := (blk_cell BK115.out 7).trans rfl
        have hcz16_8 : wr.cell? ⟨gb115, 8, none⟩ = some (.slice none 0 0) := (blk_cell BK115.out 8).trans rfl
        have hfz16_0 := blk_frozen BK115.out 0
        have hfz16_1 := blk_frozen BK115.out 1
        have hfz16_2 := blk_frozen BK115.out 2
        have hfz16_3 := blk_frozen BK115.out 3
        have hfz16_4 := blk_frozen BK115.out 4
        have hfz16_5 := blk_frozen BK115.out 5
        have hfz16_6 := blk_frozen BK115.out 6
        have hfz16_7 := blk_frozen BK115.out 7
        have hfz16_8 := blk_frozen BK115.out 8
        go_wp2
        refine bodyPost_ret (results_cell_row rfl _ _ gb115 41 #[.int .i64 a0_0, .int .i64 a0_1, .int .u64 a0_2, .int .i64 a0_3, .int .i64 a0_4, .bool a0_5, .bool a0_6, .bool a0_7, .slice Ao15 x3_1.length co15] (0, 0) _ rfl (by (with_reducible repeat (first | refine blk_drewN ?_ _ | refine blk_drew ?_ | refine blk_alloc ?_ _)); refine blk_put (cs := #[.int .i64 a0_0, .int .i64 a0_1, .int .u64 a0_2, .int .i64 a0_3, .int .i64 a0_4, .bool a0_5, .bool a0_6, .bool a0_7, .slice none 0 0]) ?_ 8 _ rfl; (with_reducible repeat (first | refine blk_drewN ?_ _ | refine blk_drew ?_ | refine blk_alloc ?_ _)); refine blk_put (cs := #[.int .i64 a0_0, .int .i64 a0_1, .int .u64 a0_2, .int .i64 a0_3, .int .i64 a0_4, .bool a0_5, .bool a0_6, .bool false, .slice none 0 0]) ?_ 7 _ rfl; (with_reducible repeat (first | refine blk_drewN ?_ _ | refine blk_drew ?_ | refine blk_alloc ?_ _)); refine blk_put (cs := #[.int .i64 a0_0, .int .i64 a0_1, .int .u64 a0_2, .int .i64 a0_3, .int .i64 a0_4, .bool a0_5, .bool false, .bool false, .slice none 0 0]) ?_ 6 _ rfl; (with_reducible repeat (first | refine blk_drewN ?_ _ | refine blk_drew ?_ | refine blk_alloc ?_ _)); refine blk_put (cs := #[.int .i64 a0_0, .int .i64 a0_1, .int .u64 a0_2, .int .i64 a0_3, .int .i64 a0_4, .bool false, .bool false, .bool false, .slice none 0 0]) ?_ 5 _ rfl; (with_reducible repeat (first | refine blk_drewN ?_ _ | refine blk_drew ?_ | refine blk_alloc ?_ _)); refine blk_put (cs := #[.int .i64 a0_0, .int .i64 a0_1, .int .u64 a0_2, .int .i64 a0_3, .int .i64 0, .bool false, .bool false, .bool false, .slice none 0 0]) ?_ 4 _ rfl; (with_reducible repeat (first | refine blk_drewN ?_ _ | refine blk_drew ?_ | refine blk_alloc ?_ _)); refine blk_put (cs := #[.int .i64 a0_0, .int .i64 a0_1, .int .u64 a0_2, .int .i64 0, .int .i64 0, .bool false, .bool false, .bool false, .slice none 0 0]) ?_ 3 _ rfl; (with_reducible repeat (first | refine blk_drewN ?_ _ | refine blk_drew ?_ | refine blk_alloc ?_ _)); refine blk_put (cs := #[.int .i64 a0_0, .int .i64 a0_1, .int .u64 0, .int .i64 0, .int .i64 0, .bool false, .bool false, .bool false, .slice none 0 0]) ?_ 2 _ rfl; (with_reducible repeat (first | refine blk_drewN ?_ _ | refine blk_drew ?_ | refine blk_alloc ?_ _)); refine blk_put (cs := #[.int .i64 a0_0, .int .i64 0, .int .u64 0, .int .i64 0, .int .i64 0, .bool false, .bool false, .bool false, .slice none 0 0]) ?_ 1 _ rfl; (with_reducible repeat (first | refine blk_drewN ?_ _ | refine blk_drew ?_ | refine blk_alloc ?_ _)); refine blk_put (cs := #[.int .i64 0, .int .i64 0, .int .u64 0, .int .i64 0, .int .i64 0, .bool false, .bool false, .bool false, .slice none 0 0]) ?_ 0 _ rfl; (with_reducible repeat (first | refine blk_drewN ?_ _ | refine blk_drew ?_ | refine blk_alloc ?_ _)); refine blk_far ?_ NB115_114.out _; (with_reducible repeat (first | refine blk_drewN ?_ _ | refine blk_drew ?_ | refine blk_alloc ?_ _)); exact BK115.out) Try.underlying41 rfl (by kernel_rfl)) rfl ?_
        exact ⟨_, by first | rfl | (simp [errW_none, errW_some] <;> rfl) | (simp [*, errW_none, errW_some] <;> rfl), by (with_reducible repeat (first | apply Kd.S_alloc | apply Kd.S_drewN | apply Kd.S_drew)); exact Kd.S_mono (Kd.S_far (p := ⟨gb115, 8, none⟩) (Kd.S_far (p := ⟨gb115, 7, none⟩) (Kd.S_far (p := ⟨gb115, 6, none⟩) (Kd.S_far (p := ⟨gb115, 5, none⟩) (Kd.S_far (p := ⟨gb115, 4, none⟩) (Kd.S_far (p := ⟨gb115, 3, none⟩) (Kd.S_far (p := ⟨gb115, 2, none⟩) (Kd.S_far (p := ⟨gb115, 1, none⟩) (Kd.S_far (p := ⟨gb115, 0, none⟩) (Kd.S_far (p := ⟨gb114, 8, none⟩) (Kd.S_types (Kd.S_types HO_3.out BK114.out (by decide)) BK115.out (by decide)) (fun _ hk => hk.1.2) (.slice Ao15 x3_1.length co15)) (fun _ hk => hk.2) (.int .i64 a0_0)) (fun _ hk => hk.2) (.int .i64 a0_1)) (fun _ hk => hk.2) (.int .u64 a0_2)) (fun _ hk => hk.2) (.int .i64 a0_3)) (fun _ hk => hk.2) (.int .i64 a0_4)) (fun _ hk => hk.2) (.bool a0_5)) (fun _ hk => hk.2) (.bool a0_6)) (fun _ hk => hk.2) (.bool a0_7)) (fun _ hk => hk.2) (.slice Ao15 x3_1.length co15)) (fun _ hk => trivial), by repeat (first | (with_reducible first | exact HB.out | apply below_alloc | apply pw_below_drewN | apply below_drew1 | refine below_set ?_ GE114.out | refine below_set ?_ GE115.out) | exact HB.out)⟩

/-! ### penstocklaw21_copied: function 9 -/
def penstocklaw21_copied.l0 : Nat → List (S41) → List (S41) → Int → Int → Option ((List (S41)))
  | 0, _, _, _, _ => none
  | k + 1, x3, x6, x7, x8 => if x8 < x7 then (if 0 ≤ x8 then (if x8 < (x6.length : Int) then ((penstockref07_Copy.f k ((rd_T41 x6 x8).f0) ((rd_T41 x6 x8).f1) ((rd_T41 x6 x8).f2) ((rd_T41 x6 x8).f3) ((rd_T41 x6 x8).f4) ((rd_T41 x6 x8).f5) ((rd_T41 x6 x8).f6) ((rd_T41 x6 x8).f7) ((rd_T41 x6 x8).f8)).bind fun bt125 => (if x3.length < 1954687338268 then (penstocklaw21_copied.l0 k (x3 ++ [(⟨bt125.1, bt125.2.1, bt125.2.2.1, bt125.2.2.2.1, bt125.2.2.2.2.1, bt125.2.2.2.2.2.1, bt125.2.2.2.2.2.2.1, bt125.2.2.2.2.2.2.2.1, bt125.2.2.2.2.2.2.2.2⟩ : S41)]) x6 x7 (wrap64 (x8 + 1))) else (none))) else (none)) else (none)) else (some x3)
def penstocklaw21_copied.f (k : Nat) (l0 : List (S41)) : Option ((List (S41))) := penstocklaw21_copied.l0 k ([] : List (S41)) l0 (l0.length : Int) 0
theorem penstocklaw21_copied.mono_l : ∀ k, (∀ y0 y1 y2 y3, LeO (penstocklaw21_copied.l0 k y0 y1 y2 y3) (penstocklaw21_copied.l0 (k + 1) y0 y1 y2 y3))
  | 0 => fun _ _ _ _ r h => by simp [penstocklaw21_copied.l0] at h
  | k + 1 => by
    have ih0 := penstocklaw21_copied.mono_l k
    · intro y0 y1 y2 y3
      unfold penstocklaw21_copied.l0
      repeat' first
      | (with_reducible exact ih0 _ _ _ _)
      | (with_reducible exact penstockref07_Copy.mono _ _ _ _ _ _ _ _ _ _)
      | (with_reducible exact LeO.refl _)
      | (with_reducible exact LeO.none _)
      | (with_reducible refine LeO.ite ?_ ?_)
      | (with_reducible refine LeO.bind ?_ (fun _ => ?_))
      | exact ih0 _ _ _ _
      | exact penstockref07_Copy.mono _ _ _ _ _ _ _ _ _ _
      | exact LeO.none _
      | refine LeO.ite ?_ ?_
      | refine LeO.bind ?_ (fun _ => ?_)
theorem penstocklaw21_copied.mono : ∀ a0 k, LeO (penstocklaw21_copied.f k a0) (penstocklaw21_copied.f (k + 1) a0) := by
  intro a0 k
  have ih0 := penstocklaw21_copied.mono_l k
  unfold penstocklaw21_copied.f
  repeat' first
      | (with_reducible exact ih0 _ _ _ _)
      | (with_reducible exact penstockref07_Copy.mono _ _ _ _ _ _ _ _ _ _)
      | (with_reducible exact LeO.refl _)
      | (with_reducible exact LeO.none _)
      | (with_reducible refine LeO.ite ?_ ?_)
      | (with_reducible refine LeO.bind ?_ (fun _ => ?_))
      | exact ih0 _ _ _ _
      | exact penstockref07_Copy.mono _ _ _ _ _ _ _ _ _ _
      | exact LeO.none _
      | refine LeO.ite ?_ ?_
      | refine LeO.bind ?_ (fun _ => ?_)
set_option maxHeartbeats 8000000 in
set_option maxRecDepth 100000 in
theorem penstocklaw21_copied.calls (k : Nat) (A0 : Option Addr) (c0 : Nat) (l0 : List (S41)) (r : List (S41)) (w : World) (hr0 : Kd.C k41 w A0 l0.length l0) (hc0 : l0.length ≤ c0) (h : penstocklaw21_copied.f k l0 = some r) :
    Calls Try.prog 9 #[.slice A0 l0.length c0] w fun e w' => ∃ v0_ : Value, e = .returned (v0_) ∧ Kd.R k41 41 w' w.heap.size (fun _ => True) v0_ r ∧ Below w.heap.size w w' := by
  have hu41 := Try.underlying41
  have HR0 := Aside0.mk hr0
  have HC0 := Aside0.mk hc0
  clear hr0 hc0
  have HB := Aside0.mk (Below.refl w.heap.size w)
  have H : (penstocklaw21_copied.l0 k ([] : List (S41)) l0 (l0.length : Int) 0) = some r := h
  clear h
  have H' := Aside0.mk H
  clear H
  go_enter Try.func9, Try.ntmps9
  go_wp2
  go_loopg [3, 8] k (fun kq v3 v8 w' => ∃ (x3_1 : List (S41)) (x8_1 : Int), v8 = .int .i64 x8_1 ∧ Aside0 (penstocklaw21_copied.l0 kq x3_1 l0 (l0.length : Int) x8_1 = some r) ∧ Aside0 (kq ≤ k) ∧ Aside0 (Kd.R k41 41 w' w.heap.size (fun _ => True) v3 x3_1) ∧ Aside0 (Below w.heap.size w w'))
  case atStart => exact ⟨(([] : List (S41))), (0), (by first | rfl | (simp; done) | (simp [*]; done)), H', ⟨Nat.le_refl _⟩, ⟨by first | exact Kd.R_nil _ _ _ _ _ | exact Kd.N_nil _ _ _ _ _ | exact Kd.V_nil _ _ _ _ _ | exact Kd.Q_nil _ _ _ _ _ | exact Kd.S_nil _ _ _ _ _⟩, ⟨by repeat (first | (with_reducible first | exact HB.out | apply below_alloc | apply pw_below_drewN | apply below_drew1) | exact HB.out)⟩⟩
  case round =>
    clear H'
    obtain ⟨x3_1, x8_1, rfl, HA, HK1, HO_3, HB⟩ := hrel
    cases gk with
    | zero => exact absurd HA.out (by simp [penstocklaw21_copied.l0])
    | succ k1 =>
      have H := HA.out
      clear HA
      simp only [penstocklaw21_copied.l0] at H
      by_cases c2 : x8_1 < (l0.length : Int)
      · rw [if_pos c2] at H
        have c2b0 : decide (x8_1 < (l0.length : Int)) = true := decide_eq_true c2
        clear c2
        by_cases c3 : 0 ≤ x8_1
        · rw [if_pos c3] at H
          have c3b0 : decide (0 ≤ x8_1) = true := decide_eq_true c3
          clear c3
          by_cases c4 : x8_1 < (l0.length : Int)
          · rw [if_pos c4] at H
            have c4b0 : decide (x8_1 < (l0.length : Int)) = true := decide_eq_true c4
            clear c4
            replace H := Option.bind_eq_some_iff.mp H
            obtain ⟨⟨t125, t126, t127, t128, t129, t130, t131, t132, t133⟩, A50, H⟩ := H
            replace H : (if x3_1.length < 1954687338268 then (penstocklaw21_copied.l0 k1 (x3_1 ++ [(⟨t125, t126, t127, t128, t129, t130, t131, t132, t133⟩ : S41)]) l0 (l0.length : Int) (wrap64 (x8_1 + 1))) else (none)) = some r := H
            have A5 := Aside0.mk A50
            clear A50
            by_cases c6 : x3_1.length < 1954687338268
            · rw [if_pos c6] at H
              have LMc6 := Aside0.mk c6
              clear c6
              obtain ⟨y136, hy136⟩ : ∃ y_ : List (S41), y_ = (x3_1 ++ [(⟨t125, t126, t127, t128, t129, t130, t131, t132, t133⟩ : S41)]) := ⟨_, rfl⟩
              replace H : (penstocklaw21_copied.l0 k1 y136 l0 (l0.length : Int) (wrap64 (x8_1 + 1))) = some r := by first | (rw [hy136]; with_reducible exact H) | (have H2_ := (Option.bind_some _ _).symm.trans H; rw [hy136]; with_reducible exact H2_) | (have H2_ := (Option.bind_some _ _).symm.trans H; with_reducible exact H2_) | with_reducible exact H | (rw [hy136]; exact H) | exact H
              have Ny136 := Aside0.mk hy136
              clear hy136
              have H' := Aside0.mk H
              clear H
              have p123 : 0 ≤ (x8_1 : Int) := of_decide_eq_true (by first | (with_reducible assumption) | assumption)
              have q123 : x8_1 < (l0.length : Int) := of_decide_eq_true (by first | (with_reducible assumption) | assumption)
              obtain ⟨ad123, A123_8, c123_8, e123, hx123_0, hx123_1, hx123_2, hx123_3, hx123_4, hx123_5, hx123_6, hx123_7, hx123_8, hl123_8, hi123_8⟩ := at_T41 HR0.out x8_1 p123 q123
              cases e123
              replace hx123_0 := (HB.out.cell (World.block_lt_of_cell? w _ hx123_0)).trans hx123_0
              replace hx123_1 := (HB.out.cell (World.block_lt_of_cell? w _ hx123_1)).trans hx123_1
              replace hx123_2 := (HB.out.cell (World.block_lt_of_cell? w _ hx123_2)).trans hx123_2
              replace hx123_3 := (HB.out.cell (World.block_lt_of_cell? w _ hx123_3)).trans hx123_3
              replace hx123_4 := (HB.out.cell (World.block_lt_of_cell? w _ hx123_4)).trans hx123_4
              replace hx123_5 := (HB.out.cell (World.block_lt_of_cell? w _ hx123_5)).trans hx123_5
              replace hx123_6 := (HB.out.cell (World.block_lt_of_cell? w _ hx123_6)).trans hx123_6
              replace hx123_7 := (HB.out.cell (World.block_lt_of_cell? w _ hx123_7)).trans hx123_7
              replace hx123_8 := (HB.out.cell (World.block_lt_of_cell? w _ hx123_8)).trans hx123_8
              have HR123_8 := Aside0.mk hi123_8
              have HC123_8 := Aside0.mk hl123_8
              clear hi123_8 hl123_8
              replace p123 := eq_true p123
              replace q123 := eq_true q123
              go_wp2_with (first | ((with_reducible refine gate_dst (N := 5) rfl ?_); refine box_event ?hg (N := 5) ?hd (cs := #[.int .i64 0, .int .i64 0, .int .u64 0, .int .i64 0, .int .i64 0, .bool false, .bool false, .bool false, .slice none 0 0]) (t := 41) ?hr ?_; (case hd => rfl); (case hg => rfl); (case hr => first | (go_simp; done) | (go_simp; rfl)); intro gb124 hg w7 hbox hb; have n0_ := Aside0.mk (Kd.R_below (Kd.R_elderB (by (with_reducible repeat (first | apply Kd.R_alloc | apply Kd.R_drewN | apply Kd.R_drew)); exact HO_3.out) gb124 (Nat.le_of_eq hg.symm)) hb); have n1_ := Aside0.mk (below_step (by repeat (first | (with_reducible first | exact HB.out | apply below_alloc | apply pw_below_drewN | apply below_drew1) | exact HB.out)) hb); have n2_ := Aside0.mk (hbox); have n3_ := Aside0.mk ((by rw [hg]; exact (below_size (by repeat (first | (with_reducible first | exact HB.out | apply below_alloc | apply pw_below_drewN | apply below_drew1) | exact HB.out))) : w.heap.size ≤ gb124)); have n4_ := Aside0.mk ((by rw [hg]; exact (below_size (by repeat (first | (with_reducible first | exact HB.out | apply below_alloc | apply pw_below_drewN | apply below_drew1) | exact HB.out))) : w.heap.size ≤ gb124)); clear HO_3; clear HB; have HO_3 := n0_; have HB := n1_; have BK124 := n2_; have GW124 := n3_; have GE124 := n4_; clear n0_ n1_ n2_ n3_ n4_; clear hb hbox hg; have hcz8_0 : w7.cell? ⟨gb124, 0, none⟩ = some (.int .i64 0) := (blk_cell BK124.out 0).trans rfl; have hcz8_1 : w7.cell? ⟨gb124, 1, none⟩ = some (.int .i64 0) := (blk_cell BK124.out 1).trans rfl; have hcz8_2 : w7.cell? ⟨gb124, 2, none⟩ = some (.int .u64 0) := (blk_cell BK124.out 2).trans rfl; have hcz8_3 : w7.cell? ⟨gb124, 3, none⟩ = some (.int .i64 0) := (blk_cell BK124.out 3).trans rfl; have hcz8_4 : w7.cell? ⟨gb124, 4, none⟩ = some (.int .i64 0) := (blk_cell BK124.out 4).trans rfl; have hcz8_5 : w7.cell? ⟨gb124, 5, none⟩ = some (.bool false) := (blk_cell BK124.out 5).trans rfl; have hcz8_6 : w7.cell? ⟨gb124, 6, none⟩ = some (.bool false) := (blk_cell BK124.out 6).trans rfl; have hcz8_7 : w7.cell? ⟨gb124, 7, none⟩ = some (.bool false) := (blk_cell BK124.out 7).trans rfl; have hcz8_8 : w7.cell? ⟨gb124, 8, none⟩ = some (.slice none 0 0) := (blk_cell BK124.out 8).trans rfl; have hfz8_0 := blk_frozen BK124.out 0; have hfz8_1 := blk_frozen BK124.out 1; have hfz8_2 := blk_frozen BK124.out 2; have hfz8_3 := blk_frozen BK124.out 3; have hfz8_4 := blk_frozen BK124.out 4; have hfz8_5 := blk_frozen BK124.out 5; have hfz8_6 := blk_frozen BK124.out 6; have hfz8_7 := blk_frozen BK124.out 7; have hfz8_8 := blk_frozen BK124.out 8) | ((with_reducible refine gate_callee (f := 18) rfl ?_); refine goesL_ (some 14) rfl rfl Try.func18 (by kernel_rfl) rfl #[.agg #[.int .i64 ((rd_T41 l0 x8_1).f0), .int .i64 ((rd_T41 l0 x8_1).f1), .int .u64 ((rd_T41 l0 x8_1).f2), .int .i64 ((rd_T41 l0 x8_1).f3), .int .i64 ((rd_T41 l0 x8_1).f4), .bool ((rd_T41 l0 x8_1).f5), .bool ((rd_T41 l0 x8_1).f6), .bool ((rd_T41 l0 x8_1).f7), .slice A123_8 ((rd_T41 l0 x8_1).f8).length c123_8]] rfl (by (try simp only [List.map_toArray, List.map_cons, List.map_nil]); first | done | rfl | (simp only [List.length_drop, List.length_take]; rfl)) ?_; (with_reducible refine (penstockref07_Copy.calls k1 ((rd_T41 l0 x8_1).f0) ((rd_T41 l0 x8_1).f1) ((rd_T41 l0 x8_1).f2) ((rd_T41 l0 x8_1).f3) ((rd_T41 l0 x8_1).f4) ((rd_T41 l0 x8_1).f5) ((rd_T41 l0 x8_1).f6) ((rd_T41 l0 x8_1).f7) _ _ ((rd_T41 l0 x8_1).f8) t125 t126 t127 t128 t129 t130 t131 t132 t133 _ ?side1 ?side2 A5.out).mono ?_); (case side1 => exact Kd.C_below HR123_8.out (by repeat (first | (with_reducible first | exact HB.out | apply below_alloc | apply pw_below_drewN | apply below_drew1 | refine below_set ?_ GE124.out) | exact HB.out))); (case side2 => exact HC123_8.out); rintro e w9 ⟨v134, rfl, ho0, hb⟩; refine ⟨_, rfl, ?_⟩; have n0_ := Aside0.mk (Kd.R_elder' (by (with_reducible repeat (first | apply Kd.R_alloc | apply Kd.R_drewN | apply Kd.R_drew)); exact (Kd.R_mono (Kd.R_far (p := ⟨gb124, 8, none⟩) (Kd.R_far (p := ⟨gb124, 7, none⟩) (Kd.R_far (p := ⟨gb124, 6, none⟩) (Kd.R_far (p := ⟨gb124, 5, none⟩) (Kd.R_far (p := ⟨gb124, 4, none⟩) (Kd.R_far (p := ⟨gb124, 3, none⟩) (Kd.R_far (p := ⟨gb124, 2, none⟩) (Kd.R_far (p := ⟨gb124, 1, none⟩) (Kd.R_far (p := ⟨gb124, 0, none⟩) (Kd.R_mono HO_3.out (fun k_ hk => (⟨hk, hk.2⟩ : _ ∧ k_ ≠ gb124))) (fun _ hk => hk.2) (.int .i64 ((rd_T41 l0 x8_1).f0))) (fun _ hk => hk.2) (.int .i64 ((rd_T41 l0 x8_1).f1))) (fun _ hk => hk.2) (.int .u64 ((rd_T41 l0 x8_1).f2))) (fun _ hk => hk.2) (.int .i64 ((rd_T41 l0 x8_1).f3))) (fun _ hk => hk.2) (.int .i64 ((rd_T41 l0 x8_1).f4))) (fun _ hk => hk.2) (.bool ((rd_T41 l0 x8_1).f5))) (fun _ hk => hk.2) (.bool ((rd_T41 l0 x8_1).f6))) (fun _ hk => hk.2) (.bool ((rd_T41 l0 x8_1).f7))) (fun _ hk => hk.2) (.slice A123_8 ((rd_T41 l0 x8_1).f8).length c123_8)) (fun _ h_ => h_.1))) (Kd.S_base ho0) hb); have n1_ := Aside0.mk (Kd.S_lower ho0 (below_size (by repeat (first | (with_reducible first | exact HB.out | apply below_alloc | apply pw_below_drewN | apply below_drew1 | refine below_set ?_ GE124.out) | exact HB.out)))); have n2_ := Aside0.mk (blk_below (g := gb124) (o := .cells #[.int .i64 ((rd_T41 l0 x8_1).f0), .int .i64 ((rd_T41 l0 x8_1).f1), .int .u64 ((rd_T41 l0 x8_1).f2), .int .i64 ((rd_T41 l0 x8_1).f3), .int .i64 ((rd_T41 l0 x8_1).f4), .bool ((rd_T41 l0 x8_1).f5), .bool ((rd_T41 l0 x8_1).f6), .bool ((rd_T41 l0 x8_1).f7), .slice A123_8 ((rd_T41 l0 x8_1).f8).length c123_8] 41 (0, 0)) (by (with_reducible repeat (first | refine blk_drewN ?_ _ | refine blk_drew ?_ | refine blk_alloc ?_ _)); refine blk_put (cs := #[.int .i64 ((rd_T41 l0 x8_1).f0), .int .i64 ((rd_T41 l0 x8_1).f1), .int .u64 ((rd_T41 l0 x8_1).f2), .int .i64 ((rd_T41 l0 x8_1).f3), .int .i64 ((rd_T41 l0 x8_1).f4), .bool ((rd_T41 l0 x8_1).f5), .bool ((rd_T41 l0 x8_1).f6), .bool ((rd_T41 l0 x8_1).f7), .slice none 0 0]) ?_ 8 _ rfl; (with_reducible repeat (first | refine blk_drewN ?_ _ | refine blk_drew ?_ | refine blk_alloc ?_ _)); refine blk_put (cs := #[.int .i64 ((rd_T41 l0 x8_1).f0), .int .i64 ((rd_T41 l0 x8_1).f1), .int .u64 ((rd_T41 l0 x8_1).f2), .int .i64 ((rd_T41 l0 x8_1).f3), .int .i64 ((rd_T41 l0 x8_1).f4), .bool ((rd_T41 l0 x8_1).f5), .bool ((rd_T41 l0 x8_1).f6), .bool false, .slice none 0 0]) ?_ 7 _ rfl; (with_reducible repeat (first | refine blk_drewN ?_ _ | refine blk_drew ?_ | refine blk_alloc ?_ _)); refine blk_put (cs := #[.int .i64 ((rd_T41 l0 x8_1).f0), .int .i64 ((rd_T41 l0 x8_1).f1), .int .u64 ((rd_T41 l0 x8_1).f2), .int .i64 ((rd_T41 l0 x8_1).f3), .int .i64 ((rd_T41 l0 x8_1).f4), .bool ((rd_T41 l0 x8_1).f5), .bool false, .bool false, .slice none 0 0]) ?_ 6 _ rfl; (with_reducible repeat (first | refine blk_drewN ?_ _ | refine blk_drew ?_ | refine blk_alloc ?_ _)); refine blk_put (cs := #[.int .i64 ((rd_T41 l0 x8_1).f0), .int .i64 ((rd_T41 l0 x8_1).f1), .int .u64 ((rd_T41 l0 x8_1).f2), .int .i64 ((rd_T41 l0 x8_1).f3), .int .i64 ((rd_T41 l0 x8_1).f4), .bool false, .bool false, .bool false, .slice none 0 0]) ?_ 5 _ rfl; (with_reducible repeat (first | refine blk_drewN ?_ _ | refine blk_drew ?_ | refine blk_alloc ?_ _)); refine blk_put (cs := #[.int .i64 ((rd_T41 l0 x8_1).f0), .int .i64 ((rd_T41 l0 x8_1).f1), .int .u64 ((rd_T41 l0 x8_1).f2), .int .i64 ((rd_T41 l0 x8_1).f3), .int .i64 0, .bool false, .bool false, .bool false, .slice none 0 0]) ?_ 4 _ rfl; (with_reducible repeat (first | refine blk_drewN ?_ _ | refine blk_drew ?_ | refine blk_alloc ?_ _)); refine blk_put (cs := #[.int .i64 ((rd_T41 l0 x8_1).f0), .int .i64 ((rd_T41 l0 x8_1).f1), .int .u64 ((rd_T41 l0 x8_1).f2), .int .i64 0, .int .i64 0, .bool false, .bool false, .bool false, .slice none 0 0]) ?_ 3 _ rfl; (with_reducible repeat (first | refine blk_drewN ?_ _ | refine blk_drew ?_ | refine blk_alloc ?_ _)); refine blk_put (cs := #[.int .i64 ((rd_T41 l0 x8_1).f0), .int .i64 ((rd_T41 l0 x8_1).f1), .int .u64 0, .int .i64 0, .int .i64 0, .bool false, .bool false, .bool false, .slice none 0 0]) ?_ 2 _ rfl; (with_reducible repeat (first | refine blk_drewN ?_ _ | refine blk_drew ?_ | refine blk_alloc ?_ _)); refine blk_put (cs := #[.int .i64 ((rd_T41 l0 x8_1).f0), .int .i64 0, .int .u64 0, .int .i64 0, .int .i64 0, .bool false, .bool false, .bool false, .slice none 0 0]) ?_ 1 _ rfl; (with_reducible repeat (first | refine blk_drewN ?_ _ | refine blk_drew ?_ | refine blk_alloc ?_ _)); refine blk_put (cs := #[.int .i64 0, .int .i64 0, .int .u64 0, .int .i64 0, .int .i64 0, .bool false, .bool false, .bool false, .slice none 0 0]) ?_ 0 _ rfl; (with_reducible repeat (first | refine blk_drewN ?_ _ | refine blk_drew ?_ | refine blk_alloc ?_ _)); exact BK124.out) hb); have n3_ := Aside0.mk (below_step (by repeat (first | (with_reducible first | exact HB.out | apply below_alloc | apply pw_below_drewN | apply below_drew1 | refine below_set ?_ GE124.out) | exact HB.out)) hb); clear HO_3; clear BK124; clear HB; have HO_3 := n0_; have HO135 := n1_; have BK124 := n2_; have HB := n3_; clear n0_ n1_ n2_ n3_; (try clear hb); (try clear hb2); (try clear hk); (try clear hi); (try clear ho0); obtain ⟨Ao11, co11, eo11⟩ := Kd.S_slice HO135.out; subst eo11) | ((with_reducible refine gate_builtin (b := .append) (xs := #[.tmp 12, .tmp 15]) rfl ?_); at_builtin; refine Kd.R_append k41 (w0 := w) w.heap.size rfl (.tmp 12) (.tmp 15) 22 41 (.agg #[(.int .i64 0), (.int .i64 0), (.int .u64 0), (.int .i64 0), (.int .i64 0), (.bool false), (.bool false), (.bool false), (.slice none 0 0)]) 72 rfl Try.underlying22 info41 rfl (by decide) (by omega) u3 x3_1 (⟨t125, t126, t127, t128, t129, t130, t131, t132, t133⟩ : S41) [.int .i64 t125, .int .i64 t126, .int .u64 t127, .int .i64 t128, .int .i64 t129, .bool t130, .bool t131, .bool t132, .slice Ao11 t133.length co11] (fun k_ => k_ ≠ gb124) (fun k_ => ((fun k_ => k_ ≠ gb124)) k_ ∧ some k_ ≠ (u3 : Value).ownBlock) rfl rfl ?aP (fun _ hk => hk) ?aF ?aO ?aB ?aS ?aL ?_; (case aP => exact k41_mkM _ _ _ (⟨t125, t126, t127, t128, t129, t130, t131, t132, t133⟩ : S41) (Kd.R_mono (Kd.R_types (Kd.R_apart' ((Kd.S_R HO135.out)) (Kd.R_typed HO_3.out) (by decide)) BK124.out (by decide)) (fun k_ hk => ⟨hk.2, hk.1.2⟩))); (case aB => exact (by repeat (first | (with_reducible first | exact HB.out | apply below_alloc | apply pw_below_drewN | apply below_drew1 | refine below_set ?_ GE124.out) | exact HB.out))); (case aF => exact (fun k_ hk => Kd.freshB (g := gb124) (o := .cells #[.int .i64 ((rd_T41 l0 x8_1).f0), .int .i64 ((rd_T41 l0 x8_1).f1), .int .u64 ((rd_T41 l0 x8_1).f2), .int .i64 ((rd_T41 l0 x8_1).f3), .int .i64 ((rd_T41 l0 x8_1).f4), .bool ((rd_T41 l0 x8_1).f5), .bool ((rd_T41 l0 x8_1).f6), .bool ((rd_T41 l0 x8_1).f7), .slice A123_8 ((rd_T41 l0 x8_1).f8).length c123_8] 41 (0, 0)) (by (with_reducible repeat (first | refine blk_drewN ?_ _ | refine blk_drew ?_ | refine blk_alloc ?_ _)); exact BK124.out) k_ hk)); (case aO => exact (by (with_reducible repeat (first | apply Kd.R_alloc | apply Kd.R_drewN | apply Kd.R_drew)); exact Kd.R_mono HO_3.out (fun _ hk => hk.1.2))); (case aS => exact (below_size (by repeat (first | (with_reducible first | exact HB.out | apply below_alloc | apply pw_below_drewN | apply below_drew1 | refine below_set ?_ GE124.out) | exact HB.out)))); (case aL => have := LMc6.out; omega); intro v137 w10 ho hb hg hat; rw [← Ny136.out] at ho; have n0_ := Aside0.mk (blk_grown (g := gb124) (o := .cells #[.int .i64 ((rd_T41 l0 x8_1).f0), .int .i64 ((rd_T41 l0 x8_1).f1), .int .u64 ((rd_T41 l0 x8_1).f2), .int .i64 ((rd_T41 l0 x8_1).f3), .int .i64 ((rd_T41 l0 x8_1).f4), .bool ((rd_T41 l0 x8_1).f5), .bool ((rd_T41 l0 x8_1).f6), .bool ((rd_T41 l0 x8_1).f7), .slice A123_8 ((rd_T41 l0 x8_1).f8).length c123_8] 41 (0, 0)) (by (with_reducible repeat (first | refine blk_drewN ?_ _ | refine blk_drew ?_ | refine blk_alloc ?_ _)); exact BK124.out) hg (Kd.R_away HO_3.out (fun _ hk => hk.1.2))); have n1_ := Aside0.mk (hb); have n2_ := Aside0.mk (ho); clear BK124; clear HB; clear HO_3; clear HO135; have BK124 := n0_; have HB := n1_; have HO138 := n2_; clear n0_ n1_ n2_; clear ho hb hg hat))
              go_roundg k1
              case measure => have := HK1.out; omega
              case rel => exact ⟨(y136), (wrap64 (x8_1 + 1)), (by first | rfl | (simp; done) | (simp [*]; done)), H', ⟨by have := HK1.out; omega⟩, ⟨by (with_reducible repeat (first | apply Kd.R_alloc | apply Kd.R_drewN | apply Kd.R_drew)); exact Kd.R_mono HO138.out (fun _ hk => trivial)⟩, ⟨by repeat (first | (with_reducible first | exact HB.out | apply below_alloc | apply pw_below_drewN | apply below_drew1 | refine below_set ?_ GE124.out) | exact HB.out)⟩⟩
            · rw [if_neg c6] at H
              exact absurd H (by simp)
          · rw [if_neg c4] at H
            exact absurd H (by simp)
        · rw [if_neg c3] at H
          exact absurd H (by simp)
      · rw [if_neg c2] at H
        have c2b0 : decide (x8_1 < (l0.length : Int)) = false := decide_eq_false c2
        clear c2
        obtain rfl := Option.some.inj H
        go_wp2
        go_ret
        exact ⟨_, by first | rfl | (simp [errW_none, errW_some] <;> rfl) | (simp [*, errW_none, errW_some] <;> rfl), by (with_reducible repeat (first | apply Kd.R_alloc | apply Kd.R_drewN | apply Kd.R_drew)); exact HO_3.out, by repeat (first | (with_reducible first | exact HB.out | apply below_alloc | apply pw_below_drewN | apply below_drew1) | exact HB.out)⟩

/-! ### penstockref07_Size: function 21 -/
def penstockref07_Size.f (a0_0 : Int) (a0_1 : Int) (a0_2 : Int) (a0_3 : Int) (a0_4 : Int) (a0_5 : Bool) (a0_6 : Bool) (a0_7 : Bool) (l0_8 : List (List Int)) : Option (Int) := if a0_6 = true then (some 1) else (some (l0_8.length : Int))
set_option maxHeartbeats 8000000 in
set_option maxRecDepth 100000 in
theorem penstockref07_Size.calls (a0_0 : Int) (a0_1 : Int) (a0_2 : Int) (a0_3 : Int) (a0_4 : Int) (a0_5 : Bool) (a0_6 : Bool) (a0_7 : Bool) (A0_8 : Option Addr) (c0_8 : Nat) (l0_8 : List (List Int)) (r : Int) (w : World) (hr0_8 : Kd.C (Kd.slice 5 (Kd.int .u8)) w A0_8 l0_8.length l0_8) (hc0_8 : l0_8.length ≤ c0_8) (h : penstockref07_Size.f a0_0 a0_1 a0_2 a0_3 a0_4 a0_5 a0_6 a0_7 l0_8 = some r) :
    Calls Try.prog 21 #[.agg #[.int .i64 a0_0, .int .i64 a0_1, .int .u64 a0_2, .int .i64 a0_3, .int .i64 a0_4, .bool a0_5, .bool a0_6, .bool a0_7, .slice A0_8 l0_8.length c0_8]] w fun e w' => e = .returned (.int .i64 r) ∧ Below w.heap.size w w' := by
  have hu41 := Try.underlying41
  have HR0_8 := Aside0.mk hr0_8
  have HC0_8 := Aside0.mk hc0_8
  clear hr0_8 hc0_8
  have HB := Aside0.mk (Below.refl w.heap.size w)
  have H : (if a0_6 = true then (some 1) else (some (l0_8.length : Int))) = some r := h
  clear h
  by_cases c2 : a0_6 = true
  · subst c2
    have H1 : (some 1) = some r := by rw [if_pos rfl] at H; exact H
    clear H
    have H := H1
    clear H1
    obtain rfl := Option.some.inj H
    go_enter Try.func21, Try.ntmps21
    go_wp2_with (first | ((with_reducible refine gate_dst (N := 1) rfl ?_); refine box_event ?hg (N := 1) ?hd (cs := #[.int .i64 a0_0, .int .i64 a0_1, .int .u64 a0_2, .int .i64 a0_3, .int .i64 a0_4, .bool a0_5, .bool true, .bool a0_7, .slice A0_8 l0_8.length c0_8]) (t := 41) ?hr ?_; (case hd => rfl); (case hg => rfl); (case hr => first | (go_simp; done) | (go_simp; rfl)); intro gb139 hg w3 hbox hb; have n0_ := Aside0.mk (below_step (by repeat (first | (with_reducible first | exact HB.out | apply below_alloc | apply pw_below_drewN | apply below_drew1) | exact HB.out)) hb); have n1_ := Aside0.mk (hbox); have n2_ := Aside0.mk ((by rw [hg]; exact (below_size (by repeat (first | (with_reducible first | exact HB.out | apply below_alloc | apply pw_below_drewN | apply below_drew1) | exact HB.out))) : w.heap.size ≤ gb139)); have n3_ := Aside0.mk ((by rw [hg]; exact (below_size (by repeat (first | (with_reducible first | exact HB.out | apply below_alloc | apply pw_below_drewN | apply below_drew1) | exact HB.out))) : w.heap.size ≤ gb139)); clear HB; have HB := n0_; have BK139 := n1_; have GW139 := n2_; have GE139 := n3_; clear n0_ n1_ n2_ n3_; clear hb hbox hg; have hcz4_0 : w3.cell? ⟨gb139, 0, none⟩ = some (.int .i64 a0_0) := (blk_cell BK139.out 0).trans rfl; have hcz4_1 : w3.cell? ⟨gb139, 1, none⟩ = some (.int .i64 a0_1) := (blk_cell BK139.out 1).trans rfl; have hcz4_2 : w3.cell? ⟨gb139, 2, none⟩ = some (.int .u64 a0_2) := (blk_cell BK139.out 2).trans rfl; have hcz4_3 : w3.cell? ⟨gb139, 3, none⟩ = some (.int .i64 a0_3) := (blk_cell BK139.out 3).trans rfl; have hcz4_4 : w3.cell? ⟨gb139, 4, none⟩ = some (.int .i64 a0_4) := (blk_cell BK139.out 4).trans rfl; have hcz4_5 : w3.cell? ⟨gb139, 5, none⟩ = some (.bool a0_5) := (blk_cell BK139.out 5).trans rfl; have hcz4_6 : w3.cell? ⟨gb139, 6, none⟩ = some (.bool true) := (blk_cell BK139.out 6).trans rfl; have hcz4_7 : w3.cell? ⟨gb139, 7, none⟩ = some (.bool a0_7) := (blk_cell BK139.out 7).trans rfl; have hcz4_8 : w3.cell? ⟨gb139, 8, none⟩ = some (.slice A0_8 l0_8.length c0_8) := (blk_cell BK139.out 8).trans rfl; have hfz4_0 := blk_frozen BK139.out 0; have hfz4_1 := blk_frozen BK139.out 1; have hfz4_2 := blk_frozen BK139.out 2; have hfz4_3 := blk_frozen BK139.out 3; have hfz4_4 := blk_frozen BK139.out 4; have hfz4_5 := blk_frozen BK139.out 5; have hfz4_6 := blk_frozen BK139.out 6; have hfz4_7 := blk_frozen BK139.out 7; have hfz4_8 := blk_frozen BK139.out 8))
    go_ret
    exact ⟨by first | rfl | (simp [errW_none, errW_some] <;> rfl) | (simp [*, errW_none, errW_some] <;> rfl), by repeat (first | (with_reducible first | exact HB.out | apply below_alloc | apply pw_below_drewN | apply below_drew1 | refine below_set ?_ GE139.out) | exact HB.out)⟩
  · replace c2 := Bool.eq_false_iff.mpr c2
    subst c2
    have H1 : (some (l0_8.length : Int)) = some r := by rw [if_neg (show ¬ (false = true) by decide)] at H; exact H
    clear H
    have H := H1
    clear H1
    obtain rfl := Option.some.inj H
    go_enter Try.func21, Try.ntmps21
    go_wp2_with (first | ((with_reducible refine gate_dst (N := 1) rfl ?_); refine box_event ?hg (N := 1) ?hd (cs := #[.int .i64 a0_0, .int .i64 a0_1, .int .u64 a0_2, .int .i64 a0_3, .int .i64 a0_4, .bool a0_5, .bool false, .bool a0_7, .slice A0_8 l0_8.length c0_8]) (t := 41) ?hr ?_; (case hd => rfl); (case hg => rfl); (case hr => first | (go_simp; done) | (go_simp; rfl)); intro gb139 hg w5 hbox hb; have n0_ := Aside0.mk (below_step (by repeat (first | (with_reducible first | exact HB.out | apply below_alloc | apply pw_below_drewN | apply below_drew1) | exact HB.out)) hb); have n1_ := Aside0.mk (hbox); have n2_ := Aside0.mk ((by rw [hg]; exact (below_size (by repeat (first | (with_reducible first | exact HB.out | apply below_alloc | apply pw_below_drewN | apply below_drew1) | exact HB.out))) : w.heap.size ≤ gb139)); have n3_ := Aside0.mk ((by rw [hg]; exact (below_size (by repeat (first | (with_reducible first | exact HB.out | apply below_alloc | apply pw_below_drewN | apply below_drew1) | exact HB.out))) : w.heap.size ≤ gb139)); clear HB; have HB := n0_; have BK139 := n1_; have GW139 := n2_; have GE139 := n3_; clear n0_ n1_ n2_ n3_; clear hb hbox hg; have hcz6_0 : w5.cell? ⟨gb139, 0, none⟩ = some (.int .i64 a0_0) := (blk_cell BK139.out 0).trans rfl; have hcz6_1 : w5.cell? ⟨gb139, 1, none⟩ = some (.int .i64 a0_1) := (blk_cell BK139.out 1).trans rfl; have hcz6_2 : w5.cell? ⟨gb139, 2, none⟩ = some (.int .u64 a0_2) := (blk_cell BK139.out 2).trans rfl; have hcz6_3 : w5.cell? ⟨gb139, 3, none⟩ = some (.int .i64 a0_3) := (blk_cell BK139.out 3).trans rfl; have hcz6_4 : w5.cell? ⟨gb139, 4, none⟩ = some (.int .i64 a0_4) := (blk_cell BK139.out 4).trans rfl; have hcz6_5 : w5.cell? ⟨gb139, 5, none⟩ = some (.bool a0_5) := (blk_cell BK139.out 5).trans rfl; have hcz6_6 : w5.cell? ⟨gb139, 6, none⟩ = some (.bool false) := (blk_cell BK139.out 6).trans rfl; have hcz6_7 : w5.cell? ⟨gb139, 7, none⟩ = some (.bool a0_7) := (blk_cell BK139.out 7).trans rfl; have hcz6_8 : w5.cell? ⟨gb139, 8, none⟩ = some (.slice A0_8 l0_8.length c0_8) := (blk_cell BK139.out 8).trans rfl; have hfz6_0 := blk_frozen BK139.out 0; have hfz6_1 := blk_frozen BK139.out 1; have hfz6_2 := blk_frozen BK139.out 2; have hfz6_3 := blk_frozen BK139.out 3; have hfz6_4 := blk_frozen BK139.out 4; have hfz6_5 := blk_frozen BK139.out 5; have hfz6_6 := blk_frozen BK139.out 6; have hfz6_7 := blk_frozen BK139.out 7; have hfz6_8 := blk_frozen BK139.out 8))
    go_ret
    exact ⟨by first | rfl | (simp [errW_none, errW_some] <;> rfl) | (simp [*, errW_none, errW_some] <;> rfl), by repeat (first | (with_reducible first | exact HB.out | apply below_alloc | apply pw_below_drewN | apply below_drew1 | refine below_set ?_ GE139.out) | exact HB.out)⟩

end Go.Proofs.Ytnbdlkjphdfkpaa.H

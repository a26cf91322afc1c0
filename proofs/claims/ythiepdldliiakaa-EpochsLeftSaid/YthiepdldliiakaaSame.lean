/- 'same': a cache and the reference's that hold the same are told to be the same. No conditions. -/
import Derived.Test.YthiepdldliiakaaRef3
import Derived.Test.YthiepdldliiakaaRound
import Derived.Sort.QuietTacIn
import Derived.Sort.BigQuietIn
import Derived.StillTailTactics
import Derived.Outline
namespace Go.Proofs.Ythiepdldliiakaa
open Go Go.RowKit Go.Shelf

attribute [local go_sem] Oper.semAt_some

theorem prefix_snoc {xs pre : List (Int × Int)} (h : pre = xs.take pre.length) (x : Int × Int) (hl : pre.length < xs.length) : pre ++ [x] <+: xs → x = xs.getD pre.length (0, 0) := by
  rintro ⟨t, rfl⟩
  simp [List.getD]

theorem keeps_drewN (W : World) (n : Nat) {b : Nat} {u : Value} : KeepsOthers W ((W.drewN n).setCell ⟨b, 0, none⟩ u) :=
  KeepsOthers.trans (show KeepsOthers W (W.drewN n) from ⟨Nat.le_refl _, fun _ _ h _ => h⟩) (KeepsOthers.setCell _ _ _)

theorem box_drewN {W : World} {B t : Nat} {v : Value} (h : Boxed W B t v) (n : Nat) : Boxed (W.drewN n) B t v := h

theorem IsRef.below {w w' : World} {g : Nat} {va vb : Value} {xs : List (Int × Int)} (h : IsRef w g va vb xs) (hb : Below w.heap.size w w') : IsRef w' g va vb xs :=
  h.fr (Fr.of_below (S := fun _ => False) hb) (fun x => x) (fun _ _ x => x)

set_option maxRecDepth 100000 in
set_option maxHeartbeats 4000000 in
theorem same_walk (g gr : Nat) (v va vb : Value) (xs : List (Int × Int)) (w : World) (hc : IsCache w g v xs) (hr : IsRef w gr va vb xs) :
    CallsIn Fence.wide 5 Try.prog 17 #[.pointer (some ⟨g, 0, none⟩), .pointer (some ⟨gr, 0, none⟩)] w fun e w' => e = .returned (.bool true) ∧ Below w.heap.size w w' := by
  refine callsIn_of_wp_marks Try.func17 rfl trivial ?_ rfl
  simp only [Try.ntmps17, List.size_toArray, List.length_cons, List.length_nil, Nat.reduceAdd, Nat.reduceSub, Array.replicate_succ, Array.replicate_zero, List.push_toArray, List.append_toArray, List.nil_append, List.cons_append]
  gi_wp2_with (refine ⟨trivial, ?_⟩; gi_at_call 18; refine (all_in _ _ trivial rfl _ _).mono ?_; rintro e w' ⟨rfl, rfl⟩)
  have b3 := Boxed.new w 25 (.pointer (some ⟨gr, 0, none⟩))
  have b4 := Boxed.new (w.alloc (.cells #[.pointer (some ⟨gr, 0, none⟩)] 25)) 4 (.bool false)
  have b5 := Boxed.new ((w.alloc (.cells #[.pointer (some ⟨gr, 0, none⟩)] 25)).alloc (.cells #[.bool false] 4)) 3 (.int .i64 0)
  have b6 := Boxed.new (((w.alloc (.cells #[.pointer (some ⟨gr, 0, none⟩)] 25)).alloc (.cells #[.bool false] 4)).alloc (.cells #[.int .i64 0] 3)) 23 (.pointer (some ⟨g, 0, none⟩))
  simp only [World.size_alloc] at b4 b5 b6
  have hheld : Held w.heap.size w (some ⟨g, 0, none⟩) xs := .inr ⟨g, v, rfl, hc, lt_of_block hc.1, fun k hk => (hc.2.lt k hk).2⟩
  have hgl := lt_of_block hr.blk
  refine rangeFunc_asg rfl (by decide) (gf := 21) (lb := #[.pointer (some ⟨w.heap.size + 1 + 1 + 1, 0, none⟩)]) rfl trivial (enters_of Try.func21 (by kernel_rfl) rfl)
    (all_stops Fence.wide _ trivial rfl (by decide) (w.heap.size + 1 + 1 + 1) w.heap.size _ xs _ (by simp) (by simp; omega) b6.cell (hheld.below (by repeat (first | exact Below.refl _ _ | (refine Below.alloc ?_ (by simp <;> omega) _))))) (by simp; omega) (Below.refl _ _) (fun _ => rfl)
    (fun pre W => (pre = xs.take pre.length ∧ Boxed W w.heap.size 25 (.pointer (some ⟨gr, 0, none⟩)) ∧ Boxed W (w.heap.size + 1) 4 (.bool false) ∧ Boxed W (w.heap.size + 1 + 1) 3 (.int .i64 pre.length)) ∧ Below w.heap.size w W) (fun _ pre _ => ¬ pre <+: xs)
    ?hI (fun _ _ _ _ _ h _ _ => h) ?h0 (asg2 6 16 7 17) ?hasg ?body ?done ?stop
  case hI => exact OwnFrom.and (Own.from (fun pre X Y row h hg hrow => ⟨h.1, box_kept h.2.1 hg hrow, box_kept h.2.2.1 hg hrow, box_kept h.2.2.2 hg hrow⟩) _) (ownFrom_below (Nat.le_refl _) (by simp; omega))
  case h0 => exact ⟨⟨rfl, ((b3.alloc _).alloc _).alloc _, (b4.alloc _).alloc _, b5.alloc _⟩, by repeat (first | exact Below.refl _ _ | (refine Below.alloc ?_ (by simp <;> omega) _))⟩
  case hasg =>
    intro l a' W K hK
    gi_wp2
    exact hK
  case stop =>
    rintro D c pre W _ hs h _
    exact absurd hs h
  case body =>
    rintro l pre x W ⟨⟨hpre, h3, h4, h5⟩, hB⟩ hlt
    have hc3 := h3.cell
    have hc4 := h4.cell
    have hc5 := h5.cell
    have hf4 := h4.frozen
    have hf5 := h5.frozen
    have f0 := (hB.cell (p := ⟨gr, 0, none⟩) hgl).trans (cell_of_two0 hr.blk)
    have f1 := (hB.cell (p := ⟨gr, 1, none⟩) hgl).trans (cell_of_two1 hr.blk)
    obtain ⟨ra, ca, rfl, hca, hcma, hral, x0⟩ := row_at hr.ra hlt (fsts_get xs _ hlt)
    obtain ⟨rb, cb, rfl, hcb, hcmb, hrbl, x1⟩ := row_at hr.rb hlt (snds_get xs _ hlt)
    have x0 := (hB.cell (p := ⟨ra, _, none⟩) hral).trans x0
    have x1 := (hB.cell (p := ⟨rb, _, none⟩) hrbl).trans x1
    have hsn := prefix_snoc hpre x hlt
    have hnext : x = xs.getD pre.length (0, 0) → pre ++ [x] = xs.take (pre ++ [x]).length := by
      intro e
      rw [List.length_append, List.length_singleton, List.take_succ_eq_append_getElem hlt, ← hpre]
      simp [e, List.getD, hlt]
    obtain ⟨xa, xb⟩ := x
    generalize xs.getD pre.length (0, 0) = y at x0 x1 hsn hnext
    obtain ⟨ya, yb⟩ := y
    have HS := Lib.hid hsn
    have HNx := Lib.hid hnext
    have HP := Lib.hid hpre
    clear hsn hnext hpre
    generalize hk : pre.length = k at *
    have HK := Lib.hid hk
    clear hk
    have hdk : decide (xs.length ≤ k) = false := by simp; omega
    simp only [roundAct, asg2, encs]
    by_cases e1 : xa = ya
    · subst e1
      by_cases e2 : xb = yb
      · subst e2
        gi_wp2
        refine quiet_round rfl (by kernel_rfl) (by kernel_rfl) (by kernel_rfl) ?_
        repeat (gi_big_quiet_step (fail))
        refine wpQuietIn_nil ?_
        rintro _ ⟨nq, rfl⟩
        gi_wp2
        exact ⟨(keeps_drewN W nq).from _, (below_drewN (Below.refl _ W) nq).setCell (p := ⟨w.heap.size + 1 + 1, 0, none⟩) (by simp; omega) _, ⟨HNx.out (by first | rfl | trivial), (box_drewN h3 nq).other (by omega) _, (box_drewN h4 nq).other (by omega) _, by
          have := (box_drewN h5 nq).set (.int .i64 (k + 1))
          rw [List.length_append, HK.out]
          exact this⟩, (below_drewN hB nq).setCell (p := ⟨w.heap.size + 1 + 1, 0, none⟩) (by simp; omega) _⟩
      · have e2' : (xb != yb) = true := by simpa using e2
        gi_wp2
        refine quiet_round rfl (by kernel_rfl) (by kernel_rfl) (by kernel_rfl) ?_
        repeat (gi_big_quiet_step (fail))
        refine wpQuietIn_nil ?_
        rintro _ ⟨nq, rfl⟩
        gi_wp2
        exact ⟨(keeps_drewN W nq).from _, fun hp => e2 (congrArg Prod.snd (HS.out hp))⟩
    · have e1' : (xa != ya) = true := by simpa using e1
      gi_wp2
      refine quiet_round rfl (by kernel_rfl) (by kernel_rfl) (by kernel_rfl) ?_
      repeat (gi_big_quiet_step (fail))
      refine wpQuietIn_nil ?_
      rintro _ ⟨nq, rfl⟩
      gi_wp2
      exact ⟨(keeps_drewN W nq).from _, fun hp => e1 (congrArg Prod.fst (HS.out hp))⟩
  case done =>
    rintro D ys W hD rfl ⟨⟨-, h3, h4, h5⟩, hB⟩ hK
    have hc3 := h3.cell
    have hc4 := h4.cell
    have hc5 := h5.cell
    have hf4 := h4.frozen
    have hcW : IsCache W g v ys := hc.below hB (lt_of_block hc.1) (fun k hk => (hc.2.lt k hk).2)
    have hrW : IsRef W gr va vb ys := hr.below hB
    gi_wp2_with (first | (refine ⟨trivial, ?_⟩; gi_at_call 19; refine (callsIn_wide.2 (last_calls g v ys _ hcW)).mono ?_; rintro e w2 ⟨rfl, hf2⟩; have hrW2 := hrW.fr hf2 (fun x => x) (fun _ _ x => x); have hB2 := hf2.box; have g3 := (hB2.cell (p := ⟨w.heap.size, 0, none⟩) h3.lt).trans hc3) | (refine ⟨trivial, ?_⟩; gi_at_call 20; refine (callsIn_wide.2 (rlast_calls gr va vb ys _ hrW2)).mono ?_; rintro e w3 ⟨rfl, hf3⟩))
    have hB3 := hB2.trans (hf3.box.mono hB2.size)
    have k3 : Boxed w3 w.heap.size 25 (.pointer (some ⟨gr, 0, none⟩)) := (hB3.block _ h3.lt).trans h3
    have k4 : Boxed w3 (w.heap.size + 1) 4 (.bool false) := (hB3.block _ h4.lt).trans h4
    have k5 : Boxed w3 (w.heap.size + 1 + 1) 3 (.int .i64 ys.length) := (hB3.block _ h5.lt).trans h5
    have kK : w3.heap[D]? = some (.deferred (some [])) := (hB3.block _ (Array.getElem?_eq_some_iff.1 hK).1).trans hK
    have hrW3 := hrW2.fr hf3 (fun x => x) (fun _ _ x => x)
    have q0 := cell_of_two0 hrW3.blk
    obtain ⟨Aa, ca, rfl, hca, hcma⟩ := row_form hr.ra
    have c3 := k3.cell
    have c4 := k4.cell
    have c5 := k5.cell
    have z4 := k4.frozen
    clear hc3 hc4 hc5 hf4 g3
    refine wpIn_wide.2 ?_
    go_still_tail 22, (by kernel_rfl)
    change wpList _ _ _ _ _ w3.drew
    go_wp2
    gi_wp2
    have kK5 : ((w3.setCell ⟨w.heap.size + 1, 0, none⟩ (.bool true)).drew).heap[D]? = some (.deferred (some [])) := (KeepsOthers.setCell w3 ⟨w.heap.size + 1, 0, none⟩ (.bool true)).same D _ kK rfl
    have k4d : Boxed ((w3.setCell ⟨w.heap.size + 1, 0, none⟩ (.bool true)).drew) (w.heap.size + 1) 4 (.bool true) := k4.set (.bool true)
    have hc5 : (((w3.setCell ⟨w.heap.size + 1, 0, none⟩ (.bool true)).drew).putObj D (.deferred none)).cell? ⟨w.heap.size + 1, 0, none⟩ = some (.bool true) := cell_kept k4d.cell (grownBy_putObj' _ D (.deferred none)) (fun r e => by cases e; exact ⟨_, kK5, rfl⟩)
    refine leave_one kK5 (v := .bool true) ?_ ⟨rfl, put_below (((hB.trans (hB3.mono hB.size)).setCell (p := ⟨w.heap.size + 1, 0, none⟩) (by simp) _).drew) (by simp at hD; omega) kK5⟩
    simp [results, Try.f17, go_sem, hc5]

theorem same_calls (g gr : Nat) (v va vb : Value) (xs : List (Int × Int)) (w : World) (hc : IsCache w g v xs) (hr : IsRef w gr va vb xs) :
    Calls Try.prog 17 #[.pointer (some ⟨g, 0, none⟩), .pointer (some ⟨gr, 0, none⟩)] w fun e w' => e = .returned (.bool true) ∧ Fr (fun _ => False) w w' :=
  (callsIn_wide.1 (same_walk g gr v va vb xs w hc hr)).mono fun _ _ ⟨he, hb⟩ => ⟨he, Fr.of_below hb⟩
end Go.Proofs.Ythiepdldliiakaa

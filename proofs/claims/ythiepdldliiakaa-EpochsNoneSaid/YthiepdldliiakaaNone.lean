/- EpochsNone: for every input it returns true, and the input reads as it did. No conditions. -/
import Derived.Test.YthiepdldliiakaaRange
import Derived.Test.YthiepdldliiakaaEnd
import Derived.Outline
namespace Go.Proofs.Ythiepdldliiakaa
open Go Go.RowKit Go.Shelf

attribute [local go_sem] Oper.semAt_some

set_option maxRecDepth 100000 in
set_option maxHeartbeats 2000000 in
theorem none_walk (a b : Int) (w0 : World) : CallsIn Fence.wide 5 Try.prog 8 #[.int .i64 a, .int .i64 b] w0 fun e w' => e = .returned (.bool true) ∧ Below w0.heap.size w0 w' := by
  refine callsIn_of_wp_marks Try.func8 rfl trivial ?_ rfl
  simp only [Try.ntmps8, List.size_toArray, List.length_cons, List.length_nil, Nat.reduceAdd, Nat.reduceSub, Array.replicate_succ, Array.replicate_zero, List.push_toArray, List.append_toArray, List.nil_append, List.cons_append]
  gi_wp2_with (first | (refine ⟨trivial, ?_⟩; gi_at_call 10; refine (callsIn_wide.2 (awake_calls _)).mono ?_; rintro e w ⟨rfl, hf⟩) | (refine ⟨trivial, ?_⟩; gi_at_call 13; refine (callsIn_wide.2 (cut_nil _ _)).mono ?_; rintro e w' ⟨rfl, rfl⟩) | (refine ⟨trivial, ?_⟩; gi_at_call 19; refine (callsIn_wide.2 (last_nil _)).mono ?_; rintro e w' ⟨rfl, rfl⟩)| (refine ⟨trivial, ?_⟩; gi_at_call 15; refine (callsIn_wide.2 (end_nil _ _ _)).mono ?_; rintro e w' ⟨rfl, rfl⟩) | (refine ⟨trivial, ?_⟩; gi_at_call 18; refine (all_in _ _ trivial rfl _ _).mono ?_; rintro e w' ⟨rfl, rfl⟩))
  obtain ⟨w1, rfl⟩ : ∃ w1 : World, w1 = w' := ⟨_, rfl⟩
  have hb := hf.below (fun _ _ x => x)
  have b0 := Boxed.new w1 3 (.int .i64 0)
  have b1 := Boxed.new (w1.alloc (.cells #[.int .i64 0] 3)) 23 (.pointer none)
  rw [World.size_alloc] at b1
  have b01 := b0.alloc (.cells #[.pointer none] 23)
  refine rangeFunc_plain rfl (by decide) (gf := 21) (lb := #[.pointer (some ⟨w1.heap.size + 1, 0, none⟩)]) rfl trivial (enters_of Try.func21 (by kernel_rfl) rfl)
    (all_stops Fence.wide _ trivial rfl (by decide) (w1.heap.size + 1) w1.heap.size none [] _ (by simp) (by simp; omega) b1.cell (.inl ⟨rfl, rfl⟩)) (by simp; omega) (Below.refl _ _) (fun _ => rfl)
    (fun _ W => Boxed W w1.heap.size 3 (.int .i64 0) ∧ Below w1.heap.size w1 W) (fun _ _ _ => False)
    (OwnFrom.and (Own.from (boxed_own _ _ _) _) (ownFrom_below (Nat.le_refl _) (by simp; omega))) (fun _ _ _ _ _ h _ _ => h)
    ⟨b01, (((Below.refl _ w1).alloc (Nat.le_refl _) _).alloc (by simp) _)⟩ ?body ?done ?stop
  case body =>
    intro l pre x W _ hlt
    simp at hlt
  case done =>
    rintro D ys W hD rfl ⟨hbx, hB⟩ hK
    have hc := hbx.cell
    gi_wp2_with (refine ⟨trivial, ?_⟩; gi_at_call 11; refine (callsIn_wide.2 (assign_nil _ _ _)).mono ?_; rintro e w' ⟨rfl, rfl⟩)
    refine leave_one hK (results_tmp rfl _ _ _) ⟨rfl, ?_⟩
    exact hb.trans ((hB.trans (belowK_b (w := w1) (Nat.le_refl _) _ D _ _ (by simp at hD; omega) hK rfl rfl)).mono hb.size)
  case stop =>
    rintro D c pre W _ _ h _
    exact h.elim

theorem none_calls (a b : Int) (w0 : World) : Calls Try.prog 8 #[.int .i64 a, .int .i64 b] w0 fun e w' => e = .returned (.bool true) ∧ Below w0.heap.size w0 w' := callsIn_wide.1 (none_walk a b w0)

open Go.ChangeShapes Go.WideShapes Go.ChangeAt

theorem own : ownKnob Try.prog.godebug = none := by kernel_rfl
theorem laidOut : laidOutB Try.prog = true := by kernel_rfl

set_option maxRecDepth 100000 in
theorem none_lifted (os : Os) (started : os.Started) (H : Type) (enc : TypeId × Value → H) :
    ReturnsInHanded {} Try.checked os 8 .any (Rows.epochsNoneSpec.pre6 enc Try.prog Try.f8 Rows.epochsNoneRow.domain false) (Rows.epochsNoneSpec.post enc Try.prog Try.f8 false true false false) := by
  refine returnsInHanded_of_change (C := Try.checked) own started (by kernel_rfl) Try.func8
    (ChangeSpec.witness6 (enc := enc) (C := Try.checked) false ⟨#[], #[.int .i64 0, .int .i64 0], []⟩ 8 (by kernel_rfl) (by kernel_rfl) (by kernel_rfl) (by kernel_rfl)) ?_
  intro W base args ds gs before hval0 hW hcnd _
  have hval : ∀ (j : Nat) t v, Try.f8.params[j]? = some t → args[j]? = some v → Value.okWide Try.prog W .any base t v := hval0
  have hW' := hW
  obtain ⟨p, q, hA0, hV, rfl, hfz, hnd⟩ := hW
  have hA : DataW.TrodAll enc Try.prog W 0 (fun _ => true) true Try.f8.params.toList args.toList ds p := hA0
  rw [Try.params8] at hA hval
  obtain ⟨v0, vs0, d0, ds0, p0, q0, hargs, rfl, rfl, h0, r0⟩ := trodAll_cons hA
  obtain ⟨v1, vs1, d1, ds1, p1, q1, rfl, rfl, rfl, h1, r1⟩ := trodAll_cons r0
  obtain ⟨rfl, rfl, rfl⟩ := trodAll_nil r1
  obtain rfl : args = #[v0, v1] := by cases args; simp_all
  obtain ⟨a0, rfl, -, -, w0⟩ := open_int Try.underlying3 (hval 0 3 v0 rfl rfl) h0
  obtain ⟨a1, rfl, -, -, w1⟩ := open_int Try.underlying3 (hval 1 3 v1 rfl rfl) h1
  exact (none_calls a0 a1 W).mono fun e W' ⟨he, hb⟩ => ⟨_, he, law_post laidOut (by kernel_rfl) rfl (by rintro rfl; rfl) (by kernel_rfl) Try.underlying4 hW' hb⟩

theorem epochsNone_holds : Rows.EpochsNoneSaid :=
  OpenClaim.holds_of_wide 8 Try.f8 rfl rfl rfl rfl rfl rfl rfl ⟨rfl, rfl, rfl, rfl, rfl⟩ rfl rfl rfl rfl rfl (by kernel_rfl) Try.func8 (by kernel_rfl)
    (of_decide_eq_true (by kernel_rfl)) (by unfold Func.isWrapper; first | (rw [if_pos (by decide +kernel)]; kernel_rfl) | (rw [if_neg (by decide +kernel)]; exact ⟨rfl, rfl⟩))
    (fun os started H enc _ => none_lifted os started H enc)
#print axioms epochsNone_holds

end Go.Proofs.Ythiepdldliiakaa

/- Peek, Drop, Cut, Heal: what they compute. No conditions. -/
import Derived.Test.YtalaghkpbdaonaaNetM
import Derived.Test.YtalaghkpbdaonaaNetG
import Derived.MapKept
namespace Go.Proofs.Ytalaghkpbdaonaa
open Go Go.RowKit H Go.Proofs.YtalaghkpbdaonaaW.PrintWords

theorem clear_own {w : World} {M m : Nat} {D : DataW Unit} (h : w.ownsMap Try.prog 37 (plainElem Try.prog 4) M m D) : ∃ w', (∀ ty, (Builtin.clear_ #[52] ty #[.map (some M)]).run Try.prog w = .ok (.tuple #[]) w') ∧ w'.ownsMap Try.prog 37 (plainElem Try.prog 4) M 0 (.map [] : DataW Unit) ∧ w.grownBy w' (some M) := by
  obtain ⟨es, clock, hb, F, _, rfl⟩ := h
  refine ⟨{ w with heap := w.heap.setIfInBounds M (.map #[] clock) }, fun ty => ?_, ⟨#[], clock, (MapKept.heap_set hb).1, ⟨by simp, MapKept.stamped_empty _, by simp⟩, Nat.le_refl _, rfl⟩, ⟨rfl, rfl, rfl, by simp, fun i _ hi => (MapKept.heap_set hb).2 i (fun e => hi (by rw [e]))⟩⟩
  simp [Builtin.clear_, run_underlying Try.underlying52, MapKept.run_getObj_map hb, MapKept.run_setObj_map _ hb, Result.andThen]

set_option maxRecDepth 100000 in
set_option maxHeartbeats 4000000 in
theorem drop_none {w : World} {base N M : Nat} {v : Value} {D : DataW Unit} {m : Nat} (h : NetIn w base N M v [] D m) (i : Int) :
    Calls Try.prog 19 #[.pointer (some ⟨N, 0, none⟩), .int .i64 i] w fun e w' => e = .returned (.bool false) ∧ w' = w := by
  have H := Lib.hid h
  clear h
  go_enter Try.func19, Try.ntmps19
  go_wp2_with (first
    | (go_at_call 27; refine (at_calls H.out (by decide) i).mono ?_; rintro e w1 ⟨rfl, rfl⟩; rw [show atF ([] : List S28).length i = -1 from rfl])
    | go_in)
  go_ret
  exact ⟨rfl, rfl⟩

set_option maxRecDepth 100000 in
set_option maxHeartbeats 4000000 in
theorem drop_calls {w : World} {base N M : Nat} {v : Value} {ps : List S28} {D : DataW Unit} {m : Nat} (h : NetIn w base N M v ps D m) (i : Int) (k : Nat) (hk : k < ps.length) (hi : atF ps.length i = k) (hmax : ps.length ≤ 256) :
    Calls Try.prog 19 #[.pointer (some ⟨N, 0, none⟩), .int .i64 i] w fun e w' => e = .returned (.bool true) ∧ ∃ v', Stays w v v' ∧ NetIn w' base N M v' (cutOut ps k) D m ∧ TakeMoved w w' base N := by
  have H := Lib.hid h
  have HI := Lib.hid (And.intro hi (And.intro hmax hk))
  have hneg : ¬ (k : Int) < 0 := by omega
  clear h hi hmax hk
  go_enter Try.func19, Try.ntmps19
  go_wp2_with (first
    | (go_at_call 27; refine (at_calls H.out HI.out.2.1 i).mono ?_; rintro e w1 ⟨rfl, rfl⟩; rw [HI.out.1])
    | (go_at_call 28; refine (take_calls k HI.out.2.2 HI.out.2.1 _ H.out).mono ?_; unfold TakePost; rintro e w2 ⟨A, c, rfl, hR, v2, hS, hN, hM⟩; have HE := Lib.hid (And.intro hS (And.intro hN hM)); clear hR hS hN hM)
    | go_in)
  go_ret
  exact ⟨rfl, _, HE.out⟩
end Go.Proofs.Ytalaghkpbdaonaa

/- model.Same: what it computes. No conditions. -/
import Derived.Test.YtnbdlkjphdfkpaaHMS
namespace Go.Proofs.Ytnbdlkjphdfkpaa
open Go Go.RowKit H Go.Proofs.YtnbdlkjphdfkpaaW.PrintWords Go.Proofs.YtnbdlkjphdfkpaaW.PrintMore

set_option maxRecDepth 100000 in
set_option maxHeartbeats 8000000 in
theorem msame_walk (a0 a1 a2 a3 a4 : Int) (a5 a6 a7 : Bool) (a8 : List (List Int)) (b0 b1 b2 b3 b4 : Int) (b5 b6 b7 : Bool) (b8 : List (List Int)) (A1 A2 : Option Addr) (c1 c2 : Nat) (w0 : World)
    (hr1 : Kd.C (Kd.slice 5 (Kd.int .u8)) w0 A1 a8.length a8) (hc1 : a8.length ≤ c1) (hr2 : Kd.C (Kd.slice 5 (Kd.int .u8)) w0 A2 b8.length b8) (hc2 : b8.length ≤ c2)
    (hn : a8.length ≤ 5864062014805) (hin : ∀ v ∈ a8, v.length < 140737488355328) :
    Calls Try.prog 17 #[.agg #[.int .i64 a0, .int .i64 a1, .int .u64 a2, .int .i64 a3, .int .i64 a4, .bool a5, .bool a6, .bool a7, .slice A1 a8.length c1], .agg #[.int .i64 b0, .int .i64 b1, .int .u64 b2, .int .i64 b3, .int .i64 b4, .bool b5, .bool b6, .bool b7, .slice A2 b8.length c2]] w0
      fun e w' => e = .returned (.bool (sameB ⟨a0, a1, a2, a3, a4, a5, a6, a7, a8⟩ ⟨b0, b1, b2, b3, b4, b5, b6, b7, b8⟩)) ∧ Below w0.heap.size w0 w' := by
  have HC1 := Lib.hid hr1
  have HC2 := Lib.hid hr2
  have HI := Lib.hid hin
  clear hr1 hr2 hin
  have hA : BatchIn ((w0.alloc (.cells #[.int .i64 a0, .int .i64 a1, .int .u64 a2, .int .i64 a3, .int .i64 a4, .bool a5, .bool a6, .bool a7, .slice A1 a8.length c1] 41)).alloc (.cells #[.int .i64 b0, .int .i64 b1, .int .u64 b2, .int .i64 b3, .int .i64 b4, .bool b5, .bool b6, .bool b7, .slice A2 b8.length c2] 41)) w0.heap.size ⟨a0, a1, a2, a3, a4, a5, a6, a7, a8⟩ A1 c1 := by
    have h := heap_alloc_new w0 (.cells #[.int .i64 a0, .int .i64 a1, .int .u64 a2, .int .i64 a3, .int .i64 a4, .bool a5, .bool a6, .bool a7, .slice A1 a8.length c1] 41)
    have h2 := Below.alloc (Below.refl (w0.heap.size + 1) (w0.alloc (.cells #[.int .i64 a0, .int .i64 a1, .int .u64 a2, .int .i64 a3, .int .i64 a4, .bool a5, .bool a6, .bool a7, .slice A1 a8.length c1] 41))) (o := .cells #[.int .i64 b0, .int .i64 b1, .int .u64 b2, .int .i64 b3, .int .i64 b4, .bool b5, .bool b6, .bool b7, .slice A2 b8.length c2] 41) (by simp)
    exact (h2.block _ (by omega)).trans h
  have hB : BatchIn ((w0.alloc (.cells #[.int .i64 a0, .int .i64 a1, .int .u64 a2, .int .i64 a3, .int .i64 a4, .bool a5, .bool a6, .bool a7, .slice A1 a8.length c1] 41)).alloc (.cells #[.int .i64 b0, .int .i64 b1, .int .u64 b2, .int .i64 b3, .int .i64 b4, .bool b5, .bool b6, .bool b7, .slice A2 b8.length c2] 41)) (w0.heap.size + 1) ⟨b0, b1, b2, b3, b4, b5, b6, b7, b8⟩ A2 c2 := by
    have hsz : (w0.alloc (.cells #[.int .i64 a0, .int .i64 a1, .int .u64 a2, .int .i64 a3, .int .i64 a4, .bool a5, .bool a6, .bool a7, .slice A1 a8.length c1] 41)).heap.size = w0.heap.size + 1 := by simp
    have h := heap_alloc_new (w0.alloc (.cells #[.int .i64 a0, .int .i64 a1, .int .u64 a2, .int .i64 a3, .int .i64 a4, .bool a5, .bool a6, .bool a7, .slice A1 a8.length c1] 41)) (.cells #[.int .i64 b0, .int .i64 b1, .int .u64 b2, .int .i64 b3, .int .i64 b4, .bool b5, .bool b6, .bool b7, .slice A2 b8.length c2] 41)
    rw [hsz] at h
    exact h
  have HS := Lib.hid (And.intro hA.cells.2.2.2.2.2.2.2.2 hB.cells.2.2.2.2.2.2.2.2)
  clear hA hB
  go_enter Try.func17, Try.ntmps17
  go_wp2
  go_region_held3 (fun w' => w'.cell? ⟨w0.heap.size, 8, none⟩ = some (.slice A1 a8.length c1) ∧ w'.cell? ⟨w0.heap.size + 1, 8, none⟩ = some (.slice A2 b8.length c2)) (first | exact HS.out) (first | fail)
  have HBW := Lib.hid (show ∀ x y, Below w0.heap.size w0 ((w0.alloc x).alloc y).drew from fun x y => (((Below.refl _ _).alloc (Nat.le_refl _) x).alloc (by simp) y).drew)
  by_cases h0 : a0 = b0
  case neg =>
    have hf : sameB ⟨a0, a1, a2, a3, a4, a5, a6, a7, a8⟩ ⟨b0, b1, b2, b3, b4, b5, b6, b7, b8⟩ = false := by simp [sameB, h0]
    have hb : (a0 == b0) = false := beq_eq_false_iff_ne.mpr h0
    go_wp2
    go_ret
    exact ⟨by rw [hf]; rfl, HBW.out _ _⟩
  subst h0
  by_cases h1 : a1 = b1
  case neg =>
    have hf : sameB ⟨a0, a1, a2, a3, a4, a5, a6, a7, a8⟩ ⟨a0, b1, b2, b3, b4, b5, b6, b7, b8⟩ = false := by simp [sameB, h1]
    have hb : (a1 == b1) = false := beq_eq_false_iff_ne.mpr h1
    go_wp2
    go_ret
    exact ⟨by rw [hf]; rfl, HBW.out _ _⟩
  subst h1
  by_cases h2 : a2 = b2
  case neg =>
    have hf : sameB ⟨a0, a1, a2, a3, a4, a5, a6, a7, a8⟩ ⟨a0, a1, b2, b3, b4, b5, b6, b7, b8⟩ = false := by simp [sameB, h2]
    have hb : (a2 == b2) = false := beq_eq_false_iff_ne.mpr h2
    go_wp2
    go_ret
    exact ⟨by rw [hf]; rfl, HBW.out _ _⟩
  subst h2
  by_cases h3 : a3 = b3
  case neg =>
    have hf : sameB ⟨a0, a1, a2, a3, a4, a5, a6, a7, a8⟩ ⟨a0, a1, a2, b3, b4, b5, b6, b7, b8⟩ = false := by simp [sameB, h3]
    have hb : (a3 == b3) = false := beq_eq_false_iff_ne.mpr h3
    go_wp2
    go_ret
    exact ⟨by rw [hf]; rfl, HBW.out _ _⟩
  subst h3
  by_cases h4 : a4 = b4
  case neg =>
    have hf : sameB ⟨a0, a1, a2, a3, a4, a5, a6, a7, a8⟩ ⟨a0, a1, a2, a3, b4, b5, b6, b7, b8⟩ = false := by simp [sameB, h4]
    have hb : (a4 == b4) = false := beq_eq_false_iff_ne.mpr h4
    go_wp2
    go_ret
    exact ⟨by rw [hf]; rfl, HBW.out _ _⟩
  subst h4
  by_cases h5 : a5 = b5
  case neg =>
    have hf : sameB ⟨a0, a1, a2, a3, a4, a5, a6, a7, a8⟩ ⟨a0, a1, a2, a3, a4, b5, b6, b7, b8⟩ = false := by simp [sameB, h5]
    have hb : (a5 == b5) = false := beq_eq_false_iff_ne.mpr h5
    go_wp2
    go_ret
    exact ⟨by rw [hf]; rfl, HBW.out _ _⟩
  subst h5
  by_cases h6 : a6 = b6
  case neg =>
    have hf : sameB ⟨a0, a1, a2, a3, a4, a5, a6, a7, a8⟩ ⟨a0, a1, a2, a3, a4, a5, b6, b7, b8⟩ = false := by simp [sameB, h6]
    have hb : (a6 == b6) = false := beq_eq_false_iff_ne.mpr h6
    go_wp2
    go_ret
    exact ⟨by rw [hf]; rfl, HBW.out _ _⟩
  subst h6
  by_cases h7 : a7 = b7
  case neg =>
    have hf : sameB ⟨a0, a1, a2, a3, a4, a5, a6, a7, a8⟩ ⟨a0, a1, a2, a3, a4, a5, a6, b7, b8⟩ = false := by simp [sameB, h7]
    have hb : (a7 == b7) = false := beq_eq_false_iff_ne.mpr h7
    go_wp2
    go_ret
    exact ⟨by rw [hf]; rfl, HBW.out _ _⟩
  subst h7
  have hf : sameB ⟨a0, a1, a2, a3, a4, a5, a6, a7, a8⟩ ⟨a0, a1, a2, a3, a4, a5, a6, a7, b8⟩ = (a8 == b8) := by simp [sameB]
  go_wp2_with (first | (go_at_call 25; refine (equalFunc_walk a8 b8 A1 A2 c1 c2 _ (Kd.C_below HC1.out (HBW.out _ _)) hc1 (Kd.C_below HC2.out (HBW.out _ _)) hc2 hn HI.out).mono ?_; rintro e w2 ⟨rfl, hb2⟩) | go_in)
  go_ret
  exact ⟨by rw [hf]; rfl, (HBW.out _ _).trans (hb2.mono (HBW.out _ _).size)⟩

namespace H
def model_Same.f (_k : Nat) (a0_0 : Int) (a0_1 : Int) (a0_2 : Int) (a0_3 : Int) (a0_4 : Int) (a0_5 : Bool) (a0_6 : Bool) (a0_7 : Bool) (l0_8 : List (List Int)) (a1_0 : Int) (a1_1 : Int) (a1_2 : Int) (a1_3 : Int) (a1_4 : Int) (a1_5 : Bool) (a1_6 : Bool) (a1_7 : Bool) (l1_8 : List (List Int)) : Option (Bool) :=
  if l0_8.length ≤ 5864062014805 ∧ (l0_8.all fun v => decide (v.length < 140737488355328)) = true then some (sameB ⟨a0_0, a0_1, a0_2, a0_3, a0_4, a0_5, a0_6, a0_7, l0_8⟩ ⟨a1_0, a1_1, a1_2, a1_3, a1_4, a1_5, a1_6, a1_7, l1_8⟩) else none
theorem model_Same.mono : ∀ a0 a1 a2 a3 a4 a5 a6 a7 a8 a9 a10 a11 a12 a13 a14 a15 a16 a17 k, LeO (model_Same.f k a0 a1 a2 a3 a4 a5 a6 a7 a8 a9 a10 a11 a12 a13 a14 a15 a16 a17) (model_Same.f (k + 1) a0 a1 a2 a3 a4 a5 a6 a7 a8 a9 a10 a11 a12 a13 a14 a15 a16 a17) := fun _ _ _ _ _ _ _ _ _ _ _ _ _ _ _ _ _ _ _ => LeO.refl _
theorem model_Same.calls (k : Nat) (a0_0 : Int) (a0_1 : Int) (a0_2 : Int) (a0_3 : Int) (a0_4 : Int) (a0_5 : Bool) (a0_6 : Bool) (a0_7 : Bool) (A0_8 : Option Addr) (c0_8 : Nat) (l0_8 : List (List Int)) (a1_0 : Int) (a1_1 : Int) (a1_2 : Int) (a1_3 : Int) (a1_4 : Int) (a1_5 : Bool) (a1_6 : Bool) (a1_7 : Bool) (A1_8 : Option Addr) (c1_8 : Nat) (l1_8 : List (List Int)) (r : Bool) (w : World) (hr0_8 : Kd.C (Kd.slice 5 (Kd.int .u8)) w A0_8 l0_8.length l0_8) (hc0_8 : l0_8.length ≤ c0_8) (hr1_8 : Kd.C (Kd.slice 5 (Kd.int .u8)) w A1_8 l1_8.length l1_8) (hc1_8 : l1_8.length ≤ c1_8) (h : model_Same.f k a0_0 a0_1 a0_2 a0_3 a0_4 a0_5 a0_6 a0_7 l0_8 a1_0 a1_1 a1_2 a1_3 a1_4 a1_5 a1_6 a1_7 l1_8 = some r) :
    Calls Try.prog 17 #[.agg #[.int .i64 a0_0, .int .i64 a0_1, .int .u64 a0_2, .int .i64 a0_3, .int .i64 a0_4, .bool a0_5, .bool a0_6, .bool a0_7, .slice A0_8 l0_8.length c0_8], .agg #[.int .i64 a1_0, .int .i64 a1_1, .int .u64 a1_2, .int .i64 a1_3, .int .i64 a1_4, .bool a1_5, .bool a1_6, .bool a1_7, .slice A1_8 l1_8.length c1_8]] w fun e w' => e = .returned (.bool r) ∧ Below w.heap.size w w' := by
  unfold model_Same.f at h
  split at h
  case isFalse => cases h
  case isTrue hc =>
    obtain rfl := Option.some.inj h
    exact msame_walk a0_0 a0_1 a0_2 a0_3 a0_4 a0_5 a0_6 a0_7 l0_8 a1_0 a1_1 a1_2 a1_3 a1_4 a1_5 a1_6 a1_7 l1_8 A0_8 A1_8 c0_8 c1_8 w hr0_8 hc0_8 hr1_8 hc1_8 hc.1 (fun v hv => of_decide_eq_true (List.all_eq_true.1 hc.2 v hv))
end H
end Go.Proofs.Ytnbdlkjphdfkpaa

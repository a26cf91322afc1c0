/- What is not there, and awake: what they compute. No conditions. -/
import Derived.Test.YtalaghkpbdaonaaNetF
import Derived.Lib.SlBytesConst
namespace Go.Proofs.Ytalaghkpbdaonaa
open Go Go.RowKit H Go.Proofs.YtalaghkpbdaonaaW.PrintWords

set_option maxRecDepth 100000 in
theorem take_nil (i : Int) (w : World) : Calls Try.prog 14 #[.pointer none, .int .i64 i] w fun e w' => e = .returned (.tuple #[.agg #[.int .i64 0, .int .i64 0, .slice none 0 0], .bool false]) ∧ Below w.heap.size w w' := by
  go_enter Try.func14, Try.ntmps14
  go_wp2_with (first
    | (go_at_call 27; refine (at_nil i _).mono ?_; rintro e w1 ⟨rfl, rfl⟩)
    | go_in)
  refine bodyPost_ret (results_row_tmp rfl _ _ w.heap.size 28 #[.int .i64 0, .int .i64 0, .slice none 0 0] (0, 0) _ rfl (heap_alloc_new w _) Try.underlying28 rfl (by kernel_rfl)) rfl ?_
  exact ⟨rfl, (Below.refl _ _).alloc (Nat.le_refl _) _⟩

set_option maxRecDepth 100000 in
theorem peek_nil (i : Int) (w : World) : Calls Try.prog 13 #[.pointer none, .int .i64 i] w fun e w' => e = .returned (.tuple #[.agg #[.int .i64 0, .int .i64 0, .slice none 0 0], .bool false]) ∧ Below w.heap.size w w' := by
  go_enter Try.func13, Try.ntmps13
  go_wp2_with (first
    | (go_at_call 27; refine (at_nil i _).mono ?_; rintro e w1 ⟨rfl, rfl⟩)
    | go_in)
  refine bodyPost_ret (results_row_tmp rfl _ _ w.heap.size 28 #[.int .i64 0, .int .i64 0, .slice none 0 0] (0, 0) _ rfl (heap_alloc_new w _) Try.underlying28 rfl (by kernel_rfl)) rfl ?_
  exact ⟨rfl, (Below.refl _ _).alloc (Nat.le_refl _) _⟩

set_option maxRecDepth 100000 in
theorem drop_nil (i : Int) (w : World) : Calls Try.prog 19 #[.pointer none, .int .i64 i] w fun e w' => e = .returned (.bool false) ∧ w' = w := by
  go_enter Try.func19, Try.ntmps19
  go_wp2_with (first
    | (go_at_call 27; refine (at_nil i _).mono ?_; rintro e w1 ⟨rfl, rfl⟩)
    | go_in)
  go_ret
  exact ⟨rfl, rfl⟩

set_option maxRecDepth 100000 in
theorem copy_nil (i : Int) (w : World) : Calls Try.prog 20 #[.pointer none, .int .i64 i] w fun e w' => e = .returned (.bool false) ∧ w' = w := by
  go_enter Try.func20, Try.ntmps20
  go_wp2_with (first
    | (go_at_call 27; refine (at_nil i _).mono ?_; rintro e w1 ⟨rfl, rfl⟩)
    | go_in)
  go_ret
  exact ⟨rfl, rfl⟩

set_option maxRecDepth 100000 in
theorem cut_nil (i j : Int) (w : World) : Calls Try.prog 17 #[.pointer none, .int .i64 i, .int .i64 j] w fun e w' => e = .returned (.tuple #[]) ∧ w' = w := by
  go_enter Try.func17, Try.ntmps17
  go_wp2
  exact bodyPost_end (results_none rfl _ _ _) rfl ⟨rfl, rfl⟩

set_option maxRecDepth 100000 in
theorem heal_nil (w : World) : Calls Try.prog 18 #[.pointer none] w fun e w' => e = .returned (.tuple #[]) ∧ w' = w := by
  go_enter Try.func18, Try.ntmps18
  go_wp2
  exact bodyPost_end (results_none rfl _ _ _) rfl ⟨rfl, rfl⟩

theorem u8_const (w : World) : (Kd.int .u8).C (w.alloc (.cells #[.int .u8 98] 5 (1, 2))) (some ⟨w.heap.size, 0, none⟩) ([98] : List Int).length [98] := by
  refine Kd.C_of_reads (enc := Value.int .u8) (d := (0 : Int)) (h1 := fun _ => rfl) ⟨rfl, by decide, fun _ => ⟨_, rfl, fun j hj => ?_⟩⟩
  obtain rfl : j = 0 := by simpa using hj
  exact cell_of_row _ w.heap.size 0 _ 5 (1, 2) (heap_alloc_new w _)

def awps : List S28 := [⟨1, 2, []⟩, ⟨2, 1, [98]⟩]

theorem took_aw {w : World} {base N M : Nat} {v : Value} {m : Nat} (h : NetIn w base N M v awps (.map []) m) :
    Calls Try.prog 14 #[.pointer (some ⟨N, 0, none⟩), .int .i64 (-1)] w fun e w' => ∃ A c, e = .returned (.tuple #[.agg #[.int .i64 2, .int .i64 1, .slice A 1 c], .bool true]) ∧ (∀ o, (convert 26 9 (.slice A 1 c)).run Try.prog (w'.alloc o) = .ok (.string { data := #[98] }) (w'.alloc o)) ∧ ∃ v', NetIn w' base N M v' [⟨1, 2, []⟩] (.map []) m ∧ Below base w w' := by
  refine (took_calls h (-1) 1 (by decide) (by decide) (by decide) (by decide) (fun w h => take_last h 1 (by decide) (by decide))).mono ?_
  rintro e w4 ⟨A, c, rfl, hR, v4, hS, hN, hM⟩
  refine ⟨A, c, rfl, fun o => ?_, v4, hN, hM.1⟩
  exact Kd.C_string Try.underlying26 Try.underlying5 Try.underlying9 (Kd.C_alloc (Kd.R_reads' hR).2.2 o)

set_option maxRecDepth 100000 in
theorem awake_walk (w : World) : Calls Try.prog 10 #[] w fun e w' => e = .returned (.bool true) ∧ Below w.heap.size w w' := by
  have kc := fun (w : World) (C : Array Value) (n c : Nat) => Lib.run_convert_bytes_const (P := Try.prog) w 26 5 C n c Try.underlying26 Try.underlying5
  have HC := Lib.hid u8_const
  go_enter Try.func10, Try.ntmps10
  go_wp2_with (first
    | (go_at_call 9; refine (new_calls w).mono ?_; rintro e w1 ⟨N, M, rfl, hN, hB⟩; have HN1 := Lib.hid (And.intro hN hB); clear hN hB)
    | (go_at_call 11; refine (send_room HN1.out.1 (by decide) 1 2 none 0 [] (Kd.C_nil _ _) (by decide) (by decide)).mono ?_; rintro e w2 ⟨rfl, v2, hN, hB⟩; have HN2 := Lib.hid (And.intro (hN.below ((Below.refl w2.heap.size w2).alloc (Nat.le_refl _) (.cells #[.int .u8 98] 5 (1, 2)))) ((HN1.out.2.trans hB.1).alloc (Nat.le_trans HN1.out.2.size hB.1.size) (.cells #[.int .u8 98] 5 (1, 2)))); clear hN hB HN1)
    | (go_at_call 11; refine (send_room HN2.out.1 (by decide) 2 1 (some ⟨w2.heap.size, 0, none⟩) 1 [98] (HC.out w2) (by decide) (by decide)).mono ?_; rintro e w3 ⟨rfl, v3, hN, hB⟩; have HN3 := Lib.hid (And.intro hN (HN2.out.2.trans hB.1)); clear hN hB HN2 kc)
    | (go_at_call 14; refine (took_aw HN3.out.1).mono ?_; rintro e w4 ⟨A, c, rfl, hs, v4, hN, hB⟩; have HN4 := Lib.hid (And.intro (fun o => hN.below ((Below.refl w4.heap.size w4).alloc (Nat.le_refl _) o)) (fun o => (HN3.out.2.trans hB).alloc (Nat.le_trans HN3.out.2.size hB.size) o)); clear hN hB HN3)
    | (go_at_call 16; refine (count_calls (HN4.out.1 _)).mono ?_; rintro e w5 ⟨rfl, rfl⟩)
    | go_in)
  go_ret
  exact ⟨rfl, HN4.out.2 _⟩
end Go.Proofs.Ytalaghkpbdaonaa

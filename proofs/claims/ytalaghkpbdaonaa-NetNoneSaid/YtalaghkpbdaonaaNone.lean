/- NetNone: the walk. No conditions. -/
import Derived.Test.YtalaghkpbdaonaaNetG
import Derived.Test.YtalaghkpbdaonaaOpen
namespace Go.Proofs.Ytalaghkpbdaonaa
open Go Go.RowKit H Go.Proofs.YtalaghkpbdaonaaW.PrintWords

set_option maxRecDepth 100000 in
set_option maxHeartbeats 4000000 in
theorem none_calls {w0 : World} (b : S28) (A : Option Addr) (c : Nat) (_hl : b.f2.length ≤ c) (_hC : Kd.C (Kd.int .u8) w0 A b.f2.length b.f2) (_hg : Good28 b) (i : Int) (_wi : (Lit.int .i64 i).wf = true) :
    Calls Try.prog 8 #[.agg #[.int .i64 b.f0, .int .i64 b.f1, .slice A b.f2.length c], .int .i64 i] w0 fun e w' => e = .returned (.bool true) ∧ Below w0.heap.size w0 w' := by
  clear _hl _hC _hg _wi
  have hB0 := Lib.hid ((Below.refl w0.heap.size w0).alloc (Nat.le_refl _) (.cells #[.int .i64 b.f0, .int .i64 b.f1, .slice A b.f2.length c] 28))
  have hb0 := heap_alloc_new w0 (.cells #[.int .i64 b.f0, .int .i64 b.f1, .slice A b.f2.length c] 28)
  go_enter Try.func8, Try.ntmps8
  go_wp2_with (first
    | (go_at_call 14; refine (take_nil i _).mono ?_; rintro e w1 ⟨rfl, hB⟩; have hb1 := blk_alloc (blk_below hb0 hB) (.cells #[.int .i64 0, .int .i64 0, .slice none 0 0] 28); have ha1 := heap_alloc_new w1 (.cells #[.int .i64 0, .int .i64 0, .slice none 0 0] 28); have hB1 := Lib.hid ((below_step hB0.out hB).alloc (below_step hB0.out hB).size (.cells #[.int .i64 0, .int .i64 0, .slice none 0 0] 28)); clear hB hb0 hB0)
    | (go_at_call 13; refine (peek_nil i _).mono ?_; rintro e w2 ⟨rfl, hB⟩; have hb2 := blk_alloc (blk_below hb1 hB) (.cells #[.int .i64 0, .int .i64 0, .slice none 0 0] 28); have ha2 := blk_alloc (blk_below ha1 hB) (.cells #[.int .i64 0, .int .i64 0, .slice none 0 0] 28); have hc2 := heap_alloc_new w2 (.cells #[.int .i64 0, .int .i64 0, .slice none 0 0] 28); have hB2 := Lib.hid ((below_step hB1.out hB).alloc (below_step hB1.out hB).size (.cells #[.int .i64 0, .int .i64 0, .slice none 0 0] 28)); clear hB hb1 ha1 hB1)
    | (go_at_call 17; refine (cut_nil _ _ _).mono ?_; rintro e w3 ⟨rfl, rfl⟩)
    | (go_at_call 18; refine (heal_nil _).mono ?_; rintro e w3 ⟨rfl, rfl⟩)
    | (go_at_call 10; refine (awake_walk _).mono ?_; rintro e w3 ⟨rfl, hB⟩; have hb3 := blk_below hb2 hB; have ha3 := blk_below ha2 hB; have hc3 := blk_below hc2 hB; have hB3 := Lib.hid (below_step hB2.out hB); clear hB hb2 ha2 hc2 hB2; have qb := blk_cell hb3)
    | (go_at_call 11; refine (send_nil (.bool true) _ b.f0 b.f1 A b.f2.length c).mono ?_; rintro e w4 ⟨rfl, hB⟩; have ha4 := blk_below ha3 hB; have hc4 := blk_below hc3 hB; have hB4 := Lib.hid (below_step hB3.out hB); clear hB hb3 ha3 hc3 hB3 qb; have qa := blk_cell ha4; have qc := blk_cell hc4)
    | (go_at_call 19; refine (drop_nil i _).mono ?_; rintro e w5 ⟨rfl, rfl⟩)
    | (go_at_call 20; refine (copy_nil i _).mono ?_; rintro e w5 ⟨rfl, rfl⟩)
    | (go_at_call 16; refine (count_nil _).mono ?_; rintro e w5 ⟨rfl, rfl⟩)
    | go_in)

  go_ret
  exact ⟨rfl, hB4.out⟩
end Go.Proofs.Ytalaghkpbdaonaa

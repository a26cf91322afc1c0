/- Peek: what it computes. No conditions. -/
import Derived.Test.YtalaghkpbdaonaaNetM
import Derived.Test.YtalaghkpbdaonaaNetF
namespace Go.Proofs.Ytalaghkpbdaonaa
open Go Go.RowKit H Go.Proofs.YtalaghkpbdaonaaW.PrintWords

set_option maxRecDepth 100000 in
set_option maxHeartbeats 4000000 in
theorem peek_calls {w : World} {base N M : Nat} {v : Value} {ps : List S28} {D : DataW Unit} {m : Nat} (h : NetIn w base N M v ps D m) (i : Int) (k : Nat) (hk : k < ps.length) (hi : atF ps.length i = k) (hmax : ps.length ≤ 256) (hsz : (ps.getD k z28).f2.length ≤ 140737488355328) :
    Calls Try.prog 13 #[.pointer (some ⟨N, 0, none⟩), .int .i64 i] w fun e w' => ∃ A c, e = .returned (.tuple #[.agg #[.int .i64 (ps.getD k z28).f0, .int .i64 (ps.getD k z28).f1, .slice A (ps.getD k z28).f2.length c], .bool true]) ∧ (Kd.int .u8).R 5 w' w.heap.size (fun _ => True) (.slice A (ps.getD k z28).f2.length c) (ps.getD k z28).f2 ∧ Below w.heap.size w w' := by
  have h1 := h.below ((Below.refl _ _).alloc (Nat.le_refl _) (.cells #[.int .i64 0, .int .i64 0, .slice none 0 0] 28))
  have HA := Lib.hid h1
  obtain ⟨cs, g, c, cur, A2, c2, rfl, hge, hgh, hnc, hcm, hsz2, hcs, hrep, hR, x0, x1, x2⟩ := h1.elem k hk
  have q := blk_cell h1.cell
  have hd1 : (k : Int) < ps.length := by omega
  generalize ps.getD k z28 = x at *
  have hRR := Kd.R_reads' hR
  have HI := Lib.hid (And.intro hi (And.intro hmax (And.intro hRR.2 hsz)))
  have hneg : ¬ (k : Int) < 0 := by omega
  have hz := heap_alloc_new w (.cells #[.int .i64 0, .int .i64 0, .slice none 0 0] 28)
  have HZ := Lib.hid hz
  clear h h1 hi hmax hrep hR hgh hge hcs hsz2 hcm hRR hsz hz
  go_enter Try.func13, Try.ntmps13
  go_wp2_with (first
    | (go_at_call 27; refine (at_calls HA.out HI.out.2.1 i).mono ?_; rintro e w1 ⟨rfl, rfl⟩; rw [HI.out.1])
    | (go_at_call 26; refine (own26 x.f0 x.f1 A2 c2 x.f2 _ HI.out.2.2.1.2 HI.out.2.2.1.1 HI.out.2.2.2).mono ?_; rintro e w2 ⟨v2, rfl, hR2, hb2⟩; obtain ⟨A3, c3, rfl⟩ := Kd.R_slice hR2; have z2 := blk_cell (blk_below HZ.out hb2); have y2 := blk_frozen (blk_below HZ.out hb2); have HE := Lib.hid (And.intro hR2 (And.intro hb2 (blk_below HZ.out hb2))); clear hR2 hb2)
    | go_in)
  clear z2 y2
  obtain ⟨hR2, hb2, hz2⟩ := HE.out
  refine bodyPost_ret (results_row_tmp rfl _ _ w.heap.size 28 #[.int .i64 x.f0, .int .i64 x.f1, .slice A3 x.f2.length c3] (0, 0) _ rfl (blk_put (blk_put (blk_put hz2 0 (.int .i64 x.f0) rfl) 1 (.int .i64 x.f1) rfl) 2 (.slice A3 x.f2.length c3) rfl) Try.underlying28 rfl (by kernel_rfl)) rfl ?_
  refine ⟨A3, c3, rfl, Kd.R_lower (Kd.R_mono (Kd.R_far (p := ⟨w.heap.size, 2, none⟩) (Kd.R_far (p := ⟨w.heap.size, 1, none⟩) (Kd.R_far (p := ⟨w.heap.size, 0, none⟩) (Kd.R_types hR2 hz2 (by decide)) (fun k hk => hk.2) _) (fun k hk => hk.2) _) (fun k hk => hk.2) _) (fun _ _ => trivial)) (by simp), ?_⟩
  have hb : Below w.heap.size w w2 := ((Below.refl _ _).alloc (Nat.le_refl _) _).trans (hb2.mono (by simp))
  exact ((hb.setCell (Nat.le_refl _) _).setCell (Nat.le_refl _) _).setCell (Nat.le_refl _) _
end Go.Proofs.Ytalaghkpbdaonaa

/- Copy: what it computes. No conditions. -/
import Derived.Test.YtalaghkpbdaonaaNetM
import Derived.Test.YtalaghkpbdaonaaNetF
namespace Go.Proofs.Ytalaghkpbdaonaa
open Go Go.RowKit H Go.Proofs.YtalaghkpbdaonaaW.PrintWords

set_option maxRecDepth 100000 in
set_option maxHeartbeats 4000000 in
theorem copy_room {w : World} {base N M : Nat} {v : Value} {ps : List S28} {D : DataW Unit} {m : Nat} (h : NetIn w base N M v ps D m) (i : Int) (k : Nat) (hk : k < ps.length) (hi : atF ps.length i = k) (hmax : ps.length < 256) (hsz : (ps.getD k z28).f2.length ≤ 140737488355328) :
    Calls Try.prog 20 #[.pointer (some ⟨N, 0, none⟩), .int .i64 i] w fun e w' => e = .returned (.bool true) ∧ ∃ v', NetIn w' base N M v' (ps ++ [⟨(ps.getD k z28).f0, (ps.getD k z28).f1, (ps.getD k z28).f2⟩]) D m ∧ NetMoved w w' base N v := by
  have HA := Lib.hid h
  obtain ⟨cs, g, c, cur, A2, c2, rfl, hge, hgh, hnc, hcm, hsz2, hcs, hrep, hR, x0, x1, x2⟩ := h.elem k hk
  have q := blk_cell h.cell
  have hd1 : (k : Int) < ps.length := by omega
  generalize ps.getD k z28 = x at *
  have hRR := Kd.R_reads' hR
  have HI := Lib.hid (And.intro hi (And.intro hmax (And.intro hRR.2 hsz)))
  have hneg : ¬ (k : Int) < 0 := by omega
  have hpos : (0 : Int) ≤ (k : Int) := by omega
  clear h hi hmax hrep hR hgh hge hcs hsz2 hcm hRR hsz
  go_enter Try.func20, Try.ntmps20
  go_wp2_with (first
    | (go_at_call 27; refine (at_calls HA.out (Nat.le_of_lt HI.out.2.1) i).mono ?_; rintro e w1 ⟨rfl, rfl⟩; rw [HI.out.1])
    | (go_at_call 11; refine (send_room HA.out HI.out.2.1 x.f0 x.f1 A2 c2 x.f2 HI.out.2.2.1.2 HI.out.2.2.1.1 HI.out.2.2.2).mono ?_; rintro e w2 ⟨rfl, v2, hN, hM⟩; have HE := Lib.hid (And.intro hN hM); clear hN hM)
    | go_in)
  go_ret
  exact ⟨rfl, _, HE.out⟩

set_option maxRecDepth 100000 in
set_option maxHeartbeats 4000000 in
theorem copy_full {w : World} {base N M : Nat} {v : Value} {ps : List S28} {D : DataW Unit} {m : Nat} (h : NetIn w base N M v ps D m) (i : Int) (k : Nat) (hk : k < ps.length) (hi : atF ps.length i = k) (hmax : ps.length = 256) :
    Calls Try.prog 20 #[.pointer (some ⟨N, 0, none⟩), .int .i64 i] w fun e w' => e = .returned (.bool false) ∧ Below w.heap.size w w' := by
  have HA := Lib.hid h
  obtain ⟨cs, g, c, cur, A2, c2, rfl, hge, hgh, hnc, hcm, hsz2, hcs, hrep, hR, x0, x1, x2⟩ := h.elem k hk
  have q := blk_cell h.cell
  have hd1 : (k : Int) < ps.length := by omega
  generalize ps.getD k z28 = x at *
  have HI := Lib.hid (And.intro hi hmax)
  have hneg : ¬ (k : Int) < 0 := by omega
  have hpos : (0 : Int) ≤ (k : Int) := by omega
  clear h hi hmax hrep hR hgh hge hcs hsz2 hcm
  go_enter Try.func20, Try.ntmps20
  go_wp2_with (first
    | (go_at_call 27; refine (at_calls HA.out (Nat.le_of_eq HI.out.2) i).mono ?_; rintro e w1 ⟨rfl, rfl⟩; rw [HI.out.1])
    | (go_at_call 11; refine (send_full HA.out (Nat.le_of_eq HI.out.2.symm) x.f0 x.f1 A2 x.f2.length c2).mono ?_; rintro e w2 ⟨rfl, hB⟩; have HE := Lib.hid hB; clear hB)
    | go_in)
  go_ret
  exact ⟨rfl, HE.out⟩
end Go.Proofs.Ytalaghkpbdaonaa

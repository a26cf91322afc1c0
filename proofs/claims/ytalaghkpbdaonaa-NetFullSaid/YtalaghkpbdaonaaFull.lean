/- NetFull: the walk. No conditions. -/
import Derived.Test.YtalaghkpbdaonaaNetU
import Derived.Test.YtalaghkpbdaonaaCounts
import Derived.Test.YtalaghkpbdaonaaNetP
import Derived.Test.YtalaghkpbdaonaaOrder
import Derived.OpenShut
namespace Go.Proofs.Ytalaghkpbdaonaa
open Go Go.RowKit H Go.Proofs.YtalaghkpbdaonaaW.PrintWords Strict

/-- The packets that were sent: from 0, from 1, and so on. -/
def fl (p : S28) (n : Nat) : List S28 := (List.range n).map fun q : Nat => (⟨(q : Int), p.f1, p.f2⟩ : S28)
theorem fl_len (p : S28) (n : Nat) : (fl p n).length = n := by unfold fl; simp
theorem fl_succ (p : S28) (n : Nat) : fl p n ++ [⟨(n : Int), p.f1, p.f2⟩] = fl p (n + 1) := by unfold fl; rw [List.range_succ, List.map_append]; rfl
theorem fl_get (p : S28) {n k : Nat} (h : k < n) : (fl p n).getD k z28 = ⟨(k : Int), p.f1, p.f2⟩ := by
  unfold fl
  rw [List.getD_eq_getElem?_getD, List.getElem?_map, List.getElem?_range h]
  rfl

theorem fl_cut (p : S28) : (cutOut (fl p 256) 3).getD 3 z28 = ⟨4, p.f1, p.f2⟩ := by
  unfold cutOut
  have h := fl_get p (show 4 < 256 by decide)
  rw [List.getD_eq_getElem?_getD] at h ⊢
  rw [List.getElem?_append_right (by rw [List.length_take, fl_len]; decide), List.getElem?_drop, List.length_take, fl_len]
  exact h

/-- What the loop of Sends keeps. -/
def FullRel (w0 : World) (p : S28) (A1 : Option Addr) (c1 N M kk : Nat) (i : Value) (wr : World) : Prop :=
  ∃ (b j : Nat) (v : Value) (z : Int), w0.heap.size < b ∧ j ≤ kk ∧ i = .int .i64 j ∧ NetIn wr b N M v (fl p (min j 256)) (.map []) 0 ∧ wr.heap[w0.heap.size]? = some (.cells #[.int .i64 z, .int .i64 p.f1, .slice A1 p.f2.length c1] 28 (0, 0)) ∧ Below w0.heap.size w0 wr

set_option maxRecDepth 100000 in
set_option maxHeartbeats 4000000 in
theorem full_calls {w0 : World} (n : Int) (wn : (Lit.int .u16 n).wf = true) (p : S28) (A1 : Option Addr) (c1 : Nat) (hl1 : p.f2.length ≤ c1) (hC1 : Kd.C (Kd.int .u8) w0 A1 p.f2.length p.f2) (hg1 : Fine28 p) :
    Calls Try.prog 6 #[.int .u16 n, .agg #[.int .i64 p.f0, .int .i64 p.f1, .slice A1 p.f2.length c1]] w0 fun e w' => e = .returned (.bool true) ∧ Below w0.heap.size w0 w' := by
  have HC := Lib.hid (And.intro hC1 (And.intro hl1 hg1))
  have HWN := Lib.hid wn
  clear hl1 hC1 hg1 wn
  go_enter Try.func6, Try.ntmps6
  go_wp2_with (first
    | (go_at_call 9; refine (new_calls _).mono ?_; rintro e w1 ⟨N, M, rfl, hN, hB⟩; have HN1 := Lib.hid (And.intro hN hB); clear hN hB)
    | (go_at_call 10; refine (awake_walk _).mono ?_; rintro e w2 ⟨rfl, hB⟩; have HN2 := Lib.hid (And.intro (HN1.out.1.below hB) (below_step HN1.out.2 hB)); clear hB HN1)
    | go_in)
  obtain ⟨kk, hkk, hke⟩ : ∃ kk : Nat, kk < 600 ∧ wrap64 (n.tmod 600) = (kk : Int) := by
    have h := bounds_u16 HWN.out
    rw [Int.tmod_eq_emod_of_nonneg h.1]
    refine ⟨(n % 600).toNat, by omega, ?_⟩
    unfold wrap64
    omega
  rw [hke]
  generalize (n.tmod 600) = nm at *
  clear hke HWN
  go_loopw [7] (fun i wr => FullRel w0 p A1 c1 N M kk i wr)
    (fun i _ => kk - (intOf i).toNat)
  case atStart => exact ⟨_, 0, _, p.f0, by simp, Nat.zero_le _, rfl, HN2.out.1, blk_below (heap_alloc_new w0 (.cells #[.int .i64 p.f0, .int .i64 p.f1, .slice A1 p.f2.length c1] 28)) HN2.out.2, below_step (alloc_below w0 (.cells #[.int .i64 p.f0, .int .i64 p.f1, .slice A1 p.f2.length c1] 28)) HN2.out.2⟩
  case round =>
    obtain ⟨b, j, v, z, hb, hj, rfl, hN, hcell, hB⟩ := hrel
    clear HN2
    generalize wr = wk at *
    have qp := blk_cell hcell
    have fp := blk_frozen hcell
    rcases Nat.lt_or_ge j kk with hlt | hge
    case' inl =>
      have hd : (j : Int) < kk := by omega
      have hW1 : NetIn (wk.setCell ⟨w0.heap.size, 0, none⟩ (.int .i64 j)) b N M v (fl p (min j 256)) (.map []) 0 := hN.keep (fun k hk _ => Below.heap_setCell _ _ _ _ (show k ≠ w0.heap.size by omega))
      have hW2 : Below w0.heap.size w0 (wk.setCell ⟨w0.heap.size, 0, none⟩ (.int .i64 j)) := hB.setCell (Nat.le_refl _) _
      have hW3 : (wk.setCell ⟨w0.heap.size, 0, none⟩ (.int .i64 j)).heap[w0.heap.size]? = some (.cells #[.int .i64 j, .int .i64 p.f1, .slice A1 p.f2.length c1] 28 (0, 0)) := blk_put hcell 0 (.int .i64 j) rfl
      have HE0 := Lib.hid (And.intro hW1 (And.intro hW2 hW3))
      have HB := Lib.hid (And.intro hb hkk)
      have hjj : wrap64 ((j : Int) + 1) = ((j + 1 : Nat) : Int) := by unfold wrap64; omega
      clear hN hcell hB hW1 hW2 hW3 hb hkk
      rcases Nat.lt_or_ge j 256 with h256 | h256
      · have hd2 := eq_true (show (j : Int) < 256 by omega)
        have hm1 : min j 256 = j := by omega
        have hm2 : min (j + 1) 256 = j + 1 := by omega
        rw [hm1] at HE0
        have HM := Lib.hid (And.intro hm2 h256)
        clear hm1 hm2 h256
        go_wp2_with (first
          | (go_at_call 12; refine (own12 (j : Int) p.f1 A1 c1 p.f2 _ (Kd.C_below HC.out.1 HE0.out.2.1) HC.out.2.1 HC.out.2.2.2.2).mono ?_; rintro e w3 ⟨v3, rfl, hR, hB⟩; obtain ⟨A9, c9, rfl⟩ := Kd.R_slice hR; have HE1 := Lib.hid (And.intro (HE0.out.1.below hB) (And.intro (below_step HE0.out.2.1 hB) (And.intro (blk_below HE0.out.2.2 hB) (Kd.R_reads' hR)))); clear hR hB HE0 qp fp)
          | (go_at_call 11; refine (send_room HE1.out.1 (by rw [fl_len]; exact HM.out.2) (j : Int) p.f1 A9 c9 p.f2 HE1.out.2.2.2.2.2 HE1.out.2.2.2.2.1 (Nat.le_of_lt HC.out.2.2.2.2)).mono ?_; rintro e w4 ⟨rfl, v4, hN, hM⟩; have HE2 := Lib.hid (And.intro hN (And.intro (HE1.out.2.1.trans (hM.1.mono (Nat.le_of_lt HB.out.1))) ((hM.1.block _ HB.out.1).trans HE1.out.2.2.1))); clear hN hM HE1)
          | go_in)
        exact ⟨⟨b, j + 1, _, (j : Int), HB.out.1, hlt, by rw [hjj], by rw [HM.out.1, ← fl_succ]; exact HE2.out.1, HE2.out.2.2, HE2.out.2.1⟩, by rw [hjj]; simp only [intOf]; omega⟩
      · have hd2 := eq_false (show ¬ (j : Int) < 256 by omega)
        have hm1 : min j 256 = 256 := by omega
        have hm2 : min (j + 1) 256 = 256 := by omega
        rw [hm1] at HE0
        have HM := Lib.hid (And.intro hm2 h256)
        clear hm1 hm2 h256
        go_wp2_with (first
          | (go_at_call 12; refine (own12 (j : Int) p.f1 A1 c1 p.f2 _ (Kd.C_below HC.out.1 HE0.out.2.1) HC.out.2.1 HC.out.2.2.2.2).mono ?_; rintro e w3 ⟨v3, rfl, hR, hB⟩; obtain ⟨A9, c9, rfl⟩ := Kd.R_slice hR; have HE1 := Lib.hid (And.intro (HE0.out.1.below hB) (And.intro (below_step HE0.out.2.1 hB) (And.intro (blk_below HE0.out.2.2 hB) (Kd.R_reads' hR)))); clear hR hB HE0 qp fp)
          | (go_at_call 11; refine (send_full HE1.out.1 (by rw [fl_len]; exact Nat.le_refl _) (j : Int) p.f1 A9 p.f2.length c9).mono ?_; rintro e w4 ⟨rfl, hB⟩; have HE2 := Lib.hid (And.intro (HE1.out.1.below hB) (And.intro (below_step HE1.out.2.1 hB) (blk_below HE1.out.2.2.1 hB))); clear hB HE1)
          | go_in)
        exact ⟨⟨b, j + 1, _, (j : Int), HB.out.1, hlt, by rw [hjj], by rw [HM.out.1]; exact HE2.out.1, HE2.out.2.2, HE2.out.2.1⟩, by rw [hjj]; simp only [intOf]; omega⟩
    obtain rfl : j = kk := by omega
    have hcd := eq_false (show ¬ (j : Int) < j by omega)
    clear hge hj qp fp hcell
    rcases Nat.lt_or_ge j 256 with h256 | h256
    · have hd2 := eq_true (show (j : Int) < 256 by omega)
      have hd3 : min (j : Int) 256 = j := by omega
      rw [show min j 256 = j by omega] at hN
      have HE0 := Lib.hid (And.intro hN (And.intro hB hb))
      rcases Nat.eq_zero_or_pos j with h0 | h0
      · subst h0
        clear hN hB hb h256 hkk
        go_wp2_with (first
          | (go_at_call 16; refine (count_calls HE0.out.1).mono ?_; rintro e w9 ⟨rfl, rfl⟩; rw [fl_len])
          | (go_at_call 20; refine (copy_none HE0.out.1 0).mono ?_; rintro e w9 ⟨rfl, rfl⟩)
          | go_in)
        go_ret
        exact ⟨rfl, HE0.out.2.1⟩
      · have hd4 := eq_true (show (0 : Int) < j by omega)
        have HL := Lib.hid (And.intro (show 0 < (fl p j).length by rw [fl_len]; exact h0) (And.intro (show atF (fl p j).length 0 = (0 : Nat) by rw [fl_len]; unfold atF; rw [if_neg (by omega)]; simp) (And.intro (show (fl p j).length < 256 by rw [fl_len]; exact h256) (show ((fl p j).getD 0 z28).f2.length ≤ 140737488355328 by rw [fl_get p h0]; exact Nat.le_of_lt HC.out.2.2.2.2))))
        have hd5 := eq_true h0
        clear hN hB hb h256 hkk
        go_wp2_with (first
          | (go_at_call 16; refine (count_calls HE0.out.1).mono ?_; rintro e w9 ⟨rfl, rfl⟩; rw [fl_len])
          | (go_at_call 20; refine (copy_room HE0.out.1 0 0 HL.out.1 HL.out.2.1 HL.out.2.2.1 HL.out.2.2.2).mono ?_; rintro e w9 ⟨rfl, v9, hN, hM⟩; have HE1 := Lib.hid (HE0.out.2.1.trans (hM.1.mono (Nat.le_of_lt HE0.out.2.2))); clear hN hM HE0)
          | go_in)
        go_ret
        exact ⟨rfl, HE1.out⟩
    · have hd2 := eq_false (show ¬ (j : Int) < 256 by omega)
      have hd3 : (if (256 : Int) < j then (256 : Int) else j) = 256 := by split <;> omega
      rw [show min j 256 = 256 by omega] at hN
      have HE0 := Lib.hid (And.intro hN (And.intro hB hb))
      have hcut : Hid ((cutOut (fl p 256) 3).length = 255) := by show _ = _; unfold cutOut; rw [List.length_append, List.length_take, List.length_drop, fl_len]; decide
      clear hN hB hb h256 hkk
      go_wp2_with (first
        | (go_at_call 16; refine (count_calls HE0.out.1).mono ?_; rintro e w9 ⟨rfl, rfl⟩; rw [fl_len])
        | (go_at_call 13; refine (peek_calls HE0.out.1 255 255 (by rw [fl_len]; decide) (by rw [fl_len]; decide) (by rw [fl_len]; decide) (by rw [fl_get p (by decide)]; exact Nat.le_of_lt HC.out.2.2.2.2)).mono ?_; rw [fl_get p (show 255 < 256 by decide)]; rintro e w10 ⟨A10, c10, rfl, hR, hB⟩; have HE1 := Lib.hid (And.intro ((HE0.out.1.below hB).below (alloc_below _ (.cells #[.int .i64 255, .int .i64 p.f1, .slice A10 p.f2.length c10] 28))) (And.intro (below_step (below_step HE0.out.2.1 hB) (alloc_below _ (.cells #[.int .i64 255, .int .i64 p.f1, .slice A10 p.f2.length c10] 28))) HE0.out.2.2)); have qq := blk_cell (heap_alloc_new w10 (.cells #[.int .i64 255, .int .i64 p.f1, .slice A10 p.f2.length c10] 28)); clear hR hB HE0)
        | (go_at_call 20; refine (copy_full HE1.out.1 3 3 (by rw [fl_len]; decide) (by rw [fl_len]; decide) (fl_len p 256)).mono ?_; rintro e w11 ⟨rfl, hB⟩; have HE2 := Lib.hid (And.intro (HE1.out.1.below hB) (And.intro (below_step HE1.out.2.1 hB) HE1.out.2.2)); clear hB HE1)
        | (go_at_call 19; refine (drop_calls HE2.out.1 3 3 (by rw [fl_len]; decide) (by rw [fl_len]; decide) (by rw [fl_len]; decide)).mono ?_; rintro e w12 ⟨rfl, v12, hS, hN, hM⟩; have HE3 := Lib.hid (And.intro hN (And.intro (HE2.out.2.1.trans (hM.1.mono (Nat.le_of_lt HE2.out.2.2))) HE2.out.2.2)); clear hS hN hM HE2)
        | (go_at_call 20; refine (copy_room HE3.out.1 3 3 (by rw [hcut.out]; decide) (by rw [hcut.out]; decide) (by rw [hcut.out]; decide) (by rw [fl_cut]; exact Nat.le_of_lt HC.out.2.2.2.2)).mono ?_; rintro e w13 ⟨rfl, v13, hN, hM⟩; have HE4 := Lib.hid (And.intro hN (HE3.out.2.1.trans (hM.1.mono (Nat.le_of_lt HE3.out.2.2)))); clear hN hM HE3)
        | (go_at_call 16; refine (count_calls HE4.out.1).mono ?_; rintro e w14 ⟨rfl, rfl⟩; rw [List.length_append, hcut.out])
        | go_in)
      go_ret
      exact ⟨rfl, HE4.out.2⟩
end Go.Proofs.Ytalaghkpbdaonaa

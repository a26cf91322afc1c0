/- NetOrder: the walk. No conditions. -/
import Derived.Test.YtalaghkpbdaonaaCounts
import Derived.Test.YtalaghkpbdaonaaNetP
namespace Go.Proofs.Ytalaghkpbdaonaa
open Go Go.RowKit H Go.Proofs.YtalaghkpbdaonaaW.PrintWords Strict

set_option maxRecDepth 100000 in
set_option maxHeartbeats 4000000 in
theorem copy_none {w : World} {base N M : Nat} {v : Value} {D : DataW Unit} {m : Nat} (h : NetIn w base N M v [] D m) (i : Int) :
    Calls Try.prog 20 #[.pointer (some ⟨N, 0, none⟩), .int .i64 i] w fun e w' => e = .returned (.bool false) ∧ w' = w := by
  have H := Lib.hid h
  clear h
  go_enter Try.func20, Try.ntmps20
  go_wp2_with (first
    | (go_at_call 27; refine (at_calls H.out (by decide) i).mono ?_; rintro e w1 ⟨rfl, rfl⟩; rw [show atF ([] : List S28).length i = -1 from rfl])
    | go_in)
  go_ret
  exact ⟨rfl, rfl⟩

/-- Take where nothing is cut. -/
theorem took_free {w : World} {base N M : Nat} {v : Value} {ps : List S28} {m : Nat} (h : NetIn w base N M v ps (.map []) m) (i : Int) (k : Nat) (hk : k < ps.length) (hi : atF ps.length i = k) (hmax : ps.length ≤ 256) (x : S28) (hx : ps.getD k z28 = x) (hf : Fine28 x) :
    Calls Try.prog 14 #[.pointer (some ⟨N, 0, none⟩), .int .i64 i] w fun e w' => ∃ A c, e = .returned (.tuple #[.agg #[.int .i64 x.f0, .int .i64 x.f1, .slice A x.f2.length c], .bool true]) ∧ (Kd.int .u8).R 5 w' base (fun _ => True) (.slice A x.f2.length c) x.f2 ∧ ∃ v', NetIn w' base N M v' (cutOut ps k) (.map []) m ∧ TakeMoved w w' base N := by
  subst hx
  refine (took_calls h i k hi hmax hf.1 hf.2.1 (fun w h => take_calls k hk hmax w h)).mono ?_
  rintro e w4 ⟨A, c, rfl, hR, v4, hS, hN, hM⟩
  exact ⟨A, c, rfl, hR, v4, hN, hM⟩

set_option maxRecDepth 100000 in
set_option maxHeartbeats 4000000 in
theorem order_many {w0 : World} (A : Option Addr) (c : Nat) (l : List S28) (b : Bool) (h : 256 < l.length) :
    Calls Try.prog 5 #[.slice A l.length c, .bool b] w0 fun e w' => e = .returned (.bool true) ∧ Below w0.heap.size w0 w' := by
  have c1 : (256 : Int) < l.length := by omega
  clear h
  go_enter Try.func5, Try.ntmps5
  go_wp2_with (first
    | (go_at_call 9; refine (new_calls _).mono ?_; rintro e w1 ⟨N, M, rfl, hN, hB⟩; have HB1 := Lib.hid hB; clear hN hB)
    | (go_at_call 10; refine (awake_walk _).mono ?_; rintro e w2 ⟨rfl, hB⟩; have HB2 := Lib.hid (below_step HB1.out hB); clear hB HB1)
    | (go_at_call 10; refine (awake_walk _).mono ?_; rintro e w3 ⟨rfl, hB⟩; have HB3 := Lib.hid (below_step HB2.out hB); clear hB HB2)
    | go_in)
  go_ret
  exact ⟨rfl, HB3.out⟩

set_option maxRecDepth 100000 in
set_option maxHeartbeats 4000000 in
theorem order_front {w0 : World} (A : Option Addr) (c : Nat) (l : List S28) (hl : l.length ≤ c) (hC : Kd.C k28 w0 A l.length l) (hg : ∀ p ∈ l, Fine28 p) (h1 : l.length ≤ 256) :
    Calls Try.prog 5 #[.slice A l.length c, .bool false] w0 fun e w' => e = .returned (.bool true) ∧ Below w0.heap.size w0 w' := by
  have c1 := eq_false (show ¬ (256 : Int) < l.length by omega)
  have h2 := True.intro
  have HC := Lib.hid (And.intro hC hl)
  have HG := Lib.hid hg
  clear hC hg hl
  go_enter Try.func5, Try.ntmps5
  go_wp2_with (first
    | (go_at_call 9; refine (new_calls _).mono ?_; rintro e w1 ⟨N, M, rfl, hN, hB⟩; have HN1 := Lib.hid (And.intro hN hB); clear hN hB)
    | (go_at_call 10; refine (awake_walk _).mono ?_; rintro e w2 ⟨rfl, hB⟩; have HN2 := Lib.hid (And.intro (HN1.out.1.below hB) (below_step HN1.out.2 hB)); clear hB HN1)
    | go_in)
  go_loopw [30] (fun i wr => ∃ (k : Nat) (v : Value), k ≤ l.length ∧ i = .int .i64 k ∧ NetIn wr w0.heap.size N M v (l.take k) (.map []) 0 ∧ Below w0.heap.size w0 wr)
    (fun i _ => l.length - (intOf i).toNat)
  case atStart => exact ⟨0, _, Nat.zero_le _, rfl, HN2.out.1, HN2.out.2⟩
  case round =>
    obtain ⟨k, v, hk, rfl, hN, hB⟩ := hrel
    clear HN2
    generalize wr = wk at *
    rcases Nat.lt_or_ge k l.length with hlt | hge
    case' inl =>
      have hbody := at_T28 (Kd.C_below HC.out.1 hB) (k : Int) (by omega) (by omega)
      have hx : l[k]? = some (rd_T28 l k) := by unfold rd_T28; rw [List.getD_eq_getElem?_getD, Int.toNat_natCast, List.getElem?_eq_getElem hlt]; rfl
      have hfine := HG.out _ (List.mem_of_getElem? hx)
      have HX := Lib.hid (show l.take k ++ [⟨(rd_T28 l k).f0, (rd_T28 l k).f1, (rd_T28 l k).f2⟩] = l.take (k + 1) by rw [List.take_add_one, hx]; rfl)
      generalize rd_T28 l k = p at *
      obtain ⟨ad, A8, c8, rfl, x0, x1, x2, hl8, hi8⟩ := hbody
      rw [Int.toNat_natCast] at x0 x1 x2
      have HI := Lib.hid (And.intro hi8 (And.intro hl8 (And.intro hfine.2.2 (And.intro hN hB))))
      have HD := Lib.hid (And.intro h1 h2)
      have hd : (k : Int) < l.length := by omega
      have hlen : Hid ((l.take k).length < 256) := by show _ < _; rw [List.length_take]; omega
      clear hi8 hl8 hfine hN hB hx
      go_wp2_with (first
        | (go_at_call 12; refine (own12 p.f0 p.f1 A8 c8 p.f2 _ (Kd.C_alloc HI.out.1 _) HI.out.2.1 HI.out.2.2.1).mono ?_; rintro e w3 ⟨v3, rfl, hR, hB⟩; obtain ⟨A9, c9, rfl⟩ := Kd.R_slice hR; have hB3 := below_step ((Below.refl wk.heap.size wk).alloc (Nat.le_refl _) (.cells #[.int .i64 p.f0, .int .i64 p.f1, .slice A8 p.f2.length c8] 28)) hB; have HN3 := Lib.hid (And.intro (HI.out.2.2.2.1.below hB3) (And.intro (below_step HI.out.2.2.2.2 hB3) (Kd.R_reads' hR))); clear hR hB hB3)
        | (go_at_call 11; refine (send_room HN3.out.1 hlen.out p.f0 p.f1 A9 c9 p.f2 HN3.out.2.2.2.2 HN3.out.2.2.2.1 (Nat.le_of_lt HI.out.2.2.1)).mono ?_; rintro e w4 ⟨rfl, v4, hN, hM⟩; have HN4 := Lib.hid (And.intro hN (HN3.out.2.1.trans hM.1)); clear hN hM HN3)
        | go_in)
    exact ⟨⟨k + 1, v4, hlt, rfl, by rw [← HX.out]; exact HN4.out.1, HN4.out.2⟩, by simp [intOf]; omega⟩
    obtain rfl : k = l.length := by omega
    rw [List.take_length] at hN
    have HE0 := Lib.hid (And.intro hN hB)
    have hge' := eq_false (show ¬ (l.length : Int) < l.length by omega)
    clear hge hk hN hB
    go_wp2
    go_loopw [8] (fun i wr => ∃ (j : Nat) (v : Value), j ≤ l.length ∧ i = .int .i64 j ∧ NetIn wr w0.heap.size N M v (l.drop j) (.map []) 0 ∧ Below w0.heap.size w0 wr)
      (fun i _ => l.length - (intOf i).toNat)
    case atStart => exact ⟨0, _, Nat.zero_le _, rfl, HE0.out.1, HE0.out.2⟩
    case round =>
      obtain ⟨j, v, hj, rfl, hN, hB⟩ := hrel
      clear HE0
      generalize wr = wj at *
      rcases Nat.lt_or_ge j l.length with hlt | hge
      case' inl =>
        have hbody := at_T28 HC.out.1 (j : Int) (by omega) (by omega)
        have hx : l[j]? = some (rd_T28 l j) := by unfold rd_T28; rw [List.getD_eq_getElem?_getD, Int.toNat_natCast, List.getElem?_eq_getElem hlt]; rfl
        have hfine := HG.out _ (List.mem_of_getElem? hx)
        have HX := Lib.hid (show (l.drop j).getD 0 z28 = rd_T28 l j by rw [List.getD_eq_getElem?_getD, List.getElem?_drop, Nat.add_zero, hx]; rfl)
        generalize rd_T28 l j = p at *
        obtain ⟨ad, A8, c8, rfl, x0, x1, x2, hl8, hi0⟩ := hbody
        rw [Int.toNat_natCast] at x0 x1 x2
        have hlx := fun {v : Value} (a : Addr) (h : w0.cell? a = some v) => (hB.cell (World.block_lt_of_cell? w0 a h)).trans h
        replace x0 := hlx _ x0
        replace x1 := hlx _ x1
        replace x2 := hlx _ x2
        have hi8 := Kd.C_below hi0 hB
        have HI0 := Lib.hid hi0
        clear hlx hi0
        have HY := Lib.hid (show cutOut (l.drop j) 0 = l.drop (j + 1) by unfold cutOut; rw [List.take_zero, List.nil_append, List.drop_drop])
        have hlen : Hid (0 < (l.drop j).length ∧ (l.drop j).length ≤ 256) := by show _ ∧ _; rw [List.length_drop]; omega
        have hat : Hid (atF (l.drop j).length 0 = (0 : Nat)) := by show _ = _; unfold atF; rw [if_neg (by have := hlen.out.1; omega)]; rfl
        have HI := Lib.hid (And.intro hi8 (And.intro hl8 (And.intro hfine (And.intro ((hN.below (alloc_below _ (.cells #[.int .i64 p.f0, .int .i64 p.f1, .slice A8 p.f2.length c8] 28))).below ((Below.refl _ _).drew)) (And.intro hB (And.intro ((below_step hB (alloc_below _ (.cells #[.int .i64 p.f0, .int .i64 p.f1, .slice A8 p.f2.length c8] 28))).drew) (Kd.C_alloc hi8 (.cells #[.int .i64 p.f0, .int .i64 p.f1, .slice A8 p.f2.length c8] 28))))))))
        have hd := eq_true (show (j : Int) < l.length by omega)
        have hcell := Lib.hid (blk_drew (heap_alloc_new wj (.cells #[.int .i64 p.f0, .int .i64 p.f1, .slice A8 p.f2.length c8] 28)))
        have xa0 := cellA (.cells #[.int .i64 0, .int .i64 0, .slice none 0 0] 28) x0
        have xa1 := cellA (.cells #[.int .i64 0, .int .i64 0, .slice none 0 0] 28) x1
        have xa2 := cellA (.cells #[.int .i64 0, .int .i64 0, .slice none 0 0] 28) x2
        clear hi8 hl8 hfine hN hB hx
        go_wp2
        go_region_law (first | fail)
        all_goals
          go_wp2_with (first
            | (go_at_call 14; refine (took_free HI.out.2.2.2.1 0 0 hlen.out.1 hat.out hlen.out.2 p HX.out HI.out.2.2.1).mono ?_; rintro e w5 ⟨A5, c5, rfl, hR, v5, hN, hM⟩; have HE5 := Lib.hid (And.intro (hN.below (alloc_below _ (.cells #[.int .i64 p.f0, .int .i64 p.f1, .slice A5 p.f2.length c5] 28))) (And.intro (below_step (HI.out.2.2.2.2.2.1.trans hM.1) (alloc_below _ (.cells #[.int .i64 p.f0, .int .i64 p.f1, .slice A5 p.f2.length c5] 28))) (And.intro (Held.new hR) (blk_alloc ((hM.2 _ (blk_lt hcell.out) (blk_ne hcell.out HI.out.2.2.2.1.cell (by decide))).trans hcell.out) (.cells #[.int .i64 p.f0, .int .i64 p.f1, .slice A5 p.f2.length c5] 28))))); clear hR hN hM; have qd := blk_cell HE5.out.2.2.1.1; have qc := blk_cell HE5.out.2.2.2)
            | (go_at_call 15; refine (same15 p.f0 p.f1 A5 c5 A8 c8 p.f2 _ (Kd.R_reads' HE5.out.2.2.1.2).2.2 (Kd.R_reads' HE5.out.2.2.1.2).2.1 (Kd.C_below HI0.out HE5.out.2.1) HI.out.2.1 HI.out.2.2.1.2.2).mono ?_; rintro e w6 ⟨rfl, hB⟩; have HE6 := Lib.hid (And.intro (HE5.out.1.below hB) (below_step HE5.out.2.1 hB)); clear hB HE5 qc qd)
            | go_in)
        all_goals
          exact ⟨⟨j + 1, _, hlt, rfl, by rw [← HY.out]; exact HE6.out.1, HE6.out.2⟩, by simp [intOf]; omega⟩
      obtain rfl : j = l.length := by omega
      rw [List.drop_length] at hN
      have HE0 := Lib.hid (And.intro hN hB)
      have hd := eq_false (show ¬ (l.length : Int) < l.length by omega)
      clear hge hj hN hB
      go_wp2_with (first
        | (go_at_call 14; refine (took_none HE0.out.1 0).mono ?_; rintro e w8 ⟨rfl, hB⟩; have HE1 := Lib.hid (And.intro ((HE0.out.1.below hB).below (alloc_below _ (.cells #[.int .i64 0, .int .i64 0, .slice none 0 0] 28))) (below_step (below_step HE0.out.2 hB) (alloc_below _ (.cells #[.int .i64 0, .int .i64 0, .slice none 0 0] 28)))); clear hB HE0)
        | (go_at_call 19; refine (drop_none HE1.out.1 0).mono ?_; rintro e w9 ⟨rfl, rfl⟩)
        | (go_at_call 20; refine (copy_none HE1.out.1 0).mono ?_; rintro e w9 ⟨rfl, rfl⟩)
        | (go_at_call 16; refine (count_calls HE1.out.1).mono ?_; rintro e w9 ⟨rfl, rfl⟩; rw [show (([] : List S28).length : Int) = 0 from rfl])
        | go_in)
      go_ret
      exact ⟨rfl, HE1.out.2⟩
end Go.Proofs.Ytalaghkpbdaonaa

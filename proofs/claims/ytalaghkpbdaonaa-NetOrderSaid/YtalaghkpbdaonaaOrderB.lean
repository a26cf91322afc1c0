/- NetOrder, the way back: the walk. No conditions. -/
import Derived.Test.YtalaghkpbdaonaaOrder
namespace Go.Proofs.Ytalaghkpbdaonaa
open Go Go.RowKit H Go.Proofs.YtalaghkpbdaonaaW.PrintWords Strict

theorem neg_one_mod (r : Nat) : (-1 : Int) % ((r + 1 : Nat) : Int) = r := by
  rw [← Int.add_emod_right, Int.emod_eq_of_lt (by omega) (by omega)]
  omega

set_option maxRecDepth 100000 in
set_option maxHeartbeats 4000000 in
theorem order_back {w0 : World} (A : Option Addr) (c : Nat) (l : List S28) (hl : l.length ≤ c) (hC : Kd.C k28 w0 A l.length l) (hg : ∀ p ∈ l, Fine28 p) (h1 : l.length ≤ 256) :
    Calls Try.prog 5 #[.slice A l.length c, .bool true] w0 fun e w' => e = .returned (.bool true) ∧ Below w0.heap.size w0 w' := by
  have c1 := eq_false (show ¬ (256 : Int) < l.length by omega)
  have h2 := True.intro
  have HC := Lib.hid (And.intro hC hl)
  have HG := Lib.hid hg
  clear hC hg hl
  go_enter Try.func5, Try.ntmps5
  go_wp2_with (first
    | (go_at_call 9; refine (new_calls _).mono ?_; rintro e w1 ⟨N, M, rfl, hN, hB⟩; have HN1 := Lib.hid (And.intro hN hB); clear hN hB)
    | (go_at_call 10; refine (awake_walk _).mono ?_; rintro e w2 ⟨rfl, hB⟩; have HN2 := Lib.hid (And.intro (HN1.out.1.below hB) (below_step HN1.out.2 hB)); clear hB HN1)
    | go_in)
  go_loopw [30] (fun i wr => ∃ (k : Nat) (v : Value), k ≤ l.length ∧ i = .int .i64 k ∧ NetIn wr w0.heap.size N M v (l.take k) (.map []) 0 ∧ Below w0.heap.size w0 wr)
    (fun i _ => l.length - (intOf i).toNat)
  case atStart => exact ⟨0, _, Nat.zero_le _, rfl, HN2.out.1, HN2.out.2⟩
  case round =>
    obtain ⟨k, v, hk, rfl, hN, hB⟩ := hrel
    clear HN2
    generalize wr = wk at *
    rcases Nat.lt_or_ge k l.length with hlt | hge
    case' inl =>
      have hbody := at_T28 (Kd.C_below HC.out.1 hB) (k : Int) (by omega) (by omega)
      have hx : l[k]? = some (rd_T28 l k) := by unfold rd_T28; rw [List.getD_eq_getElem?_getD, Int.toNat_natCast, List.getElem?_eq_getElem hlt]; rfl
      have hfine := HG.out _ (List.mem_of_getElem? hx)
      have HX := Lib.hid (show l.take k ++ [⟨(rd_T28 l k).f0, (rd_T28 l k).f1, (rd_T28 l k).f2⟩] = l.take (k + 1) by rw [List.take_add_one, hx]; rfl)
      generalize rd_T28 l k = p at *
      obtain ⟨ad, A8, c8, rfl, x0, x1, x2, hl8, hi8⟩ := hbody
      rw [Int.toNat_natCast] at x0 x1 x2
      have HI := Lib.hid (And.intro hi8 (And.intro hl8 (And.intro hfine.2.2 (And.intro hN hB))))
      have HD := Lib.hid (And.intro h1 h2)
      have hd : (k : Int) < l.length := by omega
      have hlen : Hid ((l.take k).length < 256) := by show _ < _; rw [List.length_take]; omega
      clear hi8 hl8 hfine hN hB hx
      go_wp2_with (first
        | (go_at_call 12; refine (own12 p.f0 p.f1 A8 c8 p.f2 _ (Kd.C_alloc HI.out.1 _) HI.out.2.1 HI.out.2.2.1).mono ?_; rintro e w3 ⟨v3, rfl, hR, hB⟩; obtain ⟨A9, c9, rfl⟩ := Kd.R_slice hR; have hB3 := below_step ((Below.refl wk.heap.size wk).alloc (Nat.le_refl _) (.cells #[.int .i64 p.f0, .int .i64 p.f1, .slice A8 p.f2.length c8] 28)) hB; have HN3 := Lib.hid (And.intro (HI.out.2.2.2.1.below hB3) (And.intro (below_step HI.out.2.2.2.2 hB3) (Kd.R_reads' hR))); clear hR hB hB3)
        | (go_at_call 11; refine (send_room HN3.out.1 hlen.out p.f0 p.f1 A9 c9 p.f2 HN3.out.2.2.2.2 HN3.out.2.2.2.1 (Nat.le_of_lt HI.out.2.2.1)).mono ?_; rintro e w4 ⟨rfl, v4, hN, hM⟩; have HN4 := Lib.hid (And.intro hN (HN3.out.2.1.trans hM.1)); clear hN hM HN3)
        | go_in)
    exact ⟨⟨k + 1, v4, hlt, rfl, by rw [← HX.out]; exact HN4.out.1, HN4.out.2⟩, by simp [intOf]; omega⟩
    obtain rfl : k = l.length := by omega
    rw [List.take_length] at hN
    have HE0 := Lib.hid (And.intro hN hB)
    have hge' := eq_false (show ¬ (l.length : Int) < l.length by omega)
    clear hge hk hN hB
    go_wp2
    go_loopw [8] (fun i wr => ∃ (j : Nat) (v : Value), j ≤ l.length ∧ i = .int .i64 j ∧ NetIn wr w0.heap.size N M v (l.take (l.length - j)) (.map []) 0 ∧ Below w0.heap.size w0 wr)
      (fun i _ => l.length - (intOf i).toNat)
    case atStart => exact ⟨0, _, Nat.zero_le _, rfl, by rw [Nat.sub_zero, List.take_length]; exact HE0.out.1, HE0.out.2⟩
    case round =>
      obtain ⟨j, v, hj, rfl, hN, hB⟩ := hrel
      clear HE0
      generalize wr = wj at *
      rcases Nat.lt_or_ge j l.length with hlt | hge
      case' inl =>
        obtain ⟨r, hr⟩ : ∃ r : Nat, l.length = j + 1 + r := ⟨l.length - (j + 1), by omega⟩
        have hbodyp := at_T28 HC.out.1 (j : Int) (by omega) (by omega)
        have hbody := at_T28 HC.out.1 (r : Int) (by omega) (by omega)
        have hx : l[r]? = some (rd_T28 l r) := by unfold rd_T28; rw [List.getD_eq_getElem?_getD, Int.toNat_natCast, List.getElem?_eq_getElem (by omega)]; rfl
        have hfine := HG.out _ (List.mem_of_getElem? hx)
        have hlr : (l.take (l.length - j)).length = r + 1 := by rw [List.length_take]; omega
        have HX := Lib.hid (show (l.take (l.length - j)).getD r z28 = rd_T28 l r by rw [List.getD_eq_getElem?_getD, List.getElem?_take, if_pos (by omega), hx]; rfl)
        generalize rd_T28 l j = p at *
        generalize rd_T28 l r = q at *
        obtain ⟨ad, A9, c9, rfl, y0, y1, y2, -, -⟩ := hbodyp
        obtain ⟨ad', A8, c8, had, x0, x1, x2, hl8, hi0⟩ := hbody
        obtain rfl := Option.some.inj had
        rw [Int.toNat_natCast] at x0 x1 x2 y0 y1 y2
        have hlx := fun {v : Value} (a : Addr) (h : w0.cell? a = some v) => (hB.cell (World.block_lt_of_cell? w0 a h)).trans h
        replace x0 := hlx _ x0
        replace x1 := hlx _ x1
        replace x2 := hlx _ x2
        replace y0 := hlx _ y0
        replace y1 := hlx _ y1
        replace y2 := hlx _ y2
        have hi8 := Kd.C_below hi0 hB
        have HI0 := Lib.hid hi0
        clear hlx hi0 had
        have HY := Lib.hid (show cutOut (l.take (l.length - j)) r = l.take (l.length - (j + 1)) by
          unfold cutOut
          rw [List.drop_eq_nil_of_le (by omega), List.append_nil, List.take_take]
          congr 1; omega)
        have hlen : Hid (r < (l.take (l.length - j)).length ∧ (l.take (l.length - j)).length ≤ 256) := by show _ ∧ _; omega
        have hat : Hid (atF (l.take (l.length - j)).length (-1) = (r : Nat)) := by show _ = _; rw [hlr]; unfold atF; rw [if_neg (by omega)]; exact neg_one_mod r
        have e1 : IntKind.i64.wrap (IntKind.i64.wrap ((l.length : Int) - 1) - j) = (r : Int) := by
          have w1 : wrap64 ((l.length : Int) - 1) = (l.length : Int) - 1 := by unfold wrap64; omega
          have w2 : wrap64 ((l.length : Int) - 1 - j) = (l.length : Int) - 1 - j := by unfold wrap64; omega
          rw [i64_wrap, i64_wrap, w1, w2]
          omega
        have e2 := eq_true (show (r : Int) < l.length by omega)
        have ha0 := cellA (.cells #[.int .i64 p.f0, .int .i64 p.f1, .slice A9 p.f2.length c9] 28) x0
        have ha1 := cellA (.cells #[.int .i64 p.f0, .int .i64 p.f1, .slice A9 p.f2.length c9] 28) x1
        have ha2 := cellA (.cells #[.int .i64 p.f0, .int .i64 p.f1, .slice A9 p.f2.length c9] 28) x2
        have ya0 := cellA (.cells #[.int .i64 0, .int .i64 0, .slice none 0 0] 28) y0
        have ya1 := cellA (.cells #[.int .i64 0, .int .i64 0, .slice none 0 0] 28) y1
        have ya2 := cellA (.cells #[.int .i64 0, .int .i64 0, .slice none 0 0] 28) y2
        have HI := Lib.hid (And.intro hi8 (And.intro hl8 (And.intro hfine (And.intro ((hN.below (alloc_below _ (.cells #[.int .i64 q.f0, .int .i64 q.f1, .slice A8 q.f2.length c8] 28))).below ((Below.refl _ _).drew.drew)) ((below_step hB (alloc_below _ (.cells #[.int .i64 q.f0, .int .i64 q.f1, .slice A8 q.f2.length c8] 28))).drew.drew)))))
        have hcell := Lib.hid (blk_drew (blk_drew (heap_alloc_new wj (.cells #[.int .i64 q.f0, .int .i64 q.f1, .slice A8 q.f2.length c8] 28))))
        have hd := eq_true (show (j : Int) < l.length by omega)
        have HR := Lib.hid hr
        clear hi8 hl8 hfine hN hB hx hr hlr
        go_wp2
        go_region_law (first | fail)
        all_goals go_wp2
        all_goals go_region_law (first | fail)
        all_goals
          go_wp2_with (first
            | (go_at_call 14; refine (took_free HI.out.2.2.2.1 (-1) r hlen.out.1 hat.out hlen.out.2 q HX.out HI.out.2.2.1).mono ?_; rintro e w5 ⟨A5, c5, rfl, hR, v5, hN, hM⟩; have HE5 := Lib.hid (And.intro (hN.below (alloc_below _ (.cells #[.int .i64 q.f0, .int .i64 q.f1, .slice A5 q.f2.length c5] 28))) (And.intro (below_step (HI.out.2.2.2.2.trans hM.1) (alloc_below _ (.cells #[.int .i64 q.f0, .int .i64 q.f1, .slice A5 q.f2.length c5] 28))) (And.intro (Held.new hR) (blk_alloc ((hM.2 _ (blk_lt hcell.out) (blk_ne hcell.out HI.out.2.2.2.1.cell (by decide))).trans hcell.out) (.cells #[.int .i64 q.f0, .int .i64 q.f1, .slice A5 q.f2.length c5] 28))))); clear hR hN hM; have qd := blk_cell HE5.out.2.2.1.1; have qc := blk_cell HE5.out.2.2.2)
            | (go_at_call 15; refine (same15 q.f0 q.f1 A5 c5 A8 c8 q.f2 _ (Kd.R_reads' HE5.out.2.2.1.2).2.2 (Kd.R_reads' HE5.out.2.2.1.2).2.1 (Kd.C_below HI0.out HE5.out.2.1) HI.out.2.1 HI.out.2.2.1.2.2).mono ?_; rintro e w6 ⟨rfl, hB⟩; have HE6 := Lib.hid (And.intro (HE5.out.1.below hB) (below_step HE5.out.2.1 hB)); clear hB HE5 qc qd)
            | go_in)
        all_goals
          exact ⟨⟨j + 1, _, hlt, rfl, by rw [← HY.out]; exact HE6.out.1, HE6.out.2⟩, by simp [intOf]; omega⟩
      obtain rfl : j = l.length := by omega
      rw [Nat.sub_self, List.take_zero] at hN
      have HE0 := Lib.hid (And.intro hN hB)
      have hd := eq_false (show ¬ (l.length : Int) < l.length by omega)
      clear hge hj hN hB
      go_wp2_with (first
        | (go_at_call 14; refine (took_none HE0.out.1 0).mono ?_; rintro e w8 ⟨rfl, hB⟩; have HE1 := Lib.hid (And.intro ((HE0.out.1.below hB).below (alloc_below _ (.cells #[.int .i64 0, .int .i64 0, .slice none 0 0] 28))) (below_step (below_step HE0.out.2 hB) (alloc_below _ (.cells #[.int .i64 0, .int .i64 0, .slice none 0 0] 28)))); clear hB HE0)
        | (go_at_call 19; refine (drop_none HE1.out.1 0).mono ?_; rintro e w9 ⟨rfl, rfl⟩)
        | (go_at_call 20; refine (copy_none HE1.out.1 0).mono ?_; rintro e w9 ⟨rfl, rfl⟩)
        | (go_at_call 16; refine (count_calls HE1.out.1).mono ?_; rintro e w9 ⟨rfl, rfl⟩; rw [show (([] : List S28).length : Int) = 0 from rfl])
        | go_in)
      go_ret
      exact ⟨rfl, HE1.out.2⟩

theorem order_calls {w0 : World} (A : Option Addr) (c : Nat) (l : List S28) (hl : l.length ≤ c) (hC : Kd.C k28 w0 A l.length l) (hg : ∀ p ∈ l, Fine28 p) (_hz : l.length ≤ 140737488355328) (b : Bool) :
    Calls Try.prog 5 #[.slice A l.length c, .bool b] w0 fun e w' => e = .returned (.bool true) ∧ Below w0.heap.size w0 w' := by
  by_cases h : 256 < l.length
  · exact order_many A c l b h
  · cases b
    · exact order_front A c l hl hC hg (by omega)
    · exact order_back A c l hl hC hg (by omega)
end Go.Proofs.Ytalaghkpbdaonaa

/- NetCuts: the walk. No conditions. -/
import Derived.Test.YtalaghkpbdaonaaCutsA
import Derived.Test.YtalaghkpbdaonaaCounts
namespace Go.Proofs.Ytalaghkpbdaonaa
open Go Go.RowKit H Go.Proofs.YtalaghkpbdaonaaW.PrintWords Strict

theorem NetIn.mlt {w : World} {base N M : Nat} {v : Value} {ps : List S28} {D : DataW Unit} {m : Nat} (h : NetIn w base N M v ps D m) : M < w.heap.size := by
  obtain ⟨_, _, _, _, es, clock, hm, _⟩ := h
  exact blk_lt hm

theorem NetIn.map_ne {w : World} {base N M g : Nat} {v : Value} {ps : List S28} {D : DataW Unit} {m : Nat} {cs : Array Value} {t : TypeId} {fr : Nat × Nat} (h : NetIn w base N M v ps D m) (hg : w.heap[g]? = some (.cells cs t fr)) : M ≠ g := by
  obtain ⟨_, _, _, _, es, clock, hm, _⟩ := h
  rintro rfl
  rw [hm] at hg
  injection hg with hg
  cases hg

theorem put3 {w0 w : World} {g b base : Nat} {cells : Array Value} {v : Value} {xs : List Int} (hR : (Kd.int .u8).R 5 w base (fun _ => True) v xs) (hg : w.heap[g]? = some (.cells cells 28 (0, 0))) (hB : Below b w0 w) (hb : b ≤ g) (a1 a2 a3 : Value) :
    (Kd.int .u8).R 5 (((w.setCell ⟨g, 0, none⟩ a1).setCell ⟨g, 1, none⟩ a2).setCell ⟨g, 2, none⟩ a3) base (fun _ => True) v xs ∧ Below b w0 (((w.setCell ⟨g, 0, none⟩ a1).setCell ⟨g, 1, none⟩ a2).setCell ⟨g, 2, none⟩ a3) := by
  refine ⟨R_keepBut hR hg (fun k _ _ hne => ?_), ((hB.setCell hb a1).setCell hb a2).setCell hb a3⟩
  rw [Below.heap_setCell _ _ _ _ hne, Below.heap_setCell _ _ _ _ hne, Below.heap_setCell _ _ _ _ hne]

/-- What the loop of Cuts keeps. -/
def CutRel (wA : World) (N M : Nat) (l : List (Int × Int)) (x y : Int) (t i : Value) (wr : World) : Prop :=
  ∃ (k m : Nat) (D : DataW Unit), k ≤ l.length ∧ t = .bool (cutAll (l.take k) x y) ∧ i = .int .i64 k ∧ NetIn wr wA.heap.size N M (.slice none 0 0) [] D m ∧ m ≤ k ∧ Maps.IsMap D ∧ isCut D x y = cutAll (l.take k) x y ∧ Below wA.heap.size wA wr

theorem CutRel.step {wA w' : World} {N M k m : Nat} {l : List (Int × Int)} {x y : Int} {D : DataW Unit} {t : Bool} (hk : k < l.length) (hz : l.length ≤ 140737488355328) (ht : t = cutAll (l.take (k + 1)) x y) (hN : NetIn w' wA.heap.size N M (.slice none 0 0) [] D m) (hm : m ≤ k + 1) (hD : Maps.IsMap D) (hc : isCut D x y = cutAll (l.take (k + 1)) x y) (hB : Below wA.heap.size wA w') :
    CutRel wA N M l x y (.bool t) (.int .i64 (wrap64 ((k : Int) + 1))) w' ∧ l.length - (intOf (.int .i64 (wrap64 ((k : Int) + 1)))).toNat < l.length - (intOf (.int .i64 (k : Int))).toNat := by
  have e : wrap64 ((k : Int) + 1) = ((k + 1 : Nat) : Int) := by unfold wrap64; omega
  rw [e]
  refine ⟨⟨k + 1, m, D, hk, by rw [ht], rfl, hN, hm, hD, hc, hB⟩, ?_⟩
  simp only [intOf]
  omega

set_option maxRecDepth 100000 in
set_option maxHeartbeats 4000000 in
theorem cuts_calls {w0 : World} (A : Option Addr) (c : Nat) (l : List (Int × Int)) (hl : l.length ≤ c) (hC : Kd.C k37 w0 A l.length l) (hg : ∀ p ∈ l, WfP p) (hz : l.length ≤ 140737488355328)
    (p : S28) (A1 : Option Addr) (c1 : Nat) (hl1 : p.f2.length ≤ c1) (hC1 : Kd.C (Kd.int .u8) w0 A1 p.f2.length p.f2) (hg1 : Fine28 p) :
    Calls Try.prog 4 #[.slice A l.length c, .agg #[.int .i64 p.f0, .int .i64 p.f1, .slice A1 p.f2.length c1]] w0 fun e w' => e = .returned (.bool true) ∧ Below w0.heap.size w0 w' := by
  have HC := Lib.hid (And.intro hC (And.intro hg (And.intro hl (And.intro hC1 (And.intro hl1 hg1)))))
  have HZ := Lib.hid hz
  clear hC hg hl hC1 hl1 hg1 hz
  go_enter Try.func4, Try.ntmps4
  go_wp2_with (first
    | (go_at_call 9; refine (new_calls _).mono ?_; rintro e w1 ⟨N, M, rfl, hN, hB⟩; have HN1 := Lib.hid (And.intro hN hB); clear hN hB)
    | (go_at_call 10; refine (awake_walk _).mono ?_; rintro e w2 ⟨rfl, hB⟩; have HN2 := Lib.hid (And.intro (HN1.out.1.below hB) (below_step HN1.out.2 hB)); clear hB HN1)
    | go_in)
  go_loopw [6, 20] (fun t i wr => CutRel (w0.alloc (.cells #[.int .i64 p.f0, .int .i64 p.f1, .slice A1 p.f2.length c1] 28)) N M l p.f0 p.f1 t i wr)
    (fun _ i _ => l.length - (intOf i).toNat)
  case atStart => exact ⟨0, 0, _, Nat.zero_le _, rfl, rfl, HN2.out.1, Nat.le_refl _, Maps.isMap_empty, rfl, HN2.out.2⟩
  case round =>
    obtain ⟨k, m, D, hk, rfl, rfl, hN, hm, hD, hcut, hB⟩ := hrel
    clear HN2
    generalize wr = wk at *
    have hcell := blk_below (heap_alloc_new w0 (.cells #[.int .i64 p.f0, .int .i64 p.f1, .slice A1 p.f2.length c1] 28)) hB
    have HB0 : Hid (Below w0.heap.size w0 wk) := below_step (alloc_below w0 _) hB
    rcases Nat.lt_or_ge k l.length with hlt | hge
    case' inl =>
      have hx : l[k]? = some (rd_P l k) := by unfold rd_P; rw [List.getD_eq_getElem?_getD, List.getElem?_eq_getElem hlt]; rfl
      have hwf := HC.out.2.1 _ (List.mem_of_getElem? hx)
      have hnext := cutAll_take hx p.f0 p.f1
      obtain ⟨ad, rfl, x0, x1⟩ := at_P HC.out.1 k hlt
      have hlx := fun {v : Value} (a : Addr) (h : w0.cell? a = some v) => (HB0.out.cell (World.block_lt_of_cell? w0 a h)).trans h
      replace x0 := hlx _ x0
      replace x1 := hlx _ x1
      generalize rd_P l k = q at *
      obtain ⟨a, b⟩ := q
      have hHX := And.intro hnext hx
      simp only at hHX
      have HX := Lib.hid hHX
      clear hHX
      have hd : (k : Int) < l.length := by omega
      generalize hcu : cutAll (l.take k) p.f0 p.f1 = cu at *
      have HI := Lib.hid (And.intro hN (And.intro hB (And.intro hm (And.intro hD (And.intro hcut (And.intro hcu hwf))))))
      have HM := Lib.hid (And.intro hcell (And.intro hN.geM hN.mlt))
      clear hlx hN hB hm hD hcut hcu hwf hnext hx hcell
      rcases Decidable.em (a = b) with hab | hab
      · subst hab
        cases cu
        all_goals
          go_wp2_with (first
            | (go_at_call 17; refine (cut_same N a).mono ?_; rintro e w3 ⟨rfl, rfl⟩)
            | go_in)
          exact CutRel.step hlt HZ.out (by have := HX.out.1; simpa using this.symm) (HI.out.1.below (alloc_below _ _)) (Nat.le_succ_of_le HI.out.2.2.1) HI.out.2.2.2.1 (HI.out.2.2.2.2.1.trans (by have := HX.out.1; simpa using this.symm)) (below_step HI.out.2.1 (alloc_below _ _))
      · have hnab := eq_false hab
        have hbab := show (a == b) = false by simpa using hab
        have hbnab := show (a != b) = true by simpa using hab
        have HV := Lib.hid (And.intro (isCut_put HI.out.2.2.2.1 (x := p.f0) (y := p.f1) HI.out.2.2.2.2.2.2.1 HI.out.2.2.2.2.2.2.2 HC.out.2.2.2.2.2.1 HC.out.2.2.2.2.2.2.1) hbnab)
        have E1 := eql37 a b p.f0 p.f1
        have E2 := eql37 a b p.f1 p.f0
        have hY : Hid (samePair a b p.f0 p.f1 = ((a == p.f0 && b == p.f1) || (a == p.f1 && b == p.f0))) := rfl
        generalize he1 : (a == p.f0 && b == p.f1) = e1 at *
        generalize he2 : (a == p.f1 && b == p.f0) = e2 at *
        have hG := noGuard37
        clear he1 he2
        cases cu <;> cases e1 <;> cases e2
        all_goals
          go_wp2_with (first
            | (go_at_call 17; refine (cut_calls (HI.out.1.below (alloc_below _ (.cells #[.int .i64 a, .int .i64 b] 37))) (by have := HI.out.2.2.1; have := HZ.out; unfold maxLen; omega) a b hab HI.out.2.2.2.2.2.2.1 HI.out.2.2.2.2.2.2.2).mono ?_; rintro e w3 ⟨rfl, hN, hM⟩; have HE1 := Lib.hid (And.intro hN (HI.out.2.1.trans (((alloc_below wk (.cells #[.int .i64 a, .int .i64 b] 37)).mono HI.out.2.1.size).trans hM.1))); have hq := (hM.2 _ (by simp) (by have := HM.out.2.2; omega)).trans (heap_alloc_new wk (.cells #[.int .i64 a, .int .i64 b] 37)); have hp := (hM.2 _ (by have := blk_lt HM.out.1; simp; omega) (by have := HM.out.2.1; simp at this; omega)).trans (blk_alloc HM.out.1 (.cells #[.int .i64 a, .int .i64 b] 37)); have qq := blk_cell hq; have qp := blk_cell hp; clear hN hM hq hp)
            | go_in)
          exact CutRel.step hlt HZ.out (by rw [HX.out.1, HV.out.2, hY.out]; rfl) HE1.out.1 (Nat.succ_le_succ HI.out.2.2.1) (HI.out.2.2.2.1.put _ _) (by rw [HX.out.1, HV.out.1, HV.out.2, HI.out.2.2.2.2.1, hY.out]; rfl) HE1.out.2
    obtain rfl : k = l.length := by omega
    have hcd := eq_false (show ¬ (l.length : Int) < l.length by omega)
    rw [List.take_length] at hcut ⊢
    have HE0 := Lib.hid (And.intro hN hB)
    have qp := blk_cell hcell
    generalize hcu : cutAll l p.f0 p.f1 = cu at *
    have HCU := Lib.hid hcut
    clear hN hB hm hD hcut hcu hcell HB0 hk hge
    cases cu
    · go_wp2_with (first
        | (go_at_call 12; refine (own12 p.f0 p.f1 A1 c1 p.f2 _ (Kd.C_below HC.out.2.2.2.1 (below_step (alloc_below w0 (.cells #[.int .i64 p.f0, .int .i64 p.f1, .slice A1 p.f2.length c1] 28)) HE0.out.2)) HC.out.2.2.2.2.1 HC.out.2.2.2.2.2.2.2).mono ?_; rintro e w3 ⟨v3, rfl, hR, hB⟩; obtain ⟨A9, c9, rfl⟩ := Kd.R_slice hR; have HE1 := Lib.hid (And.intro (HE0.out.1.below hB) (And.intro (below_step HE0.out.2 hB) (Kd.R_reads' hR))); clear hR hB HE0 qp)
        | (go_at_call 11; refine (send_room HE1.out.1 (by simp) p.f0 p.f1 A9 c9 p.f2 HE1.out.2.2.2.2 HE1.out.2.2.2.1 (Nat.le_of_lt HC.out.2.2.2.2.2.2.2)).mono ?_; rintro e w4 ⟨rfl, v4, hN, hM⟩; have HE2 := Lib.hid (And.intro hN (HE1.out.2.1.trans hM.1)); clear hN hM HE1)
        | (go_at_call 14; refine (took_one HE2.out.1 HC.out.2.2.2.2.2.1 HC.out.2.2.2.2.2.2.1 _ HCU.out).mono ?_; simp only [cond_true, cond_false, Bool.not_true, Bool.not_false]; rintro e w5 ⟨A5, c5, rfl, hR, v5, hN, hM⟩; have HE3 := Lib.hid (And.intro (hN.below (alloc_below _ (.cells #[.int .i64 p.f0, .int .i64 p.f1, .slice A5 p.f2.length c5] 28))) (And.intro (below_step (HE2.out.2.trans hM.1) (alloc_below _ (.cells #[.int .i64 p.f0, .int .i64 p.f1, .slice A5 p.f2.length c5] 28))) (And.intro (heap_alloc_new w5 (.cells #[.int .i64 p.f0, .int .i64 p.f1, .slice A5 p.f2.length c5] 28)) (Kd.R_alloc hR (.cells #[.int .i64 p.f0, .int .i64 p.f1, .slice A5 p.f2.length c5] 28))))); have HTS := Lib.hid (show w0.heap.size < w5.heap.size by have := (HE2.out.2.trans hM.1).size; simp at this; omega); have HVL := Lib.hid (fun g (hg : v5.ownBlock = some g) => hN.vlt hg); clear hR hN hM HE2; have qq := blk_cell HE3.out.2.2.1; have qp := blk_cell (blk_below (heap_alloc_new w0 (.cells #[.int .i64 p.f0, .int .i64 p.f1, .slice A1 p.f2.length c1] 28)) HE3.out.2.1))
        | (go_at_call 15; refine (same15 p.f0 p.f1 A1 c1 A5 c5 p.f2 _ (Kd.C_below HC.out.2.2.2.1 (below_step (alloc_below w0 (.cells #[.int .i64 p.f0, .int .i64 p.f1, .slice A1 p.f2.length c1] 28)) HE3.out.2.1)) HC.out.2.2.2.2.1 (Kd.R_reads' HE3.out.2.2.2).2.2 (Kd.R_reads' HE3.out.2.2.2).2.1 HC.out.2.2.2.2.2.2.2).mono ?_; rintro e w6 ⟨rfl, hB⟩; have HE4 := Lib.hid (And.intro (HE3.out.1.below hB) (And.intro (below_step HE3.out.2.1 hB) (blk_below HE3.out.2.2.1 hB))); clear hB HE3 qq qp)
        | (go_at_call 16; refine (count_calls HE4.out.1).mono ?_; rintro e w7 ⟨rfl, rfl⟩; rw [show (([] : List S28).length : Int) = 0 from rfl])
        | (go_at_call 18; refine (heal_calls HE4.out.1).mono ?_; rintro e w8 ⟨rfl, hN, hM⟩; have HT := Lib.hid ((hM.2 _ (blk_lt HE4.out.2.2) (fun e => absurd (HE4.out.1.map_ne HE4.out.2.2) (fun h => h e.symm))).trans HE4.out.2.2); have HE5 := Lib.hid (And.intro hN (HE4.out.2.1.trans hM.1)); clear hN hM HE4; have qp := blk_cell (blk_below (heap_alloc_new w0 (.cells #[.int .i64 p.f0, .int .i64 p.f1, .slice A1 p.f2.length c1] 28)) HE5.out.2))
        | (go_at_call 12; refine (own12 p.f0 p.f1 A1 c1 p.f2 _ (Kd.C_below HC.out.2.2.2.1 (below_step (alloc_below w0 (.cells #[.int .i64 p.f0, .int .i64 p.f1, .slice A1 p.f2.length c1] 28)) HE5.out.2)) HC.out.2.2.2.2.1 HC.out.2.2.2.2.2.2.2).mono ?_; rintro e w9 ⟨v3, rfl, hR, hB⟩; obtain ⟨A19, c19, rfl⟩ := Kd.R_slice hR; have HE6 := Lib.hid (And.intro (HE5.out.1.below hB) (And.intro (below_step HE5.out.2 hB) (And.intro (blk_below HT.out hB) (Kd.R_reads' hR)))); clear hR hB HE5 qp)
        | (go_at_call 11; refine (send_room HE6.out.1 (by simp) p.f0 p.f1 A19 c19 p.f2 HE6.out.2.2.2.2.2 HE6.out.2.2.2.2.1 (Nat.le_of_lt HC.out.2.2.2.2.2.2.2)).mono ?_; rintro e w10 ⟨rfl, v14, hN, hM⟩; have HE7 := Lib.hid (And.intro hN (And.intro (HE6.out.2.1.trans hM.1) ((hM.2 _ (blk_lt HE6.out.2.2.1) (blk_ne HE6.out.2.2.1 HE6.out.1.cell (by decide)) (fun e => absurd (HVL.out _ e.symm) (Nat.lt_irrefl _))).trans HE6.out.2.2.1))); clear hN hM HE6)
        | (go_at_call 14; refine (took_one HE7.out.1 HC.out.2.2.2.2.2.1 HC.out.2.2.2.2.2.2.1 false rfl).mono ?_; simp only [cond_true, cond_false, Bool.not_true, Bool.not_false]; rintro e w11 ⟨A15, c15, rfl, hR, v15, hN, hM⟩; have hg := (hM.2 _ (blk_lt HE7.out.2.2) (blk_ne HE7.out.2.2 HE7.out.1.cell (by decide))).trans HE7.out.2.2; have hb := (below_step (alloc_below w0 (.cells #[.int .i64 p.f0, .int .i64 p.f1, .slice A1 p.f2.length c1] 28)) (HE7.out.2.1.trans hM.1)); have HE8 := Lib.hid (And.intro (fun a1 a2 a3 => put3 hR hg hb (Nat.le_of_lt HTS.out) a1 a2 a3) hb); have qp := blk_cell (blk_below (heap_alloc_new w0 (.cells #[.int .i64 p.f0, .int .i64 p.f1, .slice A1 p.f2.length c1] 28)) (HE7.out.2.1.trans hM.1)); have qt := blk_cell hg; have ft := blk_frozen hg; have n1 := eq_false (Nat.ne_of_lt HTS.out); have n2 := eq_false (Nat.ne_of_gt HTS.out); clear hR hN hM HE7 hg hb)
        | (go_at_call 15; refine (same15 p.f0 p.f1 A1 c1 A15 c15 p.f2 _ (Kd.C_below HC.out.2.2.2.1 (HE8.out.1 (.int .i64 p.f0) (.int .i64 p.f1) (.slice A15 p.f2.length c15)).2) HC.out.2.2.2.2.1 (Kd.R_reads' (HE8.out.1 (.int .i64 p.f0) (.int .i64 p.f1) (.slice A15 p.f2.length c15)).1).2.2 (Kd.R_reads' (HE8.out.1 (.int .i64 p.f0) (.int .i64 p.f1) (.slice A15 p.f2.length c15)).1).2.1 HC.out.2.2.2.2.2.2.2).mono ?_; rintro e w12 ⟨rfl, hB⟩; have HE9 := Lib.hid (below_step (HE8.out.1 (.int .i64 p.f0) (.int .i64 p.f1) (.slice A15 p.f2.length c15)).2 hB); clear hB HE8 qp qt ft n1 n2)
        | go_in)
      go_ret
      exact ⟨rfl, HE9.out⟩
    · go_wp2_with (first
        | (go_at_call 12; refine (own12 p.f0 p.f1 A1 c1 p.f2 _ (Kd.C_below HC.out.2.2.2.1 (below_step (alloc_below w0 (.cells #[.int .i64 p.f0, .int .i64 p.f1, .slice A1 p.f2.length c1] 28)) HE0.out.2)) HC.out.2.2.2.2.1 HC.out.2.2.2.2.2.2.2).mono ?_; rintro e w3 ⟨v3, rfl, hR, hB⟩; obtain ⟨A9, c9, rfl⟩ := Kd.R_slice hR; have HE1 := Lib.hid (And.intro (HE0.out.1.below hB) (And.intro (below_step HE0.out.2 hB) (Kd.R_reads' hR))); clear hR hB HE0 qp)
        | (go_at_call 11; refine (send_room HE1.out.1 (by simp) p.f0 p.f1 A9 c9 p.f2 HE1.out.2.2.2.2 HE1.out.2.2.2.1 (Nat.le_of_lt HC.out.2.2.2.2.2.2.2)).mono ?_; rintro e w4 ⟨rfl, v4, hN, hM⟩; have HE2 := Lib.hid (And.intro hN (HE1.out.2.1.trans hM.1)); clear hN hM HE1)
        | (go_at_call 14; refine (took_one HE2.out.1 HC.out.2.2.2.2.2.1 HC.out.2.2.2.2.2.2.1 _ HCU.out).mono ?_; simp only [cond_true, cond_false, Bool.not_true, Bool.not_false]; rintro e w5 ⟨A5, c5, rfl, hR, v5, hN, hM⟩; have HE3 := Lib.hid (And.intro (hN.below (alloc_below _ (.cells #[.int .i64 0, .int .i64 0, .slice none 0 0] 28))) (And.intro (below_step (HE2.out.2.trans hM.1) (alloc_below _ (.cells #[.int .i64 0, .int .i64 0, .slice none 0 0] 28))) (And.intro (heap_alloc_new w5 (.cells #[.int .i64 0, .int .i64 0, .slice none 0 0] 28)) (Kd.R_alloc hR (.cells #[.int .i64 0, .int .i64 0, .slice none 0 0] 28))))); have HTS := Lib.hid (show w0.heap.size < w5.heap.size by have := (HE2.out.2.trans hM.1).size; simp at this; omega); have HVL := Lib.hid (fun g (hg : v5.ownBlock = some g) => hN.vlt hg); clear hR hN hM HE2; have qq := blk_cell HE3.out.2.2.1; have qp := blk_cell (blk_below (heap_alloc_new w0 (.cells #[.int .i64 p.f0, .int .i64 p.f1, .slice A1 p.f2.length c1] 28)) HE3.out.2.1))
        | (go_at_call 16; refine (count_calls HE3.out.1).mono ?_; rintro e w7 ⟨rfl, rfl⟩; rw [show (([] : List S28).length : Int) = 0 from rfl])
        | (go_at_call 18; refine (heal_calls HE3.out.1).mono ?_; rintro e w8 ⟨rfl, hN, hM⟩; have HT := Lib.hid ((hM.2 _ (blk_lt HE3.out.2.2.1) (fun e => absurd (HE3.out.1.map_ne HE3.out.2.2.1) (fun h => h e.symm))).trans HE3.out.2.2.1); have HE5 := Lib.hid (And.intro hN (HE3.out.2.1.trans hM.1)); clear hN hM HE3 qq qp; have qp := blk_cell (blk_below (heap_alloc_new w0 (.cells #[.int .i64 p.f0, .int .i64 p.f1, .slice A1 p.f2.length c1] 28)) HE5.out.2))
        | (go_at_call 12; refine (own12 p.f0 p.f1 A1 c1 p.f2 _ (Kd.C_below HC.out.2.2.2.1 (below_step (alloc_below w0 (.cells #[.int .i64 p.f0, .int .i64 p.f1, .slice A1 p.f2.length c1] 28)) HE5.out.2)) HC.out.2.2.2.2.1 HC.out.2.2.2.2.2.2.2).mono ?_; rintro e w9 ⟨v3, rfl, hR, hB⟩; obtain ⟨A19, c19, rfl⟩ := Kd.R_slice hR; have HE6 := Lib.hid (And.intro (HE5.out.1.below hB) (And.intro (below_step HE5.out.2 hB) (And.intro (blk_below HT.out hB) (Kd.R_reads' hR)))); clear hR hB HE5 qp)
        | (go_at_call 11; refine (send_room HE6.out.1 (by simp) p.f0 p.f1 A19 c19 p.f2 HE6.out.2.2.2.2.2 HE6.out.2.2.2.2.1 (Nat.le_of_lt HC.out.2.2.2.2.2.2.2)).mono ?_; rintro e w10 ⟨rfl, v14, hN, hM⟩; have HE7 := Lib.hid (And.intro hN (And.intro (HE6.out.2.1.trans hM.1) ((hM.2 _ (blk_lt HE6.out.2.2.1) (blk_ne HE6.out.2.2.1 HE6.out.1.cell (by decide)) (fun e => absurd (HVL.out _ e.symm) (Nat.lt_irrefl _))).trans HE6.out.2.2.1))); clear hN hM HE6)
        | (go_at_call 14; refine (took_one HE7.out.1 HC.out.2.2.2.2.2.1 HC.out.2.2.2.2.2.2.1 false rfl).mono ?_; simp only [cond_true, cond_false, Bool.not_true, Bool.not_false]; rintro e w11 ⟨A15, c15, rfl, hR, v15, hN, hM⟩; have hg := (hM.2 _ (blk_lt HE7.out.2.2) (blk_ne HE7.out.2.2 HE7.out.1.cell (by decide))).trans HE7.out.2.2; have hb := (below_step (alloc_below w0 (.cells #[.int .i64 p.f0, .int .i64 p.f1, .slice A1 p.f2.length c1] 28)) (HE7.out.2.1.trans hM.1)); have HE8 := Lib.hid (And.intro (fun a1 a2 a3 => put3 hR hg hb (Nat.le_of_lt HTS.out) a1 a2 a3) hb); have qp := blk_cell (blk_below (heap_alloc_new w0 (.cells #[.int .i64 p.f0, .int .i64 p.f1, .slice A1 p.f2.length c1] 28)) (HE7.out.2.1.trans hM.1)); have qt := blk_cell hg; have ft := blk_frozen hg; have n1 := eq_false (Nat.ne_of_lt HTS.out); have n2 := eq_false (Nat.ne_of_gt HTS.out); clear hR hN hM HE7 hg hb)
        | (go_at_call 15; refine (same15 p.f0 p.f1 A1 c1 A15 c15 p.f2 _ (Kd.C_below HC.out.2.2.2.1 (HE8.out.1 (.int .i64 p.f0) (.int .i64 p.f1) (.slice A15 p.f2.length c15)).2) HC.out.2.2.2.2.1 (Kd.R_reads' (HE8.out.1 (.int .i64 p.f0) (.int .i64 p.f1) (.slice A15 p.f2.length c15)).1).2.2 (Kd.R_reads' (HE8.out.1 (.int .i64 p.f0) (.int .i64 p.f1) (.slice A15 p.f2.length c15)).1).2.1 HC.out.2.2.2.2.2.2.2).mono ?_; rintro e w12 ⟨rfl, hB⟩; have HE9 := Lib.hid (below_step (HE8.out.1 (.int .i64 p.f0) (.int .i64 p.f1) (.slice A15 p.f2.length c15)).2 hB); clear hB HE8 qp qt ft n1 n2)
        | go_in)
      go_ret
      exact ⟨rfl, HE9.out⟩
end Go.Proofs.Ytalaghkpbdaonaa

/- A packet taken out of the middle of the list: what it computes. No conditions. -/
import Derived.Test.YtalaghkpbdaonaaNetE
namespace Go.Proofs.Ytalaghkpbdaonaa
open Go Go.RowKit H Go.Proofs.YtalaghkpbdaonaaW.PrintWords

theorem rep_ones {w : World} {base : Nat} {ps : List S28} {cs : List Value} (h : Reps (k28.M w base (fun _ => True)) 3 ps cs) : ∀ u ∈ cs, u.oneCell' = true := by
  intro u hu
  obtain ⟨j, hj, rfl⟩ := List.getElem_of_mem hu
  have hl := h.1
  have h1 : j / 3 < ps.length := by omega
  have h2 := h.2 (j / 3) (ps[j / 3]) (List.getElem?_eq_getElem h1)
  refine k28.K_one (k28.K_of_M h2) _ (List.mem_of_getElem? (i := j % 3) ?_)
  rw [List.getElem?_take, if_pos (by omega), List.getElem?_drop, show j / 3 * 3 + j % 3 = j by omega, List.getElem?_eq_getElem hj]

theorem add_at (g o j : Nat) : (⟨g, o, none⟩ : Addr).add j = ⟨g, o + j, none⟩ := by unfold Addr.add; split <;> simp_all

theorem mid_end {w w5 : World} {base N M : Nat} {v v5 a1 a2 a3 : Value} {ps : List S28} {D : DataW Unit} {m k n2 : Nat} {Z X : Obj} {cs : List Value} (h : NetIn w base N M v ps D m) (hrep : Reps (k28.M w base (fun _ => True)) 3 ps cs) (hk : k + 1 < ps.length) (hn2 : n2 = ps.length - (k + 1))
    (hown : w5.ownsRow ((w.alloc Z).alloc X).drew.heap.size 28 3 v5 (k + n2) (cs.take (k * 3) ++ cs.drop ((k + 1) * 3))) (hg : ((w.alloc Z).alloc X).drew.grownBy w5 none) :
    let W := (((w5.setCell ⟨N, 0, none⟩ v5).setCell ⟨w.heap.size, 0, none⟩ a1).setCell ⟨w.heap.size, 1, none⟩ a2).setCell ⟨w.heap.size, 2, none⟩ a3
    Stays w v v5 ∧ NetIn W base N M v5 (cutOut ps k) D m ∧ TakeMoved w W base N := by
  intro W
  have hs : ((w.alloc Z).alloc X).drew.heap.size = w.heap.size + 1 + 1 := by simp
  have hNlt := blk_lt h.cell
  have hbN := h.geN
  have hset : ∀ j, j ≠ w.heap.size → j ≠ N → W.heap[j]? = w5.heap[j]? := fun j h1 h2 => by
    show ((((w5.setCell _ v5).setCell _ a1).setCell _ a2).setCell _ a3).heap[j]? = _
    rw [Below.heap_setCell _ _ _ _ h1, Below.heap_setCell _ _ _ _ h1, Below.heap_setCell _ _ _ _ h1, Below.heap_setCell _ _ _ _ h2]
  have hold : ∀ j, j < w.heap.size → w5.heap[j]? = w.heap[j]? := fun j hj => by
    rw [hg.block j (by omega) (by simp)]
    show ((w.alloc Z).alloc X).heap[j]? = _
    rw [Below.heap_alloc _ _ _ (by simp; omega), Below.heap_alloc _ _ _ hj]
  have hkeep : ∀ j, j < w.heap.size → j ≠ N → W.heap[j]? = w.heap[j]? := fun j hj hN => (hset j (by omega) hN).trans (hold j hj)
  have hb : Below base w W := by
    have h1 : Below base w w5 := ((((Below.refl base w).alloc (by omega) Z).alloc (by simp; omega) X).drew).grown hg (by simp; omega) (fun q hq => by cases hq)
    exact ((((h1.setCell hbN v5).setCell (show base ≤ w.heap.size by omega) a1).setCell (show base ≤ w.heap.size by omega) a2).setCell (show base ≤ w.heap.size by omega) a3)
  have hN5 : W.heap[N]? = some (.cells #[v5, .map (some M)] 56 (0, 0)) :=
    blk_far (blk_far (blk_far (blk_put (cs' := #[v5, .map (some M)]) ((hold N hNlt).trans h.cell) 0 v5 rfl) (by simp; omega) a1) (by simp; omega) a2) (by simp; omega) a3
  have hlen : (cutOut ps k).length = k + n2 := by
    unfold cutOut
    rw [List.length_append, List.length_take, List.length_drop]
    omega
  refine ⟨fun g hg2 => .inr ?_, ?_, hb, hkeep⟩
  · have := own_base hown g hg2
    omega
  · refine h.put hkeep hN5 (ds := cs.take (k * 3) ++ cs.drop ((k + 1) * 3)) (.inl ?_) (Kd.reps_append (Kd.reps_take hrep (by omega)) (Kd.reps_drop hrep))
    rw [hlen]
    exact own_weaken (own_move hown (fun j hj => hset j (by have := own_base hown j hj; omega) (by have := own_base hown j hj; omega))) (by omega)

set_option maxRecDepth 100000 in
set_option maxHeartbeats 4000000 in
theorem take_mid {w : World} {base N M : Nat} {v : Value} {ps : List S28} {D : DataW Unit} {m : Nat} (h : NetIn w base N M v ps D m) (k : Nat) (hk : k + 1 < ps.length) (hmax : ps.length ≤ 256) :
    Calls Try.prog 28 #[.pointer (some ⟨N, 0, none⟩), .int .i64 k] w fun e w' => TakePost w base N M v ps k D m e w' := by
  unfold TakePost
  obtain ⟨cs, g, c, cur, A2, c2, rfl, hge, hgh, hnc, hcm, hsz, hcs, hrep, hR, x0, x1, x2⟩ := h.elem k (by omega)
  have hcell := h.cell
  have hkc : k ≤ c := by omega
  have hd1 : (k : Int) < ps.length := by omega
  generalize ps.getD k z28 = x at *
  have H := Lib.hid h
  have hNlt := (Array.getElem?_eq_some_iff.1 hcell).1
  have hbN := h.geN
  have qa := blk_cell (blk_alloc hcell (.cells #[.int .i64 0, .int .i64 0, .slice none 0 0] 28))
  have xa0 := cellA (.cells #[.int .i64 0, .int .i64 0, .slice none 0 0] 28) x0
  have xa1 := cellA (.cells #[.int .i64 0, .int .i64 0, .slice none 0 0] 28) x1
  have xa2 := cellA (.cells #[.int .i64 0, .int .i64 0, .slice none 0 0] 28) x2
  have HR := Lib.hid hrep
  have HB := Lib.hid hR
  have HG := Lib.hid (And.intro hgh (And.intro hge (And.intro hcs (And.intro hsz hcm))))
  have qb := blk_cell (blk_drew (blk_alloc (blk_alloc hcell (.cells #[.int .i64 0, .int .i64 0, .slice none 0 0] 28)) (.cells #[.int .i64 x.f0, .int .i64 x.f1, .slice A2 x.f2.length c2] 28)))
  have fb := blk_frozen (blk_drew (blk_alloc (blk_alloc hcell (.cells #[.int .i64 0, .int .i64 0, .slice none 0 0] 28)) (.cells #[.int .i64 x.f0, .int .i64 x.f1, .slice A2 x.f2.length c2] 28)))
  have HK := Lib.hid hcell
  clear h x0 x1 x2 hrep hR hcell hgh hge hcs hsz hcm
  generalize hn : ps.length = n at *
  have hn' := Lib.hid hn
  clear hn
  have t3 := eq_true (show (k : Int) + 1 ≤ n by omega)
  have t4 := eq_true (show (n : Int) ≤ c by omega)
  have t5 : ¬ c = k + 1 := by omega
  have hw : IntKind.i64.wrap ((k : Int) + 1) = (k : Int) + 1 := by
    rw [i64_wrap]; unfold wrap64; omega
  go_enter Try.func28, Try.ntmps28
  go_wp2
  have hp : ∀ (x : Array Value) (W : World), Sem.run Try.prog (pure x) W = .ok x W := fun _ _ => rfl
  clear qa xa0 xa1 xa2
  have t1 := eq_true (show (k : Int) ≤ (k : Int) + 1 by omega)
  have t2 := eq_true (show (0 : Int) ≤ (k : Int) + 1 by omega)
  obtain ⟨i28, hi28, hz0, hz1, hz2⟩ := info_parts info28
  have HD := Lib.hid (blk_drew (blk_alloc (blk_alloc HK.out (.cells #[.int .i64 0, .int .i64 0, .slice none 0 0] 28)) (.cells #[.int .i64 x.f0, .int .i64 x.f1, .slice A2 x.f2.length c2] 28)))
  have HX := Lib.hid (blk_drew (alloc2_at w (.cells #[.int .i64 0, .int .i64 0, .slice none 0 0] 28) (.cells #[.int .i64 x.f0, .int .i64 x.f1, .slice A2 x.f2.length c2] 28)).1)
  have HZ := Lib.hid (blk_drew (alloc2_at w (.cells #[.int .i64 0, .int .i64 0, .slice none 0 0] 28) (.cells #[.int .i64 x.f0, .int .i64 x.f1, .slice A2 x.f2.length c2] 28)).2)
  have HLen : cs.length = n * 3 := by
    rw [← HG.out.2.2.1, List.length_take, Array.length_toList]
    exact Nat.min_eq_left HG.out.2.2.2.1
  have HCell : Hid (∀ j u, cs[j]? = some u → ((w.alloc (.cells #[.int .i64 0, .int .i64 0, .slice none 0 0] 28)).alloc (.cells #[.int .i64 x.f0, .int .i64 x.f1, .slice A2 x.f2.length c2] 28)).drew.cell? ⟨g, j, none⟩ = some u) := fun j u hu => by
    have hjl := (List.getElem?_eq_some_iff.1 hu).1
    have hb := blk_cell (blk_drew (blk_alloc (blk_alloc HG.out.1 (.cells #[.int .i64 0, .int .i64 0, .slice none 0 0] 28)) (.cells #[.int .i64 x.f0, .int .i64 x.f1, .slice A2 x.f2.length c2] 28))) j
    rw [hb, ← Array.getElem?_toList]
    rw [← HG.out.2.2.1, List.getElem?_take, if_pos (by omega)] at hu
    exact hu
  have HOld : Hid (∀ b, some (⟨g, 0, none⟩ : Addr) = some b → ∀ j u, (cs.take (k * 3))[j]? = some u → ((w.alloc (.cells #[.int .i64 0, .int .i64 0, .slice none 0 0] 28)).alloc (.cells #[.int .i64 x.f0, .int .i64 x.f1, .slice A2 x.f2.length c2] 28)).drew.cell? (b.add j) = some u) := fun b hb j u hu => by
    obtain rfl := Option.some.inj hb
    rw [List.getElem?_take] at hu
    split at hu
    · rw [show (⟨g, 0, none⟩ : Addr).add j = ⟨g, j, none⟩ by simp [add_plain]]
      exact HCell.out j u hu
    · cases hu
  have HNew : Hid (∀ j u, (cs.drop ((k + 1) * 3))[j]? = some u → ((w.alloc (.cells #[.int .i64 0, .int .i64 0, .slice none 0 0] 28)).alloc (.cells #[.int .i64 x.f0, .int .i64 x.f1, .slice A2 x.f2.length c2] 28)).drew.cell? ((⟨g, (k + 1) * 3, none⟩ : Addr).add j) = some u) := fun j u hu => by
    rw [List.getElem?_drop] at hu
    rw [show (⟨g, (k + 1) * 3, none⟩ : Addr).add j = ⟨g, (k + 1) * 3 + j, none⟩ from add_at _ _ _]
    exact HCell.out _ u hu
  have HOne : Hid (∀ u ∈ cs.drop ((k + 1) * 3), u.oneCell' = true) := fun u hu => rep_ones HR.out u (List.mem_of_mem_drop hu)
  have HL1 : Hid ((cs.take (k * 3)).length = k * 3) := by
    show _ = _
    rw [List.length_take]; omega
  have HL2 : Hid ((cs.drop ((k + 1) * 3)).length = (n - (k + 1)) * 3) := by
    show _ = _
    rw [List.length_drop]; omega
  have hne1 : N ≠ w.heap.size := by omega
  have hne2 : N ≠ w.heap.size + 1 := by omega
  have hne3 : w.heap.size ≠ N := by omega
  have hne4 : w.heap.size + 1 ≠ N := by omega
  clear HLen
  go_region_law (refine step_append_grows (by rfl) (.tmp 20) (.tmp 27) 22 (by rfl) 28 i28 (.agg #[(.int .i64 0), (.int .i64 0), (.slice none 0 0)]) 3 40 Try.underlying22 hi28 hz0 hz1 hz2 (by rfl) (by decide) (some ⟨g, 0, none⟩) k k (cs.take (k * 3)) (by rfl) (fun e => by cases e) HL1.out HOld.out ⟨g, (k + 1) * 3, none⟩ (n - (k + 1)) (c - (k + 1)) (cs.drop ((k + 1) * 3)) (by rfl) HL2.out HNew.out HOne.out (by omega) (by unfold maxLen; omega) (by omega) ?_; intro v5 w5 hown5 hgrow5; obtain ⟨A5, c5, rfl⟩ := row_val hown5; have kN5 := blk_grown HD.out hgrow5 (by simp); have kX5 := blk_grown HX.out hgrow5 (by simp); have kZ5 := blk_grown HZ.out hgrow5 (by simp); have HO5 := Lib.hid (And.intro hown5 hgrow5); have HK5 := Lib.hid (And.intro kX5 kZ5); have q5 := blk_cell kN5; have f5 := blk_frozen kN5; have x5 := blk_cell kX5; have z5 := blk_cell kZ5; have y5 := blk_frozen kZ5; clear hown5 hgrow5 kN5 kX5 kZ5)
  all_goals
    clear qb fb
    go_wp2
    clear q5 f5 x5 z5 y5
    have E := mid_end (a1 := .int .i64 x.f0) (a2 := .int .i64 x.f1) (a3 := .slice A2 x.f2.length c2) H.out HR.out (by have := hn'.out; omega) (by rw [hn'.out]) HO5.out.1 HO5.out.2
    refine bodyPost_ret (results_cell_row rfl _ _ w.heap.size 28 #[.int .i64 x.f0, .int .i64 x.f1, .slice A2 x.f2.length c2] (0, 0) _ rfl (blk_put (blk_put (blk_put (blk_far HK5.out.2 hne3 _) 0 (.int .i64 x.f0) rfl) 1 (.int .i64 x.f1) rfl) 2 (.slice A2 x.f2.length c2) rfl) Try.underlying28 rfl (by kernel_rfl)) rfl ?_
    exact ⟨A2, c2, rfl, R_keepN HB.out HK.out E.2.2.2, _, E.1, E.2.1, E.2.2⟩

/-- One is taken out, wherever it stands. -/
theorem take_calls {base N M : Nat} {v : Value} {ps : List S28} {D : DataW Unit} {m : Nat} (k : Nat) (hk : k < ps.length) (hmax : ps.length ≤ 256) (w : World) (h : NetIn w base N M v ps D m) :
    Calls Try.prog 28 #[.pointer (some ⟨N, 0, none⟩), .int .i64 k] w fun e w' => TakePost w base N M v ps k D m e w' := by
  rcases Nat.lt_or_ge (k + 1) ps.length with h1 | h1
  · exact take_mid h k h1 hmax
  · exact take_last h k (by omega) hmax
end Go.Proofs.Ytalaghkpbdaonaa

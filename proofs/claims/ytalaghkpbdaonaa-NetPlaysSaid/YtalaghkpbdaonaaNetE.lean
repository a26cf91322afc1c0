/- A packet taken out of the list: what it computes. No conditions. -/
import Derived.Test.YtalaghkpbdaonaaNetD
namespace Go.Proofs.Ytalaghkpbdaonaa
open Go Go.RowKit H Go.Proofs.YtalaghkpbdaonaaW.PrintWords

theorem Flight.form {w : World} {base n : Nat} {v : Value} {cs : List Value} (h : Flight w base v n cs) (h0 : 0 < n) : ∃ g c cur, v = .slice (some ⟨g, 0, none⟩) n c ∧ base ≤ g ∧ w.heap[g]? = some (.cells cur 28 (0, 0)) ∧ n ≤ c ∧ c ≤ maxLen ∧ n * 3 ≤ cur.size ∧ cur.toList.take (n * 3) = cs := by
  rcases h with h | ⟨g, cur, hv, hg, hh, hm, hsz, hcs⟩
  · rcases h.2 with ⟨_, h1⟩ | ⟨g, c, cur, hv, hg, hh, hn, hm, hsz, hcs⟩
    · omega
    · exact ⟨g, c, cur, hv, hg, hh, hn, hm, by rw [hsz]; exact Nat.mul_le_mul_right 3 hn, hcs⟩
  · exact ⟨g, n, cur, hv, hg, hh, Nat.le_refl _, hm, hsz, hcs⟩

theorem i64_wrap (n : Int) : IntKind.i64.wrap n = wrap64 n := by
  unfold wrap64 IntKind.wrap
  simp [IntKind.signed, IntKind.bits]
  split <;> omega

theorem cellA {w : World} {a : Addr} {v : Value} (o : Obj) (h : w.cell? a = some v) : (w.alloc o).cell? a = some v :=
  (((Below.refl w.heap.size w).alloc (Nat.le_refl _) o).cell (World.block_lt_of_cell? w a h)).trans h

/-- What is left where one is taken out. -/
def cutOut (ps : List S28) (k : Nat) : List S28 := ps.take k ++ ps.drop (k + 1)

/-- The net's block has a new list; all else is kept. -/
theorem NetIn.put {w W : World} {base N M : Nat} {v nv : Value} {ps qs : List S28} {D : DataW Unit} {m : Nat} {ds : List Value} (h : NetIn w base N M v ps D m) (hkeep : ∀ j, j < w.heap.size → j ≠ N → W.heap[j]? = w.heap[j]?)
    (hN : W.heap[N]? = some (.cells #[nv, .map (some M)] 56 (0, 0))) (hf : Flight W base nv qs.length ds) (hr : Reps (k28.M w base (fun _ => True)) 3 qs ds) : NetIn W base N M nv qs D m := by
  have lt : ∀ {W : World} {k : Nat} {o : Obj}, W.heap[k]? = some o → k < W.heap.size := fun h => (Array.getElem?_eq_some_iff.1 h).1
  obtain ⟨h1, h2, h3, _, es, clock, hm, hm2⟩ := h
  have hNM : M ≠ N := fun e => by
    subst e
    rw [h3] at hm
    injection hm with hm
    cases hm
  refine ⟨h1, h2, hN, ⟨ds, hf, hr.imp_ (fun p c hp => ?_)⟩, es, clock, (hkeep M (lt hm) hNM).trans hm, hm2⟩
  have hbd := k28.M_bound hp
  refine k28.M_mono (fun _ _ => trivial) (k28.M_move (fun k hk => ?_) hbd)
  obtain ⟨_, hkb, hklt, q, hq, cells, hcl⟩ := hk
  have hq5 : q = 5 := by simpa [k28, Kd.iso, Kd.pair, Kd.slice, Kd.int, Kd.scalar] using hq
  subst hq5
  refine hkeep k hklt (fun e => ?_)
  subst e
  rw [h3] at hcl
  injection hcl with hcl
  injection hcl with _ hcl
  cases hcl

/-- What taking one out may have changed: the net's block. -/
def TakeMoved (w w' : World) (base N : Nat) : Prop := Below base w w' ∧ ∀ k, k < w.heap.size → k ≠ N → w'.heap[k]? = w.heap[k]?

/-- A list's block is the elder one's, or new. -/
def Stays (w : World) (v v' : Value) : Prop := ∀ g, v'.ownBlock = some g → v.ownBlock = some g ∨ w.heap.size ≤ g

/-- A packet handed back, and the net without it. -/
def TakePost (w : World) (base N M : Nat) (v : Value) (ps : List S28) (k : Nat) (D : DataW Unit) (m : Nat) (e : Ending) (w' : World) : Prop :=
  ∃ A c, e = .returned (.agg #[.int .i64 (ps.getD k z28).f0, .int .i64 (ps.getD k z28).f1, .slice A (ps.getD k z28).f2.length c]) ∧ (Kd.int .u8).R 5 w' base (fun _ => True) (.slice A (ps.getD k z28).f2.length c) (ps.getD k z28).f2 ∧
    ∃ v', Stays w v v' ∧ NetIn w' base N M v' (cutOut ps k) D m ∧ TakeMoved w w' base N

theorem keep3 (w : World) (X Y : Obj) (N : Nat) (u : Value) (base : Nat) (h1 : base ≤ N) (h2 : N < w.heap.size) : TakeMoved w (((w.setCell ⟨N, 0, none⟩ u).alloc X).alloc Y).drew base N := by
  have hs : (w.setCell ⟨N, 0, none⟩ u).heap.size = w.heap.size := by simp
  constructor
  · exact (((((Below.refl base w).setCell h1 u).alloc (by omega) X).alloc (by simp; omega) Y).drew)
  · intro j hj hN
    show (((w.setCell ⟨N, 0, none⟩ u).alloc X).alloc Y).heap[j]? = _
    rw [Below.heap_alloc _ _ _ (by simp; omega), Below.heap_alloc _ _ _ (by omega), Below.heap_setCell _ _ _ _ hN]

/-- The parts of a net that a packet is taken from. -/
theorem NetIn.elem {w : World} {base N M : Nat} {v : Value} {ps : List S28} {D : DataW Unit} {m : Nat} (h : NetIn w base N M v ps D m) (k : Nat) (hk : k < ps.length) :
    ∃ (cs : List Value) (g c : Nat) (cur : Array Value) (A2 : Option Addr) (c2 : Nat), v = .slice (some ⟨g, 0, none⟩) ps.length c ∧ base ≤ g ∧ w.heap[g]? = some (.cells cur 28 (0, 0)) ∧ ps.length ≤ c ∧ c ≤ maxLen ∧ ps.length * 3 ≤ cur.size ∧ cur.toList.take (ps.length * 3) = cs ∧
      Reps (k28.M w base (fun _ => True)) 3 ps cs ∧ (Kd.int .u8).R 5 w base (fun _ => True) (.slice A2 (ps.getD k z28).f2.length c2) (ps.getD k z28).f2 ∧
      w.cell? ⟨g, k * 3, none⟩ = some (.int .i64 (ps.getD k z28).f0) ∧ w.cell? ⟨g, k * 3 + 1, none⟩ = some (.int .i64 (ps.getD k z28).f1) ∧ w.cell? ⟨g, k * 3 + 2, none⟩ = some (.slice A2 (ps.getD k z28).f2.length c2) := by
  obtain ⟨cs, hfl, hrep⟩ := h.list
  obtain ⟨g, c, cur, hv, hge, hgh, hnc, hcm, hsz, hcs⟩ := hfl.form (by omega)
  have hx : ps[k]? = some (ps.getD k z28) := by rw [List.getD_eq_getElem?_getD, List.getElem?_eq_getElem hk]; rfl
  generalize ps.getD k z28 = x at *
  obtain ⟨v2, he, hR⟩ := k28_openM (hrep.2 k x hx)
  obtain ⟨A2, c2, rfl⟩ := Kd.R_slice hR
  have hcell : ∀ i u, ([.int .i64 x.f0, .int .i64 x.f1, .slice A2 x.f2.length c2] : List Value)[i]? = some u → w.cell? ⟨g, k * 3 + i, none⟩ = some u := by
    intro i u hu
    have hi : i < 3 := by have := (List.getElem?_eq_some_iff.1 hu).1; simpa using this
    rw [← he, List.getElem?_take, if_pos hi, List.getElem?_drop, ← hcs, List.getElem?_take, if_pos (by omega)] at hu
    have hu2 : cur[k * 3 + i]? = some u := by rw [← Array.getElem?_toList]; exact hu
    rw [blk_cell hgh, hu2]
  exact ⟨cs, g, c, cur, A2, c2, hv, hge, hgh, hnc, hcm, hsz, hcs, hrep, hR, hcell 0 _ rfl, hcell 1 _ rfl, hcell 2 _ rfl⟩

theorem R_keepN {w W : World} {base N : Nat} {v : Value} {xs : List Int} {u : Value} {mm : Value} (h : (Kd.int .u8).R 5 w base (fun _ => True) v xs) (hN : w.heap[N]? = some (.cells #[u, mm] 56 (0, 0))) (hkeep : ∀ k, k < w.heap.size → k ≠ N → W.heap[k]? = w.heap[k]?) : (Kd.int .u8).R 5 W base (fun _ => True) v xs := by
  refine Kd.R_mono (Kd.R_move (Kd.R_bound h) (fun k hk => ?_)) (fun _ _ => trivial)
  obtain ⟨_, hkb, hklt, q, hq, cells, hcl⟩ := hk
  have hq5 : q = 5 := by simpa [Kd.int, Kd.scalar] using hq
  subst hq5
  refine hkeep k hklt (fun e => ?_)
  subst e
  rw [hN] at hcl
  injection hcl with hcl
  injection hcl with _ hcl
  cases hcl

theorem cut_last (ps : List S28) (k : Nat) (hk : k + 1 = ps.length) : cutOut ps k = ps.take k := by
  unfold cutOut
  rw [List.drop_eq_nil_of_le (by omega), List.append_nil]

set_option maxRecDepth 100000 in
set_option maxHeartbeats 4000000 in
theorem take_last {w : World} {base N M : Nat} {v : Value} {ps : List S28} {D : DataW Unit} {m : Nat} (h : NetIn w base N M v ps D m) (k : Nat) (hk : k + 1 = ps.length) (hmax : ps.length ≤ 256) :
    Calls Try.prog 28 #[.pointer (some ⟨N, 0, none⟩), .int .i64 k] w fun e w' => TakePost w base N M v ps k D m e w' := by
  unfold TakePost
  obtain ⟨cs, g, c, cur, A2, c2, rfl, hge, hgh, hnc, hcm, hsz, hcs, hrep, hR, x0, x1, x2⟩ := h.elem k (by omega)
  have hcell := h.cell
  have hkc : k ≤ c := by omega
  have hd1 : (k : Int) < ps.length := by omega
  generalize ps.getD k z28 = x at *
  have H := Lib.hid h
  have hNlt := (Array.getElem?_eq_some_iff.1 hcell).1
  have hbN := h.geN
  have qa := blk_cell (blk_alloc hcell (.cells #[.int .i64 0, .int .i64 0, .slice none 0 0] 28))
  have xa0 := cellA (.cells #[.int .i64 0, .int .i64 0, .slice none 0 0] 28) x0
  have xa1 := cellA (.cells #[.int .i64 0, .int .i64 0, .slice none 0 0] 28) x1
  have xa2 := cellA (.cells #[.int .i64 0, .int .i64 0, .slice none 0 0] 28) x2
  have HR := Lib.hid hrep
  have HB := Lib.hid hR
  have HG := Lib.hid (And.intro hgh (And.intro hge (And.intro hcs (And.intro hsz hcm))))
  have qb := blk_cell (blk_drew (blk_alloc (blk_alloc hcell (.cells #[.int .i64 0, .int .i64 0, .slice none 0 0] 28)) (.cells #[.int .i64 x.f0, .int .i64 x.f1, .slice A2 x.f2.length c2] 28)))
  have fb := blk_frozen (blk_drew (blk_alloc (blk_alloc hcell (.cells #[.int .i64 0, .int .i64 0, .slice none 0 0] 28)) (.cells #[.int .i64 x.f0, .int .i64 x.f1, .slice A2 x.f2.length c2] 28)))
  have HK := Lib.hid hcell
  clear h x0 x1 x2 hrep hR hcell hgh hge hcs hsz hcm
  have hcut := cut_last ps k hk
  have hlen : (cutOut ps k).length = k := by rw [hcut, List.length_take]; omega
  have HL := Lib.hid (And.intro hcut hlen)
  have HQ := Lib.hid hk
  clear hcut hlen
  generalize hn : ps.length = n at *
  have hn' := Lib.hid hn
  clear hn
  subst hk
  have hw : IntKind.i64.wrap ((k : Int) + 1) = (k : Int) + 1 := by
    rw [i64_wrap]; unfold wrap64; omega
  go_enter Try.func28, Try.ntmps28
  go_wp2
  have hp : ∀ (x : Array Value) (W : World), Sem.run Try.prog (pure x) W = .ok x W := fun _ _ => rfl
  clear qa xa0 xa1 xa2
  have t1 := eq_true (show (k : Int) ≤ (k : Int) + 1 by omega)
  have t2 := eq_true (show (0 : Int) ≤ (k : Int) + 1 by omega)
  by_cases hcl : c = k + 1
  · subst hcl
    go_region_law (first | fail)
    all_goals
      clear qb fb
      go_wp2
      have mv := keep3 w (.cells #[.int .i64 x.f0, .int .i64 x.f1, .slice A2 x.f2.length c2] 28) (.cells #[.int .i64 x.f0, .int .i64 x.f1, .slice A2 x.f2.length c2] 28) N (.slice (some ⟨g, 0, none⟩) k k) base hbN hNlt
      have hN4 := blk_drew (blk_alloc (blk_alloc (blk_put (cs' := #[.slice (some ⟨g, 0, none⟩) k k, .map (some M)]) HK.out 0 (.slice (some ⟨g, 0, none⟩) k k) rfl) (.cells #[.int .i64 x.f0, .int .i64 x.f1, .slice A2 x.f2.length c2] 28)) (.cells #[.int .i64 x.f0, .int .i64 x.f1, .slice A2 x.f2.length c2] 28))
      have hZ4 := (alloc2_at (w.setCell ⟨N, 0, none⟩ (.slice (some ⟨g, 0, none⟩) k k)) (.cells #[.int .i64 x.f0, .int .i64 x.f1, .slice A2 x.f2.length c2] 28) (.cells #[.int .i64 x.f0, .int .i64 x.f1, .slice A2 x.f2.length c2] 28)).2
      have hs4 : (w.setCell ⟨N, 0, none⟩ (.slice (some ⟨g, 0, none⟩) k k)).heap.size = w.heap.size := by simp
      rw [hs4] at hZ4
      have hRR := R_keepN HB.out HK.out mv.2
      obtain ⟨hgh, hge, hcs, hsz, hcm⟩ := HG.out
      have hgN : g ≠ N := blk_ne hgh HK.out (by decide)
      have hlk : (ps.take k).length = k := by have := hn'.out; rw [List.length_take]; omega
      refine bodyPost_ret (results_cell_row rfl _ _ w.heap.size 28 #[.int .i64 x.f0, .int .i64 x.f1, .slice A2 x.f2.length c2] (0, 0) _ rfl (blk_drew hZ4) Try.underlying28 rfl (by kernel_rfl)) rfl ?_
      refine ⟨A2, c2, rfl, hRR, .slice (some ⟨g, 0, none⟩) k k, fun _ e => .inl e, ?_, mv⟩
      rw [HL.out.1]
      refine H.out.put mv.2 hN4 (ds := cs.take (k * 3)) (.inr ⟨g, cur, by rw [hlk], hge, (mv.2 g (blk_lt hgh) hgN).trans hgh, by rw [hlk]; unfold maxLen; omega, by rw [hlk]; omega, ?_⟩) (Kd.reps_take HR.out (by have := hn'.out; omega))
      rw [hlk, ← hcs, List.take_take, Nat.min_eq_left (by omega)]
  · have hcl2 : k + 1 ≤ c := by omega
    go_region_law (first | fail)
    all_goals
      clear qb fb
      go_wp2
      have mv := keep3 w (.cells #[.int .i64 x.f0, .int .i64 x.f1, .slice A2 x.f2.length c2] 28) (.cells #[.int .i64 x.f0, .int .i64 x.f1, .slice A2 x.f2.length c2] 28) N (.slice (some ⟨g, 0, none⟩) k k) base hbN hNlt
      have hN4 := blk_drew (blk_alloc (blk_alloc (blk_put (cs' := #[.slice (some ⟨g, 0, none⟩) k k, .map (some M)]) HK.out 0 (.slice (some ⟨g, 0, none⟩) k k) rfl) (.cells #[.int .i64 x.f0, .int .i64 x.f1, .slice A2 x.f2.length c2] 28)) (.cells #[.int .i64 x.f0, .int .i64 x.f1, .slice A2 x.f2.length c2] 28))
      have hZ4 := (alloc2_at (w.setCell ⟨N, 0, none⟩ (.slice (some ⟨g, 0, none⟩) k k)) (.cells #[.int .i64 x.f0, .int .i64 x.f1, .slice A2 x.f2.length c2] 28) (.cells #[.int .i64 x.f0, .int .i64 x.f1, .slice A2 x.f2.length c2] 28)).2
      have hs4 : (w.setCell ⟨N, 0, none⟩ (.slice (some ⟨g, 0, none⟩) k k)).heap.size = w.heap.size := by simp
      rw [hs4] at hZ4
      have hRR := R_keepN HB.out HK.out mv.2
      obtain ⟨hgh, hge, hcs, hsz, hcm⟩ := HG.out
      have hgN : g ≠ N := blk_ne hgh HK.out (by decide)
      have hlk : (ps.take k).length = k := by have := hn'.out; rw [List.length_take]; omega
      refine bodyPost_ret (results_cell_row rfl _ _ w.heap.size 28 #[.int .i64 x.f0, .int .i64 x.f1, .slice A2 x.f2.length c2] (0, 0) _ rfl (blk_drew hZ4) Try.underlying28 rfl (by kernel_rfl)) rfl ?_
      refine ⟨A2, c2, rfl, hRR, .slice (some ⟨g, 0, none⟩) k k, fun _ e => .inl e, ?_, mv⟩
      rw [HL.out.1]
      refine H.out.put mv.2 hN4 (ds := cs.take (k * 3)) (.inr ⟨g, cur, by rw [hlk], hge, (mv.2 g (blk_lt hgh) hgN).trans hgh, by rw [hlk]; unfold maxLen; omega, by rw [hlk]; omega, ?_⟩) (Kd.reps_take HR.out (by have := hn'.out; omega))
      rw [hlk, ← hcs, List.take_take, Nat.min_eq_left (by omega)]
end Go.Proofs.Ytalaghkpbdaonaa

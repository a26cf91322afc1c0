/- The pairs that are cut, and Take: what they compute. No conditions. -/
import Derived.Test.YtalaghkpbdaonaaNetE
import Derived.WideKeyPair
import Derived.Laws.ResultCell
namespace Go.Proofs.Ytalaghkpbdaonaa
open Go Go.RowKit H Go.Proofs.YtalaghkpbdaonaaW.PrintWords

/-- The pair of two ends, as a key of the datum. -/
def pkey (x y : Int) : Lit := .string (keyBytes [.int .i64 (min x y), .int .i64 (max x y)])

/-- Nothing goes between two ends. -/
def isCut (D : DataW Unit) (x y : Int) : Bool :=
  match D.atKey (pkey x y) (.lit (.bool false)) with
  | .lit (.bool b) => b
  | _ => false

theorem key_pair (x y : Int) (wx : (Lit.int .i64 x).wf = true) (wy : (Lit.int .i64 y).wf = true) : keyOf Try.prog 37 (.agg #[.int .i64 (min x y), .int .i64 (max x y)]) = some (pkey x y) := by
  refine WideMaps.keyOf_pair (e := 3) ⟨Try.underlying37, by kernel_rfl, by kernel_rfl, by kernel_rfl⟩ Try.underlying3 ⟨_, rfl⟩ ?_ ?_
  · rcases Int.le_total x y with h | h
    · rw [Int.min_eq_left h]; exact wx
    · rw [Int.min_eq_right h]; exact wy
  · rcases Int.le_total x y with h | h
    · rw [Int.max_eq_right h]; exact wy
    · rw [Int.max_eq_left h]; exact wx

theorem cut_look {w : World} {M m : Nat} {D : DataW Unit} (h : w.ownsMap Try.prog 37 (plainElem Try.prog 4) M m D) (x y : Int) (wx : (Lit.int .i64 x).wf = true) (wy : (Lit.int .i64 y).wf = true) :
    (Instr.lookup 52 (.map (some M)) (.agg #[.int .i64 (min x y), .int .i64 (max x y)]) false).run Try.prog w = .ok (.bool (isCut D x y)) w := by
  have hz : (zeroValue 4).run Try.prog w = .ok (.bool false) w := by kernel_rfl
  obtain ⟨v, ps, hrun, hv⟩ := h.lookup keyed37 Try.underlying52 hz (plainElem_bool Try.underlying4 false) (key_pair x y wx wy)
  rw [hrun]
  unfold plainElem at hv
  simp only [Try.underlying4] at hv
  cases v with
  | bool b =>
    simp only [Option.some.injEq, Prod.mk.injEq] at hv
    unfold isCut
    rw [← hv.1]
  | _ => simp at hv

theorem NetIn.cutLook {w : World} {base N M : Nat} {v : Value} {ps : List S28} {D : DataW Unit} {m : Nat} (h : NetIn w base N M v ps D m) (x y : Int) (wx : (Lit.int .i64 x).wf = true) (wy : (Lit.int .i64 y).wf = true) {w' : World} (hk : ∀ k, k < w.heap.size → w'.heap[k]? = w.heap[k]?) :
    (Instr.lookup 52 (.map (some M)) (.agg #[.int .i64 (min x y), .int .i64 (max x y)]) false).run Try.prog w' = .ok (.bool (isCut D x y)) w' :=
  cut_look (h.keep (fun k _ hk2 => hk k hk2)).map x y wx wy

theorem NetIn.vlt {w : World} {base N M : Nat} {v : Value} {ps : List S28} {D : DataW Unit} {m : Nat} (h : NetIn w base N M v ps D m) {g : Nat} (hg : v.ownBlock = some g) : g < w.heap.size := by
  obtain ⟨_, _, _, ⟨cs, hf, _⟩, _⟩ := h
  rcases hf with hf | ⟨g2, cur, rfl, _, hh, _⟩
  · exact own_lt hf g hg
  · obtain rfl : g2 = g := by simpa [Value.ownBlock] using hg
    exact blk_lt hh

/-- A net stays what it is while a packet's cell is written that is not its list. -/
theorem NetIn.keepBut {w w' : World} {base N M B : Nat} {v : Value} {ps : List S28} {D : DataW Unit} {m : Nat} {cells : Array Value} (h : NetIn w base N M v ps D m) (hB : w.heap[B]? = some (.cells cells 28 (0, 0))) (hv : v.ownBlock ≠ some B)
    (hk : ∀ k, base ≤ k → k < w.heap.size → k ≠ B → w'.heap[k]? = w.heap[k]?) : NetIn w' base N M v ps D m := by
  obtain ⟨h1, h2, h3, ⟨cs, hf, hr⟩, es, clock, hm, hm2⟩ := h
  have lt : ∀ {k : Nat} {o : Obj}, w.heap[k]? = some o → k < w.heap.size := fun h => (Array.getElem?_eq_some_iff.1 h).1
  have hNB : N ≠ B := blk_ne h3 hB (by decide)
  have hMB : M ≠ B := fun e => by
    subst e
    rw [hm] at hB
    injection hB with hB
    cases hB
  refine ⟨h1, h2, (hk _ h1 (lt h3) hNB).trans h3, ⟨cs, ?_, hr.imp_ (fun p c hp => ?_)⟩, es, clock, (hk _ h2 (lt hm) hMB).trans hm, hm2⟩
  · rcases hf with hf | ⟨g, cur, rfl, hg, hh, rest⟩
    · exact .inl (own_move hf (fun k hko => hk k (own_base hf k hko) (own_lt hf k hko) (fun e => hv (e ▸ hko))))
    · exact .inr ⟨g, cur, rfl, hg, (hk g hg (lt hh) (fun e => hv (by rw [← e]; rfl))).trans hh, rest⟩
  · have hb := k28.M_bound hp
    refine k28.M_mono (fun _ _ => trivial) (k28.M_move (fun k hk2 => ?_) hb)
    obtain ⟨_, hkb, hklt, q, hq, cells, hcl⟩ := hk2
    have hq5 : q = 5 := by simpa [k28, Kd.iso, Kd.pair, Kd.slice, Kd.int, Kd.scalar] using hq
    subst hq5
    refine hk k hkb hklt (fun e => ?_)
    subst e
    rw [hB] at hcl
    injection hcl with hcl
    injection hcl with _ hcl
    cases hcl

/-- A body stays what it is while a packet's cell is written. -/
theorem R_keepBut {w W : World} {base B : Nat} {v : Value} {xs : List Int} {cells : Array Value} (h : (Kd.int .u8).R 5 w base (fun _ => True) v xs) (hB : w.heap[B]? = some (.cells cells 28 (0, 0))) (hkeep : ∀ k, base ≤ k → k < w.heap.size → k ≠ B → W.heap[k]? = w.heap[k]?) : (Kd.int .u8).R 5 W base (fun _ => True) v xs := by
  refine Kd.R_mono (Kd.R_move (Kd.R_bound h) (fun k hk => ?_)) (fun _ _ => trivial)
  obtain ⟨_, hkb, hklt, q, hq, cells, hcl⟩ := hk
  have hq5 : q = 5 := by simpa [Kd.int, Kd.scalar] using hq
  subst hq5
  refine hkeep k hkb hklt (fun e => ?_)
  subst e
  rw [hB] at hcl
  injection hcl with hcl
  injection hcl with _ hcl
  cases hcl

theorem took_end {w w2 w3 : World} {base N M : Nat} {v v' a1 a2 a3 : Value} {qs : List S28} {D : DataW Unit} {m : Nat} {o : Obj} {cells : Array Value} {vb : Value} {xs : List Int} (hN : NetIn w2 base N M v' qs D m) (hM : TakeMoved (w.alloc o) w2 base N) (hR : (Kd.int .u8).R 5 w2 base (fun _ => True) vb xs) (hS : Stays (w.alloc o) v v') (hb3 : Below w2.heap.size w2 w3)
    (hz2 : w2.heap[w.heap.size]? = some (.cells cells 28 (0, 0))) (hv : ∀ g, v.ownBlock = some g → g < w.heap.size) (hbase : base ≤ w.heap.size) :
    let W := ((w3.setCell ⟨w.heap.size, 0, none⟩ a1).setCell ⟨w.heap.size, 1, none⟩ a2).setCell ⟨w.heap.size, 2, none⟩ a3
    (Kd.int .u8).R 5 W base (fun _ => True) vb xs ∧ ∃ v', Stays w v v' ∧ NetIn W base N M v' qs D m ∧ TakeMoved w W base N := by
  intro W
  have hk : ∀ k, base ≤ k → k < w2.heap.size → k ≠ w.heap.size → W.heap[k]? = w2.heap[k]? := fun k _ hk hne => by
    show (((w3.setCell _ a1).setCell _ a2).setCell _ a3).heap[k]? = _
    rw [Below.heap_setCell _ _ _ _ hne, Below.heap_setCell _ _ _ _ hne, Below.heap_setCell _ _ _ _ hne]
    exact hb3.block k hk
  have hs : Stays w v v' := fun g hg => (hS g hg).imp id (fun h => by simp at h; omega)
  have hlt := (Array.getElem?_eq_some_iff.1 hz2).1
  have hne : v'.ownBlock ≠ some w.heap.size := fun e => by
    rcases hS _ e with h | h
    · exact absurd (hv _ h) (by omega)
    · simp at h
      omega
  refine ⟨R_keepBut hR hz2 hk, v', hs, hN.keepBut hz2 hne hk, ?_, fun k hk2 hkN => ?_⟩
  · have h1 : Below base w w2 := ((Below.refl base w).alloc hbase o).trans hM.1
    exact (((h1.trans (hb3.mono (by omega))).setCell hbase a1).setCell hbase a2).setCell hbase a3
  · show (((w3.setCell _ a1).setCell _ a2).setCell _ a3).heap[k]? = _
    have hne : k ≠ w.heap.size := by omega
    rw [Below.heap_setCell _ _ _ _ hne, Below.heap_setCell _ _ _ _ hne, Below.heap_setCell _ _ _ _ hne, hb3.block k (by omega), hM.2 k (by simp; omega) hkN, Below.heap_alloc _ _ _ hk2]

/-- What Take answers where there is a packet. -/
def TookPost (w : World) (base N M : Nat) (v : Value) (ps : List S28) (k : Nat) (D : DataW Unit) (m : Nat) (e : Ending) (w' : World) : Prop :=
  ∃ A c, e = .returned (.tuple #[(if isCut D (ps.getD k z28).f0 (ps.getD k z28).f1 = true then .agg #[.int .i64 0, .int .i64 0, .slice none 0 0] else .agg #[.int .i64 (ps.getD k z28).f0, .int .i64 (ps.getD k z28).f1, .slice A (ps.getD k z28).f2.length c]), .bool (!isCut D (ps.getD k z28).f0 (ps.getD k z28).f1)]) ∧ (Kd.int .u8).R 5 w' base (fun _ => True) (.slice A (ps.getD k z28).f2.length c) (ps.getD k z28).f2 ∧
    ∃ v', Stays w v v' ∧ NetIn w' base N M v' (cutOut ps k) D m ∧ TakeMoved w w' base N

theorem results_row_tmp {P : Program} {fn : Func} {p u : Tmp} {ty : TypeId} (h : fn.results = #[.cell p ty, .tmp u]) (tmps : Array Value) (w : World) (g : Nat) (t : TypeId) (cs : Array Value) (fr : Nat × Nat) (d : TypeDesc)
    (hp : tmps.getD p undef = .pointer (some ⟨g, 0, none⟩)) (hg : w.heap[g]? = some (.cells cs t fr))
    (hu : P.underlying ty = some d) (hd : (match d with | .struct _ | .array _ _ => true | _ => false) = true) (hi : (P.info? ty).map (·.size) = some cs.size) :
    (results fn tmps).run P w = .ok (.tuple #[.agg cs, tmps.getD u undef]) w := by
  rw [results_cell_tmp h, hp]
  simp [asAddr, run_loadVar_row w g t ty cs fr d hg hu hd hi, Result.andThen]

set_option maxRecDepth 100000 in
set_option maxHeartbeats 4000000 in
theorem took_none {w : World} {base N M : Nat} {v : Value} {D : DataW Unit} {m : Nat} (h : NetIn w base N M v [] D m) (i : Int) :
    Calls Try.prog 14 #[.pointer (some ⟨N, 0, none⟩), .int .i64 i] w fun e w' => e = .returned (.tuple #[.agg #[.int .i64 0, .int .i64 0, .slice none 0 0], .bool false]) ∧ Below w.heap.size w w' := by
  have H := Lib.hid (fun o => h.below ((Below.refl _ _).alloc (Nat.le_refl _) o))
  clear h
  go_enter Try.func14, Try.ntmps14
  go_wp2_with (first
    | (go_at_call 27; refine (at_calls (H.out _) (by decide) i).mono ?_; rintro e w1 ⟨rfl, rfl⟩; rw [show atF ([] : List S28).length i = -1 from rfl])
    | go_in)
  refine bodyPost_ret (results_row_tmp rfl _ _ w.heap.size 28 #[.int .i64 0, .int .i64 0, .slice none 0 0] (0, 0) _ rfl (heap_alloc_new w _) Try.underlying28 rfl (by kernel_rfl)) rfl ?_
  exact ⟨rfl, (Below.refl _ _).alloc (Nat.le_refl _) _⟩

set_option maxRecDepth 100000 in
set_option maxHeartbeats 4000000 in
theorem took_calls {w : World} {base N M : Nat} {v : Value} {ps : List S28} {D : DataW Unit} {m : Nat} (h : NetIn w base N M v ps D m) (i : Int) (k : Nat) (hi : atF ps.length i = k) (hmax : ps.length ≤ 256)
    (wx : (Lit.int .i64 (ps.getD k z28).f0).wf = true) (wy : (Lit.int .i64 (ps.getD k z28).f1).wf = true)
    (hT : ∀ w, NetIn w base N M v ps D m → Calls Try.prog 28 #[.pointer (some ⟨N, 0, none⟩), .int .i64 k] w fun e w' => TakePost w base N M v ps k D m e w') :
    Calls Try.prog 14 #[.pointer (some ⟨N, 0, none⟩), .int .i64 i] w fun e w' => TookPost w base N M v ps k D m e w' := by
  unfold TookPost
  generalize hx : ps.getD k z28 = x at *
  have HA := Lib.hid (h.below ((Below.refl _ _).alloc (Nat.le_refl _) (.cells #[.int .i64 0, .int .i64 0, .slice none 0 0] 28)))
  have HT := Lib.hid hT
  have HX := Lib.hid hx
  have hlt := (Array.getElem?_eq_some_iff.1 h.cell).1
  have hbN := h.geN
  have HW := Lib.hid (And.intro wx wy)
  have HI := Lib.hid (And.intro hi hmax)
  have hneg : ¬ (k : Int) < 0 := by omega
  have HV := Lib.hid (fun g (hg : v.ownBlock = some g) => h.vlt hg)
  clear h hT hx wx wy hi hmax
  go_enter Try.func14, Try.ntmps14
  go_wp2_with (first
    | (go_at_call 27; refine (at_calls HA.out HI.out.2 i).mono ?_; rintro e w1 ⟨rfl, rfl⟩; rw [HI.out.1])
    | (go_at_call 28; refine (HT.out _ HA.out).mono ?_; unfold TakePost; rintro e w2 ⟨A, c, rfl, hC, v', hS, hN, hM⟩; rw [HX.out] at hC ⊢; have HN := Lib.hid (And.intro hN (And.intro hM (And.intro hC hS))); have hZ := (hM.2 w.heap.size (by simp) (by omega)).trans (heap_alloc_new w _); have hsz := hM.1.size; simp only [World.size_alloc] at hsz; clear hM hC hS; have hcell := hN.cell; clear hN)
    | go_in)
  have hcellW := blk_drew (blk_alloc hcell (.cells #[.int .i64 x.f0, .int .i64 x.f1, .slice A x.f2.length c] 28))
  have hpW := blk_drew (heap_alloc_new w2 (.cells #[.int .i64 x.f0, .int .i64 x.f1, .slice A x.f2.length c] 28))
  have hzW := blk_drew (blk_alloc hZ (.cells #[.int .i64 x.f0, .int .i64 x.f1, .slice A x.f2.length c] 28))
  have HB := Lib.hid (show Below w2.heap.size w2 (w2.alloc (.cells #[.int .i64 x.f0, .int .i64 x.f1, .slice A x.f2.length c] 28)).drew from ((Below.refl _ _).alloc (Nat.le_refl _) _).drew)
  have HC := Lib.hid (And.intro hcellW (And.intro hpW hzW))
  have qW := blk_cell hcellW
  have HZ2 := Lib.hid hZ
  clear hcellW hpW hzW hcell hZ
  go_region_law (first
    | (go_simp; refine (pair_calls x.f0 x.f1 _).mono ?_; rintro e w3 ⟨rfl, hb3⟩; have HB3 := Lib.hid (below_step HB.out hb3); have hc3 := blk_below HC.out.1 hb3; have hp3 := blk_below HC.out.2.1 hb3; have hz3 := blk_below HC.out.2.2 hb3; have q3 := blk_cell hc3; have r3 := blk_cell hp3; have L3 := HN.out.1.cutLook x.f0 x.f1 HW.out.1 HW.out.2 (w' := w3) HB3.out.block; have HC3 := Lib.hid (And.intro hc3 (And.intro hp3 hz3)); clear hc3 hp3 hz3 hb3))
  all_goals
    obtain ⟨hN3, hp3, hz3⟩ := HC3.out
    have z3 := blk_cell hz3
    have fz3 := blk_frozen hz3
    have HZ3 := Lib.hid hz3
    clear hN3 hp3 hz3 q3 L3
    cases hcut : isCut D x.f0 x.f1
  all_goals
    go_wp2
  all_goals
    clear z3 fz3
  all_goals first
    | (refine bodyPost_ret (results_row_tmp rfl _ _ w.heap.size 28 #[.int .i64 x.f0, .int .i64 x.f1, .slice A x.f2.length c] (0, 0) _ rfl (blk_put (blk_put (blk_put HZ3.out 0 (.int .i64 x.f0) rfl) 1 (.int .i64 x.f1) rfl) 2 (.slice A x.f2.length c) rfl) Try.underlying28 rfl (by kernel_rfl)) rfl ?_
       exact ⟨A, c, rfl, took_end HN.out.1 HN.out.2.1 HN.out.2.2.1 HN.out.2.2.2 HB3.out HZ2.out HV.out (by omega)⟩)
    | (refine bodyPost_ret (results_row_tmp rfl _ _ w.heap.size 28 #[.int .i64 0, .int .i64 0, .slice none 0 0] (0, 0) _ rfl (blk_put (blk_put (blk_put HZ3.out 0 (.int .i64 0) rfl) 1 (.int .i64 0) rfl) 2 (.slice none 0 0) rfl) Try.underlying28 rfl (by kernel_rfl)) rfl ?_
       refine ⟨rfl, ⟨A, c, ?_⟩, ?_⟩
       · exact (took_end HN.out.1 HN.out.2.1 HN.out.2.2.1 HN.out.2.2.2 HB3.out HZ2.out HV.out (by omega)).1
       · exact (took_end HN.out.1 HN.out.2.1 HN.out.2.2.1 HN.out.2.2.2 HB3.out HZ2.out HV.out (by omega)).2)
end Go.Proofs.Ytalaghkpbdaonaa

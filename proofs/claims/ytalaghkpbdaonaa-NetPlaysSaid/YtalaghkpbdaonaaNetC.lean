/- Send with room: what it computes. No conditions. -/
import Derived.Test.YtalaghkpbdaonaaNetB
namespace Go.Proofs.Ytalaghkpbdaonaa
open Go Go.RowKit H Go.Proofs.YtalaghkpbdaonaaW.PrintWords

/-- What a call may have changed: the net's block and its list's. -/
def NetMoved (w w' : World) (base N : Nat) (v : Value) : Prop := Below base w w' ∧ ∀ k, k < w.heap.size → k ≠ N → some k ≠ v.ownBlock → w'.heap[k]? = w.heap[k]?

/-- The net behind a packet more: its list's new row, and its block's new word. -/
theorem NetIn.sent {w w2 w5 : World} {base N M : Nat} {v v2 : Value} {ps : List S28} {D : DataW Unit} {m : Nat} {x y : Int} {xs : List Int} {A5 : Option Addr} {c5 : Nat} {o : Obj} {cs : List Value} {row : Option Nat} (h : NetIn w base N M v ps D m) (hrep : Reps (k28.M w base (fun _ => True)) 3 ps cs) (hb2 : Below w.heap.size w w2)
    (hR2 : (Kd.int .u8).R 5 w2 w.heap.size (fun _ => True) v2 xs) (hown : w5.ownsRow base 28 3 (.slice A5 (ps.length + 1) c5) (ps.length + 1) (cs ++ [.int .i64 x, .int .i64 y, v2])) (hg : (w2.alloc o).grownBy w5 row) (hrow : row = none ∨ ∃ g cur, row = some g ∧ base ≤ g ∧ w.heap[g]? = some (.cells cur 28 (0, 0)))
    (hA : A5 = none ∨ ∃ g5 cur, A5 = some ⟨g5, 0, none⟩ ∧ w5.heap[g5]? = some (.cells cur 28 (0, 0))) (hro : ∀ g, row = some g → some g = v.ownBlock) :
    NetIn (w5.setCell ⟨N, 0, none⟩ (.slice A5 (ps.length + 1) c5)) base N M (.slice A5 (ps.length + 1) c5) (ps ++ [⟨x, y, xs⟩]) D m ∧ NetMoved w (w5.setCell ⟨N, 0, none⟩ (.slice A5 (ps.length + 1) c5)) base N v := by
  have lt : ∀ {W : World} {k : Nat} {o : Obj}, W.heap[k]? = some o → k < W.heap.size := fun h => (Array.getElem?_eq_some_iff.1 h).1
  obtain ⟨h1, h2, h3, _, es, clock, hm, hm2⟩ := h
  have hNlt := lt h3
  have hMlt := lt hm
  have hsz := hb2.size
  have hsz2 : (w2.alloc o).heap.size = w2.heap.size + 1 := by simp
  -- what is kept from w to w5
  have hkeep : ∀ k, k < w.heap.size → some k ≠ row → w5.heap[k]? = w.heap[k]? := fun k hk hne => by
    rw [hg.block k (by omega) hne, Below.heap_alloc w2 o k (by omega)]
    exact hb2.block k hk
  have hNrow : some N ≠ row := fun e => by
    rcases hrow with rfl | ⟨g, cur, rfl, _, hgh⟩
    · cases e
    · obtain rfl := Option.some.inj e
      rw [h3] at hgh
      injection hgh with hgh
      injection hgh with _ hgh
      cases hgh
  have hMrow : some M ≠ row := fun e => by
    rcases hrow with rfl | ⟨g, cur, rfl, _, hgh⟩
    · cases e
    · obtain rfl := Option.some.inj e
      rw [hm] at hgh
      injection hgh with hgh
      cases hgh
  have hN5 := (hkeep N hNlt hNrow).trans h3
  have hM5 := (hkeep M hMlt hMrow).trans hm
  have hset : ∀ k, k ≠ N → (w5.setCell ⟨N, 0, none⟩ (.slice A5 (ps.length + 1) c5)).heap[k]? = w5.heap[k]? := fun k hk => Below.heap_setCell w5 ⟨N, 0, none⟩ _ k hk
  have hNM : M ≠ N := fun e => by
    subst e
    rw [h3] at hm
    injection hm with hm
    cases hm
  refine ⟨⟨h1, h2, blk_put hN5 0 _ rfl, ⟨cs ++ [.int .i64 x, .int .i64 y, v2], .inl ?_, ?_⟩, es, clock, (hset M hNM).trans hM5, hm2⟩, ?_, ?_⟩
  · rw [List.length_append]
    refine own_move hown (fun k hk => hset k (fun e => ?_))
    subst e
    rcases hA with rfl | ⟨g5, cur, rfl, hg5⟩
    · simp [Value.ownBlock] at hk
    · simp [Value.ownBlock] at hk
      subst hk
      rw [hN5] at hg5
      injection hg5 with hg5
      injection hg5 with _ hg5
      cases hg5
  · refine Reps.snoc (hrep.imp_ (fun p c hp => ?_)) (k28_mkM _ _ _ ⟨x, y, xs⟩ ?_) rfl
    · have hbd := k28.M_bound hp
      refine k28.M_mono (fun _ _ => trivial) (k28.M_move (fun k hk => ?_) hbd)
      obtain ⟨_, hkb, hklt, q, hq, cells, hcl⟩ := hk
      have hq5 : q = 5 := by simpa [k28, Kd.iso, Kd.pair, Kd.slice, Kd.int, Kd.scalar] using hq
      subst hq5
      have hkN : k ≠ N := fun e => by
        subst e
        rw [h3] at hcl
        injection hcl with hcl
        injection hcl with _ hcl
        cases hcl
      rw [hset k hkN]
      refine hkeep k hklt (fun e => ?_)
      rcases hrow with rfl | ⟨g, cur, rfl, _, hgh⟩
      · cases e
      · obtain rfl := Option.some.inj e
        rw [hcl] at hgh
        injection hgh with hgh
        injection hgh with _ hgh
        cases hgh
    · have hbd := Kd.R_bound hR2
      refine Kd.R_lower (Kd.R_mono (Kd.R_move hbd (fun k hk => ?_)) (fun _ _ => trivial)) (Nat.le_trans h1 (Nat.le_of_lt hNlt))
      obtain ⟨_, hkb, hklt, q, hq, cells, hcl⟩ := hk
      rw [hset k (by omega), hg.block k (by omega) (fun e => ?_), Below.heap_alloc w2 o k hklt]
      rcases hrow with rfl | ⟨g, cur, rfl, _, hgh⟩
      · cases e
      · obtain rfl := Option.some.inj e
        have := lt hgh
        omega
  · have hbb : Below base w w5 := ((hb2.mono (Nat.le_trans h1 (Nat.le_of_lt hNlt))).alloc (Nat.le_trans (Nat.le_trans h1 (Nat.le_of_lt hNlt)) hsz) o).grown hg (by rw [hsz2]; omega) (fun q hq => by
      rcases hrow with rfl | ⟨g, cur, rfl, hge, _⟩
      · cases hq
      · obtain rfl := Option.some.inj hq
        exact hge)
    exact hbb.setCell h1 _
  · intro k hk hkN hkv
    rw [hset k hkN]
    refine hkeep k hk (fun e => ?_)
    cases hrw : row with
    | none => rw [hrw] at e; cases e
    | some g =>
      rw [hrw] at e
      have := hro g hrw
      exact hkv (e.trans this)

set_option maxRecDepth 100000 in
set_option maxHeartbeats 4000000 in
theorem send_room {w : World} {base N M : Nat} {v : Value} {ps : List S28} {D : DataW Unit} {m : Nat} (h : NetIn w base N M v ps D m) (hp : ps.length < 256) (x y : Int) (A : Option Addr) (c : Nat) (xs : List Int)
    (hr : Kd.C (Kd.int .u8) w A xs.length xs) (hc : xs.length ≤ c) (hl : xs.length ≤ 140737488355328) :
    Calls Try.prog 11 #[.pointer (some ⟨N, 0, none⟩), .agg #[.int .i64 x, .int .i64 y, .slice A xs.length c]] w fun e w' => e = .returned (.bool true) ∧ ∃ v', NetIn w' base N M v' (ps ++ [⟨x, y, xs⟩]) D m ∧ NetMoved w w' base N v := by
  obtain ⟨i28, hi28, hz0, hz1, hz2⟩ := info_parts info28
  obtain ⟨A1, c1, hv, hc1, hC1⟩ := h.reads
  have hcell := h.cell
  rw [hv] at hcell
  have hk := blk_drew (blk_alloc hcell (.cells #[.int .i64 x, .int .i64 y, .slice A xs.length c] 28))
  have hb0 := blk_drew (heap_alloc_new w (.cells #[.int .i64 x, .int .i64 y, .slice A xs.length c] 28))
  have hd : ¬ (256 : Int) ≤ ps.length := by omega
  obtain ⟨cs, hfl, hrep⟩ := h.list
  have H := Lib.hid h
  have HP := Lib.hid hrep
  have HR := Lib.hid hr
  have hNb : N ≠ w.heap.size := by have := (Array.getElem?_eq_some_iff.1 hcell).1; omega
  have hzb : base ≤ w.heap.size := by have := h.geN; have := (Array.getElem?_eq_some_iff.1 hcell).1; omega
  clear hC1 hr h hrep
  rcases hfl with hown | ⟨g, cur, hvg, hge, hgh, hmax, hsz, hcs⟩
  · have hNv : some N ≠ v.ownBlock := fun e => by
      obtain ⟨cur, hcr⟩ := own_typed hown N e.symm
      rw [hcell] at hcr
      injection hcr with hcr
      injection hcr with _ hcr
      cases hcr
    have hBv : some w.heap.size ≠ v.ownBlock := fun e => by
      have := own_lt hown _ e.symm
      omega
    have hrow : v.ownBlock = none ∨ ∃ g cur, v.ownBlock = some g ∧ base ≤ g ∧ w.heap[g]? = some (.cells cur 28 (0, 0)) := by
      cases ho : v.ownBlock with
      | none => exact .inl rfl
      | some g =>
        obtain ⟨cur, hcr⟩ := own_typed hown g ho
        exact .inr ⟨g, cur, rfl, own_base hown g ho, hcr⟩
    have q := blk_cell (blk_alloc hcell (.cells #[.int .i64 x, .int .i64 y, .slice A xs.length c] 28))
    go_enter Try.func11, Try.ntmps11
    go_wp2
    have qd := blk_cell hk
    have qb := blk_cell hb0
    clear q
    go_region_law (first
        | (refine step_append_lies _ (by rfl) (.tmp 21) (.tmp 24) 22 (by rfl) base 28 i28 (.agg #[(.int .i64 0), (.int .i64 0), (.slice none 0 0)]) 3 40 Try.underlying22 hi28 hz0 hz1 hz2 (by rfl) (by decide) v ps.length cs (by rw [hv]; rfl) (hown2.alloc _) ⟨w2.heap.size, 0, none⟩ 1 1 [.int .i64 x, .int .i64 y, .slice A2 xs.length c2] (by rfl) (by rfl) (World.news_of_block (heap_alloc_new w2 _)) (by simp [Value.oneCell']) (by decide) (by unfold maxLen; omega) (by omega) (by have := hbw.size; simp; omega) (w2.heap.size + 1) (by simp) ?_; intro g5 c5 w5 hown5 hgrow5 hat5 hlt5; have kN5 := blk_grown (blk_alloc kN2 _) hgrow5 hNv; have kB5 := blk_grown (blk_alloc kB2 _) hgrow5 hBv; have q5 := blk_cell kN5; have f5 := blk_frozen kN5)
        | (go_simp; refine (own26 x y A c xs _ (Kd.C_drew (Kd.C_alloc HR.out _)) hc hl).mono ?_; rintro e w2 ⟨v2, rfl, hR2, hb2⟩; obtain ⟨A2, c2, rfl⟩ := Kd.R_slice hR2; have kN2 := blk_below hk hb2; have kB2 := blk_below hb0 hb2; have q2 := blk_cell kN2; have qb2 := blk_cell kB2; have q2a := fun o => blk_cell (blk_alloc kN2 o); have hbw := ((Below.refl w.heap.size w).alloc (Nat.le_refl _) (.cells #[.int .i64 x, .int .i64 y, .slice A xs.length c] 28)).drew.trans (hb2.mono (by simp)); have hown2 := pw_own_below (own_drew (hown.alloc (.cells #[.int .i64 x, .int .i64 y, .slice A xs.length c] 28))) hb2))
    all_goals
      go_wp2
      go_ret
      obtain ⟨cur5, hcr5⟩ := own_typed hown5 g5 rfl
      exact ⟨rfl, _, H.out.sent HP.out hbw (Kd.R_lower hR2 (by simp)) hown5 hgrow5 hrow (.inr ⟨g5, cur5, rfl, hcr5⟩) (fun g e => e.symm)⟩
  · have hlo : cs.length = ps.length * 3 := by
      rw [← hcs, List.length_take, Array.length_toList]
      exact Nat.min_eq_left hsz
    have hold : ∀ w' : World, w'.heap[g]? = some (.cells cur 28 (0, 0)) → ∀ j u, cs[j]? = some u → w'.cell? ((⟨g, 0, none⟩ : Addr).add j) = some u := fun w' hb j u hu => by
      have hjl := (List.getElem?_eq_some_iff.1 hu).1
      rw [← hcs, List.getElem?_take, if_pos (by omega)] at hu
      have hu2 : cur[j]? = some u := by rw [← Array.getElem?_toList]; exact hu
      have hadd : (⟨g, 0, none⟩ : Addr).add j = ⟨g, j, none⟩ := by simp [add_plain]
      rw [hadd, blk_cell hb, hu2]
    rw [hvg] at hv
    injection hv with hv1 _ hv3
    subst hv1 hv3
    have q := blk_cell (blk_alloc hcell (.cells #[.int .i64 x, .int .i64 y, .slice A xs.length c] 28))
    go_enter Try.func11, Try.ntmps11
    go_wp2
    have qd := blk_cell hk
    have qb := blk_cell hb0
    clear q
    go_region_law (first
        | (refine step_append_grows (by rfl) (.tmp 21) (.tmp 24) 22 (by rfl) 28 i28 (.agg #[(.int .i64 0), (.int .i64 0), (.slice none 0 0)]) 3 40 Try.underlying22 hi28 hz0 hz1 hz2 (by rfl) (by decide) (some ⟨g, 0, none⟩) ps.length ps.length cs (by rfl) (fun e => by cases e) hlo (fun b hb j u hu => by obtain rfl := Option.some.inj hb; exact hold _ (blk_alloc kG2 _) j u hu) ⟨w2.heap.size, 0, none⟩ 1 1 [.int .i64 x, .int .i64 y, .slice A2 xs.length c2] (by rfl) (by rfl) (World.news_of_block (heap_alloc_new w2 _)) (by simp [Value.oneCell']) (by omega) (by unfold maxLen; omega) (by omega) ?_; intro v5 w5 hown5 hgrow5; obtain ⟨A5, c5, rfl⟩ := row_val hown5; have kN5 := blk_grown (blk_alloc kN2 _) hgrow5 (by simp); have q5 := blk_cell kN5; have f5 := blk_frozen kN5)
        | (go_simp; refine (own26 x y A c xs _ (Kd.C_drew (Kd.C_alloc HR.out _)) hc hl).mono ?_; rintro e w2 ⟨v2, rfl, hR2, hb2⟩; obtain ⟨A2, c2, rfl⟩ := Kd.R_slice hR2; have kN2 := blk_below hk hb2; have kB2 := blk_below hb0 hb2; have kG2 := blk_below (blk_drew (blk_alloc hgh (.cells #[.int .i64 x, .int .i64 y, .slice A xs.length c] 28))) hb2; have q2 := blk_cell kN2; have qb2 := blk_cell kB2; have q2a := fun o => blk_cell (blk_alloc kN2 o); have hbw := ((Below.refl w.heap.size w).alloc (Nat.le_refl _) (.cells #[.int .i64 x, .int .i64 y, .slice A xs.length c] 28)).drew.trans (hb2.mono (by simp))))
    all_goals
      go_wp2
      go_ret
      refine ⟨rfl, _, H.out.sent HP.out hbw (Kd.R_lower hR2 (by simp)) (own_weaken hown5 (by have := hbw.size; simp; omega)) hgrow5 (.inl rfl) ?_ (fun g e => by cases e)⟩
      rcases hown5.2 with ⟨h5, h6⟩ | ⟨g5, c6, cur5, h5, _, hcr5, _⟩
      · omega
      · injection h5 with h5
        exact .inr ⟨g5, cur5, h5, hcr5⟩
end Go.Proofs.Ytalaghkpbdaonaa

/- The net and the reference beside each other. No conditions. -/
import Derived.Test.YtalaghkpbdaonaaRefM
import Derived.Test.YtalaghkpbdaonaaNetV
import Derived.Test.YtalaghkpbdaonaaCounts
namespace Go.Proofs.Ytalaghkpbdaonaa
open Go Go.RowKit H Go.Proofs.YtalaghkpbdaonaaW.PrintWords

/-- No body of the list lies at this block. -/
def Free (w : World) (base gb : Nat) (v : Value) (ps : List S28) : Prop := ∃ cs, Flight w base v ps.length cs ∧ Reps (k28.M w base (fun k => k ≠ gb)) 3 ps cs

theorem reps_free {w W : World} {base : Nat} {ok : Nat → Prop} {ps : List S28} {xs : List Value} (hr : Reps (k28.M w base ok) 3 ps xs) (hk : ∀ k cells fr, base ≤ k → k < w.heap.size → ok k → w.heap[k]? = some (.cells cells 5 fr) → W.heap[k]? = w.heap[k]?) : Reps (k28.M W base ok) 3 ps xs := by
  refine hr.imp_ (fun p c hp => ?_)
  have hb := k28.M_bound hp
  refine k28.M_mono (fun _ h => h.1) (k28.M_move (fun k hk2 => ?_) hb)
  obtain ⟨hok, hkb, hklt, q, hq, cells, hcl⟩ := hk2
  have hq5 : q = 5 := by simpa [k28, Kd.iso, Kd.pair, Kd.slice, Kd.int, Kd.scalar] using hq
  subst hq5
  exact hk k _ _ hkb hklt hok hcl

theorem body_free {w W : World} {base : Nat} {ok : Nat → Prop} {v : Value} {xs : List Int} (h : (Kd.int .u8).R 5 w base ok v xs) (hk : ∀ k cells fr, base ≤ k → k < w.heap.size → ok k → w.heap[k]? = some (.cells cells 5 fr) → W.heap[k]? = w.heap[k]?) : (Kd.int .u8).R 5 W base ok v xs := by
  refine Kd.R_mono (Kd.R_move (Kd.R_bound h) (fun k hk2 => ?_)) (fun _ h => h.1)
  obtain ⟨hok, hkb, hklt, q, hq, cells, hcl⟩ := hk2
  have hq5 : q = 5 := by simpa [Kd.int, Kd.scalar] using hq
  subst hq5
  exact hk k _ _ hkb hklt hok hcl

/-- A body that is younger than a block lies elsewhere. -/
theorem body_young {w : World} {b base gb : Nat} {v : Value} {xs : List Int} (h : (Kd.int .u8).R 5 w b (fun _ => True) v xs) (hb : base ≤ b) (hg : gb < b) : (Kd.int .u8).R 5 w base (fun k => k ≠ gb) v xs := by
  refine Kd.R_lower (Kd.R_mono (Kd.R_bound h) (fun k hk2 => ?_)) hb
  have := hk2.2.1
  omega

/-- What a net of an elder world holds lies elsewhere. -/
theorem Free.old {w : World} {base N M gb : Nat} {v : Value} {ps : List S28} {D : DataW Unit} {m : Nat} (h : NetIn w base N M v ps D m) (hg : w.heap.size ≤ gb) : Free w base gb v ps := by
  obtain ⟨cs, hf, hr⟩ := h.list
  refine ⟨cs, hf, hr.imp_ (fun p c hp => k28.M_mono (fun k hk => ?_) (k28.M_bound hp))⟩
  have := hk.2.2.1
  omega

theorem Free.below {w w' : World} {base gb : Nat} {v : Value} {ps : List S28} (h : Free w base gb v ps) (hb : Below w.heap.size w w') : Free w' base gb v ps := by
  obtain ⟨cs, hf, hr⟩ := h
  refine ⟨cs, ?_, reps_free hr (fun k _ _ _ hl _ _ => hb.block k hl)⟩
  rcases hf with hf | ⟨g, cur, rfl, hg, hh, rest⟩
  · exact .inl (pw_own_below hf hb)
  · exact .inr ⟨g, cur, rfl, hg, blk_below hh hb, rest⟩

theorem sentFree {w w2 w5 : World} {base N M gb : Nat} {v v2 : Value} {ps : List S28} {D : DataW Unit} {m : Nat} {x y : Int} {xs : List Int} {A5 : Option Addr} {c5 : Nat} {o : Obj} {cs : List Value} {row : Option Nat} (h : NetIn w base N M v ps D m) (hrep : Reps (k28.M w base (fun k => k ≠ gb)) 3 ps cs) (hgb : gb < w.heap.size) (hb2 : Below w.heap.size w w2)
    (hR2 : (Kd.int .u8).R 5 w2 w.heap.size (fun _ => True) v2 xs) (hown : w5.ownsRow base 28 3 (.slice A5 (ps.length + 1) c5) (ps.length + 1) (cs ++ [.int .i64 x, .int .i64 y, v2])) (hg : (w2.alloc o).grownBy w5 row) (hrow : row = none ∨ ∃ g cur, row = some g ∧ base ≤ g ∧ w.heap[g]? = some (.cells cur 28 (0, 0))) :
    Free (w5.setCell ⟨N, 0, none⟩ (.slice A5 (ps.length + 1) c5)) base gb (.slice A5 (ps.length + 1) c5) (ps ++ [⟨x, y, xs⟩]) := by
  obtain ⟨h1, h2, h3, _, es, clock, hm, hm2⟩ := h
  have hsz := hb2.size
  have hsz2 : (w2.alloc o).heap.size = w2.heap.size + 1 := by simp
  have hNlt := blk_lt h3
  have hset : ∀ k, k ≠ N → (w5.setCell ⟨N, 0, none⟩ (.slice A5 (ps.length + 1) c5)).heap[k]? = w5.heap[k]? := fun k hk => Below.heap_setCell w5 ⟨N, 0, none⟩ _ k hk
  have hkeep2 : ∀ k cells fr, k < w2.heap.size → w2.heap[k]? = some (.cells cells 5 fr) → w5.heap[k]? = w2.heap[k]? := fun k cells fr hk hc => by
    rw [hg.block k (by omega) (fun e => ?_), Below.heap_alloc w2 o k hk]
    rcases hrow with rfl | ⟨g, cur, rfl, _, hgh⟩
    · cases e
    · obtain rfl := Option.some.inj e
      rw [← hb2.block _ (blk_lt hgh)] at hgh
      exact ty_ne hc hgh (by decide) rfl
  have hN2 : w2.heap[N]? = _ := (hb2.block N hNlt).trans h3
  have hN5 : w5.heap[N]? = some (.cells #[v, .map (some M)] 56 (0, 0)) := by
    rw [hg.block N (by omega) (fun e => ?_), Below.heap_alloc w2 o N (by omega)]
    · exact hN2
    · rcases hrow with rfl | ⟨g, cur, rfl, _, hgh⟩
      · cases e
      · obtain rfl := Option.some.inj e
        exact ty_ne h3 hgh (by decide) rfl
  refine ⟨cs ++ [.int .i64 x, .int .i64 y, v2], .inl ?_, Reps.snoc (reps_free hrep (fun k cells fr _ hl _ hc => ?_)) (k28_mkM _ _ _ ⟨x, y, xs⟩ ?_) rfl⟩
  · rw [List.length_append]
    refine own_move hown (fun k hk => hset k ?_)
    obtain ⟨cells, hc⟩ := own_typed hown k hk
    exact ty_ne hc hN5 (by decide)
  · have hc2 := (hb2.block k hl).trans hc
    rw [hset k (ty_ne hc h3 (by decide)), hkeep2 k _ _ (by omega) hc2]
    exact hb2.block k hl
  · refine body_free (body_young hR2 (Nat.le_trans h1 (Nat.le_of_lt hNlt)) hgb) (fun k cells fr _ hl _ hc => ?_)
    rw [hset k (ty_ne hc hN2 (by decide))]
    exact hkeep2 k _ _ hl hc

set_option maxRecDepth 100000 in
set_option maxHeartbeats 4000000 in
theorem send_free {w : World} {base N M : Nat} {v : Value} {ps : List S28} {D : DataW Unit} {m : Nat} (h : NetIn w base N M v ps D m) (gb : Nat) (hgb : gb < w.heap.size) (hfr : Free w base gb v ps) (hp : ps.length < 256) (x y : Int) (A : Option Addr) (c : Nat) (xs : List Int)
    (hr : Kd.C (Kd.int .u8) w A xs.length xs) (hc : xs.length ≤ c) (hl : xs.length ≤ 140737488355328) :
    Calls Try.prog 11 #[.pointer (some ⟨N, 0, none⟩), .agg #[.int .i64 x, .int .i64 y, .slice A xs.length c]] w fun e w' => e = .returned (.bool true) ∧ ∃ v', NetIn w' base N M v' (ps ++ [⟨x, y, xs⟩]) D m ∧ NetMoved w w' base N v ∧ Stays w v v' ∧ Free w' base gb v' (ps ++ [⟨x, y, xs⟩]) := by
  obtain ⟨i28, hi28, hz0, hz1, hz2⟩ := info_parts info28
  obtain ⟨A1, c1, hv, hc1, hC1⟩ := h.reads
  have hcell := h.cell
  rw [hv] at hcell
  have hk := blk_drew (blk_alloc hcell (.cells #[.int .i64 x, .int .i64 y, .slice A xs.length c] 28))
  have hb0 := blk_drew (heap_alloc_new w (.cells #[.int .i64 x, .int .i64 y, .slice A xs.length c] 28))
  have hd : ¬ (256 : Int) ≤ ps.length := by omega
  obtain ⟨cs, hfl, hrepok⟩ := hfr
  have hrep := hrepok.imp_ (fun p c hp => k28.M_mono (fun _ _ => trivial) hp)
  have HF := Lib.hid (And.intro hrepok hgb)
  clear hrepok hgb
  have H := Lib.hid h
  have HP := Lib.hid hrep
  have HR := Lib.hid hr
  have hNb : N ≠ w.heap.size := by have := (Array.getElem?_eq_some_iff.1 hcell).1; omega
  have hzb : base ≤ w.heap.size := by have := h.geN; have := (Array.getElem?_eq_some_iff.1 hcell).1; omega
  clear hC1 hr h hrep
  rcases hfl with hown | ⟨g, cur, hvg, hge, hgh, hmax, hsz, hcs⟩
  · have hNv : some N ≠ v.ownBlock := fun e => by
      obtain ⟨cur, hcr⟩ := own_typed hown N e.symm
      rw [hcell] at hcr
      injection hcr with hcr
      injection hcr with _ hcr
      cases hcr
    have hBv : some w.heap.size ≠ v.ownBlock := fun e => by
      have := own_lt hown _ e.symm
      omega
    have hrow : v.ownBlock = none ∨ ∃ g cur, v.ownBlock = some g ∧ base ≤ g ∧ w.heap[g]? = some (.cells cur 28 (0, 0)) := by
      cases ho : v.ownBlock with
      | none => exact .inl rfl
      | some g =>
        obtain ⟨cur, hcr⟩ := own_typed hown g ho
        exact .inr ⟨g, cur, rfl, own_base hown g ho, hcr⟩
    have q := blk_cell (blk_alloc hcell (.cells #[.int .i64 x, .int .i64 y, .slice A xs.length c] 28))
    go_enter Try.func11, Try.ntmps11
    go_wp2
    have qd := blk_cell hk
    have qb := blk_cell hb0
    clear q
    go_region_law (first
        | (refine step_append_lies _ (by rfl) (.tmp 21) (.tmp 24) 22 (by rfl) base 28 i28 (.agg #[(.int .i64 0), (.int .i64 0), (.slice none 0 0)]) 3 40 Try.underlying22 hi28 hz0 hz1 hz2 (by rfl) (by decide) v ps.length cs (by rw [hv]; rfl) (hown2.alloc _) ⟨w2.heap.size, 0, none⟩ 1 1 [.int .i64 x, .int .i64 y, .slice A2 xs.length c2] (by rfl) (by rfl) (World.news_of_block (heap_alloc_new w2 _)) (by simp [Value.oneCell']) (by decide) (by unfold maxLen; omega) (by omega) (by have := hbw.size; simp; omega) (w2.heap.size + 1) (by simp) ?_; intro g5 c5 w5 hown5 hgrow5 hat5 hlt5; have kN5 := blk_grown (blk_alloc kN2 _) hgrow5 hNv; have kB5 := blk_grown (blk_alloc kB2 _) hgrow5 hBv; have q5 := blk_cell kN5; have f5 := blk_frozen kN5)
        | (go_simp; refine (own26 x y A c xs _ (Kd.C_drew (Kd.C_alloc HR.out _)) hc hl).mono ?_; rintro e w2 ⟨v2, rfl, hR2, hb2⟩; obtain ⟨A2, c2, rfl⟩ := Kd.R_slice hR2; have kN2 := blk_below hk hb2; have kB2 := blk_below hb0 hb2; have q2 := blk_cell kN2; have qb2 := blk_cell kB2; have q2a := fun o => blk_cell (blk_alloc kN2 o); have hbw := ((Below.refl w.heap.size w).alloc (Nat.le_refl _) (.cells #[.int .i64 x, .int .i64 y, .slice A xs.length c] 28)).drew.trans (hb2.mono (by simp)); have hown2 := pw_own_below (own_drew (hown.alloc (.cells #[.int .i64 x, .int .i64 y, .slice A xs.length c] 28))) hb2))
    all_goals
      go_wp2
      go_ret
      obtain ⟨cur5, hcr5⟩ := own_typed hown5 g5 rfl
      have E := H.out.sent HP.out hbw (Kd.R_lower hR2 (by simp)) hown5 hgrow5 hrow (.inr ⟨g5, cur5, rfl, hcr5⟩) (fun g e => e.symm)
      refine ⟨rfl, _, E.1, E.2, fun g hg => ?_, sentFree H.out HF.out.1 HF.out.2 hbw (Kd.R_lower hR2 (by simp)) hown5 hgrow5 hrow⟩
      obtain rfl : g5 = g := by simpa [Value.ownBlock] using hg
      rcases hat5 with h5 | h5
      · exact .inl h5
      · have := hbw.size
        exact .inr (by omega)
  · have hlo : cs.length = ps.length * 3 := by
      rw [← hcs, List.length_take, Array.length_toList]
      exact Nat.min_eq_left hsz
    have hold : ∀ w' : World, w'.heap[g]? = some (.cells cur 28 (0, 0)) → ∀ j u, cs[j]? = some u → w'.cell? ((⟨g, 0, none⟩ : Addr).add j) = some u := fun w' hb j u hu => by
      have hjl := (List.getElem?_eq_some_iff.1 hu).1
      rw [← hcs, List.getElem?_take, if_pos (by omega)] at hu
      have hu2 : cur[j]? = some u := by rw [← Array.getElem?_toList]; exact hu
      have hadd : (⟨g, 0, none⟩ : Addr).add j = ⟨g, j, none⟩ := by simp [add_plain]
      rw [hadd, blk_cell hb, hu2]
    rw [hvg] at hv
    injection hv with hv1 _ hv3
    subst hv1 hv3
    have q := blk_cell (blk_alloc hcell (.cells #[.int .i64 x, .int .i64 y, .slice A xs.length c] 28))
    go_enter Try.func11, Try.ntmps11
    go_wp2
    have qd := blk_cell hk
    have qb := blk_cell hb0
    clear q
    go_region_law (first
        | (refine step_append_grows (by rfl) (.tmp 21) (.tmp 24) 22 (by rfl) 28 i28 (.agg #[(.int .i64 0), (.int .i64 0), (.slice none 0 0)]) 3 40 Try.underlying22 hi28 hz0 hz1 hz2 (by rfl) (by decide) (some ⟨g, 0, none⟩) ps.length ps.length cs (by rfl) (fun e => by cases e) hlo (fun b hb j u hu => by obtain rfl := Option.some.inj hb; exact hold _ (blk_alloc kG2 _) j u hu) ⟨w2.heap.size, 0, none⟩ 1 1 [.int .i64 x, .int .i64 y, .slice A2 xs.length c2] (by rfl) (by rfl) (World.news_of_block (heap_alloc_new w2 _)) (by simp [Value.oneCell']) (by omega) (by unfold maxLen; omega) (by omega) ?_; intro v5 w5 hown5 hgrow5; obtain ⟨A5, c5, rfl⟩ := row_val hown5; have kN5 := blk_grown (blk_alloc kN2 _) hgrow5 (by simp); have q5 := blk_cell kN5; have f5 := blk_frozen kN5)
        | (go_simp; refine (own26 x y A c xs _ (Kd.C_drew (Kd.C_alloc HR.out _)) hc hl).mono ?_; rintro e w2 ⟨v2, rfl, hR2, hb2⟩; obtain ⟨A2, c2, rfl⟩ := Kd.R_slice hR2; have kN2 := blk_below hk hb2; have kB2 := blk_below hb0 hb2; have kG2 := blk_below (blk_drew (blk_alloc hgh (.cells #[.int .i64 x, .int .i64 y, .slice A xs.length c] 28))) hb2; have q2 := blk_cell kN2; have qb2 := blk_cell kB2; have q2a := fun o => blk_cell (blk_alloc kN2 o); have hbw := ((Below.refl w.heap.size w).alloc (Nat.le_refl _) (.cells #[.int .i64 x, .int .i64 y, .slice A xs.length c] 28)).drew.trans (hb2.mono (by simp))))
    all_goals
      go_wp2
      go_ret
      have hA5 : A5 = none ∨ ∃ g5 cur, A5 = some ⟨g5, 0, none⟩ ∧ w5.heap[g5]? = some (.cells cur 28 (0, 0)) := by
        rcases hown5.2 with ⟨h5, h6⟩ | ⟨g5, c6, cur5, h5, _, hcr5, _⟩
        · omega
        · injection h5 with h5
          exact .inr ⟨g5, cur5, h5, hcr5⟩
      have E := H.out.sent HP.out hbw (Kd.R_lower hR2 (by simp)) (own_weaken hown5 (by have := hbw.size; simp; omega)) hgrow5 (.inl rfl) hA5 (fun g e => by cases e)
      refine ⟨rfl, _, E.1, E.2, fun g hg => ?_, sentFree H.out HF.out.1 HF.out.2 hbw (Kd.R_lower hR2 (by simp)) (own_weaken hown5 (by have := hbw.size; simp; omega)) hgrow5 (.inl rfl)⟩
      have h1 := own_base hown5 g hg
      have := hbw.size
      simp at h1
      exact .inr (by omega)
end Go.Proofs.Ytalaghkpbdaonaa

namespace Go.Proofs.Ytalaghkpbdaonaa
open Go Go.RowKit H Go.Proofs.YtalaghkpbdaonaaW.PrintWords

/-- No body of the reference's list lies at this block. -/
def RefFree (w : World) (base gb : Nat) (lv : Value) (ps : List S28) : Prop := ∃ xs, w.ownsRow base 28 3 lv ps.length xs ∧ Reps (k28.M w base (fun k => k ≠ gb)) 3 ps xs

theorem RefFree.old {w : World} {base R gb : Nat} {lv cv : Value} {ps : List S28} {cs : List (Int × Int)} (h : RefIn w base R lv cv ps cs) (hg : w.heap.size ≤ gb) : RefFree w base gb lv ps := by
  obtain ⟨xs, hf, hr⟩ := h.list
  refine ⟨xs, hf, hr.imp_ (fun p c hp => k28.M_mono (fun k hk => ?_) (k28.M_bound hp))⟩
  have := hk.2.2.1
  omega

theorem refSentFree {w w1 w5 : World} {base R g5 c5 gb : Nat} {lv cv v2 : Value} {ps : List S28} {cs : List (Int × Int)} {x : S28} {xs : List Value} (h : RefIn w base R lv cv ps cs) (hx : w.ownsRow base 28 3 lv ps.length xs) (hr : Reps (k28.M w base (fun k => k ≠ gb)) 3 ps xs)
    (hb : Below w.heap.size w w1) (hg : w1.grownBy w5 lv.ownBlock) (hown : w5.ownsRow base 28 3 (.slice (some ⟨g5, 0, none⟩) (ps.length + 1) c5) (ps.length + 1) (xs ++ [.int .i64 x.f0, .int .i64 x.f1, v2]))
    (hR : (Kd.int .u8).R 5 w base (fun k => k ≠ gb) v2 x.f2) :
    RefFree (w5.setCell ⟨R, 0, none⟩ (.slice (some ⟨g5, 0, none⟩) (ps.length + 1) c5)) base gb (.slice (some ⟨g5, 0, none⟩) (ps.length + 1) c5) (ps ++ [x]) := by
  obtain ⟨h1, h2, _, h3⟩ := h
  have hkeep : ∀ k, k < w.heap.size → some k ≠ lv.ownBlock → w5.heap[k]? = w.heap[k]? := fun k hk hne => (hg.block k (Nat.lt_of_lt_of_le hk hb.size) hne).trans (hb.block k hk)
  have hset : ∀ k, k ≠ R → (w5.setCell ⟨R, 0, none⟩ (.slice (some ⟨g5, 0, none⟩) (ps.length + 1) c5)).heap[k]? = w5.heap[k]? := fun k hk => Below.heap_setCell w5 ⟨R, 0, none⟩ _ k hk
  have hty : ∀ {k : Nat} {cells : Array Value} {t : TypeId} {fr : Nat × Nat}, w.heap[k]? = some (.cells cells t fr) → t ≠ 28 → some k ≠ lv.ownBlock := fun hc ht e => by
    obtain ⟨cells', hc'⟩ := own_typed hx _ e.symm
    exact ty_ne hc hc' ht rfl
  have hR5 := (hkeep R (blk_lt h2) (hty h2 (by decide))).trans h2
  have hall : ∀ {k : Nat} {cells : Array Value} {t : TypeId} {fr : Nat × Nat}, w.heap[k]? = some (.cells cells t fr) → t ≠ 28 → t ≠ 47 → (w5.setCell ⟨R, 0, none⟩ (.slice (some ⟨g5, 0, none⟩) (ps.length + 1) c5)).heap[k]? = w.heap[k]? := fun hc ht ht2 => (hset _ (ty_ne hc h2 ht2)).trans (hkeep _ (blk_lt hc) (hty hc ht))
  refine ⟨xs ++ [.int .i64 x.f0, .int .i64 x.f1, v2], ?_, ?_⟩
  · rw [List.length_append]
    refine own_move hown (fun k hk => hset k ?_)
    obtain ⟨cells, hc⟩ := own_typed hown k hk
    exact ty_ne hc hR5 (by decide)
  · exact Reps.snoc (reps_free hr (fun k cells fr _ _ _ hc => hall hc (by decide) (by decide))) (k28_mkM _ _ _ x (body_free hR (fun k cells fr _ _ _ hc => hall hc (by decide) (by decide)))) rfl

set_option maxRecDepth 100000 in
set_option maxHeartbeats 4000000 in
theorem ref_send_free {w : World} {base R : Nat} {lv cv : Value} {ps : List S28} {cs : List (Int × Int)} (h : RefIn w base R lv cv ps cs) (gb : Nat) (hfr : RefFree w base gb lv ps) (hp : ps.length < 256) (x : S28) (A : Option Addr) (c : Nat) (hRok : (Kd.int .u8).R 5 w base (fun k => k ≠ gb) (.slice A x.f2.length c) x.f2) :
    Calls Try.prog 21 #[.pointer (some ⟨R, 0, none⟩), .agg #[.int .i64 x.f0, .int .i64 x.f1, .slice A x.f2.length c]] w fun e w' => e = .returned (.bool true) ∧ ∃ lv', RefIn w' base R lv' cv (ps ++ [x]) cs ∧ NetMoved w w' base R lv ∧ Stays w lv lv' ∧ RefFree w' base gb lv' (ps ++ [x]) := by
  obtain ⟨i28, hi28, hz0, hz1, hz2⟩ := info_parts info28
  obtain ⟨A1, c1, hv⟩ := h.form
  have hcell := h.cell
  rw [hv] at hcell
  obtain ⟨xs, hx, hrok⟩ := hfr
  have hr := hrok.imp_ (fun p c hp => k28.M_mono (fun _ _ => trivial) hp)
  have hR : (Kd.int .u8).R 5 w base (fun _ => True) (.slice A x.f2.length c) x.f2 := Kd.R_mono hRok (fun _ _ => trivial)
  have HF := Lib.hid (And.intro hrok hRok)
  clear hrok hRok
  have H := Lib.hid (And.intro h (And.intro hr hR))
  have hRlt := blk_lt hcell
  have hRb : R ≠ w.heap.size := by omega
  have hzb : base ≤ w.heap.size := by have := h.geR; omega
  have hRv : some R ≠ lv.ownBlock := fun e => by
    obtain ⟨cur, hcr⟩ := own_typed hx R e.symm
    exact ty_ne hcell hcr (by decide) rfl
  have hBv : some w.heap.size ≠ lv.ownBlock := fun e => by
    have := own_lt hx _ e.symm
    omega
  have hk := blk_drew (blk_alloc hcell (.cells #[.int .i64 x.f0, .int .i64 x.f1, .slice A x.f2.length c] 28))
  have hb0 := blk_drew (heap_alloc_new w (.cells #[.int .i64 x.f0, .int .i64 x.f1, .slice A x.f2.length c] 28))
  have q := blk_cell (blk_alloc hcell (.cells #[.int .i64 x.f0, .int .i64 x.f1, .slice A x.f2.length c] 28))
  have hd : ¬ (256 : Int) ≤ ps.length := by omega
  have HX := Lib.hid hx
  have hown2 := own_drew (hx.alloc (.cells #[.int .i64 x.f0, .int .i64 x.f1, .slice A x.f2.length c] 28))
  clear h hr hR hx
  go_enter Try.func21, Try.ntmps21
  go_wp2
  have qd := blk_cell hk
  have qb := blk_cell hb0
  have q0 := blk_cell hcell
  have q1 := blk_cell (heap_alloc_new w (.cells #[.int .i64 x.f0, .int .i64 x.f1, .slice A x.f2.length c] 28))
  go_region_law (refine step_append_lies _ (by rfl) (.tmp 15) (.tmp 17) 22 (by rfl) base 28 i28 (.agg #[(.int .i64 0), (.int .i64 0), (.slice none 0 0)]) 3 40 Try.underlying22 hi28 hz0 hz1 hz2 (by rfl) (by decide) lv ps.length xs (by rw [hv]; rfl) (hown2.alloc _) ⟨w.heap.size + 1, 0, none⟩ 1 1 [.int .i64 x.f0, .int .i64 x.f1, .slice A x.f2.length c] (by rfl) (by rfl) (World.news_of_block (alloc2_at w _ _).1) (by simp [Value.oneCell']) (by decide) (by unfold maxLen; omega) (by omega) (by simp; omega) (w.heap.size + 1 + 1) (by simp) ?_; intro g5 c5 w5 hown5 hgrow5 hat5 hlt5; have kN5 := blk_grown (blk_alloc hk _) hgrow5 hRv; have q5 := blk_cell kN5; have f5 := blk_frozen kN5)
  all_goals
    go_wp2
    go_ret
    first
      | (have hbw := (((Below.refl w.heap.size w).alloc (Nat.le_refl _) (.cells #[.int .i64 x.f0, .int .i64 x.f1, .slice A x.f2.length c] 28)).drew).alloc (by simp) (.cells #[.int .i64 x.f0, .int .i64 x.f1, .slice A x.f2.length c] 28); have E := H.out.1.sent HX.out H.out.2.1 hbw hgrow5 hown5 H.out.2.2 (hat5.imp id (fun e => by omega)); exact ⟨rfl, _, E.1, E.2.1, E.2.2, refSentFree H.out.1 HX.out HF.out.1 hbw hgrow5 hown5 HF.out.2⟩)
      | (have hbw := (((Below.refl w.heap.size w).alloc (Nat.le_refl _) (.cells #[.int .i64 x.f0, .int .i64 x.f1, .slice A x.f2.length c] 28)).alloc (by simp) (.cells #[.int .i64 x.f0, .int .i64 x.f1, .slice A x.f2.length c] 28)).drew; have E := H.out.1.sent HX.out H.out.2.1 hbw hgrow5 hown5 H.out.2.2 (hat5.imp id (fun e => by omega)); exact ⟨rfl, _, E.1, E.2.1, E.2.2, refSentFree H.out.1 HX.out HF.out.1 hbw hgrow5 hown5 HF.out.2⟩)
end Go.Proofs.Ytalaghkpbdaonaa

namespace Go.Proofs.Ytalaghkpbdaonaa
open Go Go.RowKit H Go.Proofs.YtalaghkpbdaonaaW.PrintWords Strict

theorem NetIn.typed {w : World} {base N M g : Nat} {v : Value} {ps : List S28} {D : DataW Unit} {m : Nat} (h : NetIn w base N M v ps D m) (hg : v.ownBlock = some g) : base ≤ g ∧ ∃ cells, w.heap[g]? = some (.cells cells 28 (0, 0)) := by
  obtain ⟨cs, hf, _⟩ := h.list
  rcases hf with hf | ⟨g2, cur, rfl, hb, hh, _⟩
  · exact ⟨own_base hf g hg, own_typed hf g hg⟩
  · obtain rfl : g2 = g := by simpa [Value.ownBlock] using hg
    exact ⟨hb, _, hh⟩

/-- A net whose memory is kept, but for the reference's own. -/
theorem NetIn.keepR {w w' : World} {base N M : Nat} {v : Value} {ps : List S28} {D : DataW Unit} {m : Nat} (h : NetIn w base N M v ps D m)
    (hk : ∀ k, base ≤ k → k < w.heap.size → (∀ cells t fr, w.heap[k]? = some (.cells cells t fr) → t ≠ 47 ∧ t ≠ 37 ∧ (t = 28 → v.ownBlock = some k)) → w'.heap[k]? = w.heap[k]?) : NetIn w' base N M v ps D m := by
  have hty := fun {g : Nat} (hg : v.ownBlock = some g) => h.typed hg
  obtain ⟨h1, h2, h3, ⟨cs, hf, hr⟩, es, clock, hm, hm2⟩ := h
  have hin : ∀ {k : Nat} {cells : Array Value} {t : TypeId} {fr : Nat × Nat}, w.heap[k]? = some (.cells cells t fr) → t ≠ 47 → t ≠ 37 → (t = 28 → v.ownBlock = some k) → ∀ cells' t' fr', w.heap[k]? = some (.cells cells' t' fr') → t' ≠ 47 ∧ t' ≠ 37 ∧ (t' = 28 → v.ownBlock = some k) := fun hc a b d cells' t' fr' hc' => by
    rw [hc] at hc'
    injection hc' with hc'
    injection hc' with _ hc' _
    subst hc'
    exact ⟨a, b, d⟩
  refine ⟨h1, h2, (hk _ h1 (blk_lt h3) (hin h3 (by decide) (by decide) (fun e => by cases e))).trans h3, ⟨cs, ?_, reps_keep hr (fun k cells fr hb hl hc => hk k hb hl (hin hc (by decide) (by decide) (fun e => by cases e)))⟩, es, clock, (hk _ h2 (blk_lt hm) (fun cells t fr hc => by rw [hm] at hc; injection hc with hc; cases hc)).trans hm, hm2⟩
  rcases hf with hf | ⟨g, cur, rfl, hg, hh, rest⟩
  · refine .inl (own_move hf (fun k hko => ?_))
    obtain ⟨cells, hc⟩ := own_typed hf k hko
    exact hk k (own_base hf k hko) (own_lt hf k hko) (hin hc (by decide) (by decide) (fun _ => hko))
  · exact .inr ⟨g, cur, rfl, hg, (hk g hg (blk_lt hh) (hin hh (by decide) (by decide) (fun _ => rfl))).trans hh, rest⟩

/-- The net and the reference hold the same packets and the same pairs, each in memory of its own. -/
structure Both (w : World) (base N M R : Nat) (v lv cv : Value) (ps : List S28) (cs : List (Int × Int)) (D : DataW Unit) (m : Nat) : Prop where
  net : NetIn w base N M v ps D m
  ref : RefIn w base R lv cv ps cs
  apart : ∀ g, v.ownBlock = some g → lv.ownBlock ≠ some g
  map : Maps.IsMap D
  same : ∀ x y, (Lit.int .i64 x).wf = true → (Lit.int .i64 y).wf = true → isCut D x y = hit cs x y
  len : ps.length ≤ 256
  fine : ∀ p ∈ ps, Fine28 p

theorem RefIn.lvlt {w : World} {base R g : Nat} {lv cv : Value} {ps : List S28} {cs : List (Int × Int)} (h : RefIn w base R lv cv ps cs) (hg : lv.ownBlock = some g) : g < w.heap.size := by
  obtain ⟨xs, hx, _⟩ := h.list
  exact own_lt hx g hg

section
variable {w w1 w2 : World} {base N M R : Nat} {v v' lv lv' cv cv' : Value} {ps qs : List S28} {cs es : List (Int × Int)} {D D' : DataW Unit} {m m' : Nat}

theorem Both.below (h : Both w base N M R v lv cv ps cs D m) (hb : Below w.heap.size w w1) : Both w1 base N M R v lv cv ps cs D m :=
  ⟨h.net.below hb, h.ref.below hb, h.apart, h.map, h.same, h.len, h.fine⟩

/-- The reference behind a Take or a Drop of the net. -/
theorem Both.refT (h : Both w base N M R v lv cv ps cs D m) (hm : TakeMoved w w1 base N) (hs : Stays w v v') : RefIn w1 base R lv cv ps cs ∧ ∀ g, v'.ownBlock = some g → lv.ownBlock ≠ some g :=
  ⟨h.ref.keep (fun k _ _ _ _ hl hc ht _ => hm.2 k hl (ty_ne hc h.net.cell ht)), fun g hg e => by
    rcases hs g hg with h1 | h1
    · exact h.apart g h1 e
    · have := h.ref.lvlt e
      omega⟩

/-- The reference behind a Send or a Copy of the net. -/
theorem Both.refS (h : Both w base N M R v lv cv ps cs D m) (hm : NetMoved w w1 base N v) (hs : Stays w v v') : RefIn w1 base R lv cv ps cs ∧ ∀ g, v'.ownBlock = some g → lv.ownBlock ≠ some g :=
  ⟨h.ref.keep (fun k _ _ _ _ hl hc ht h28 => hm.2 k hl (ty_ne hc h.net.cell ht) (fun e => by
    obtain ⟨_, cells, hc2⟩ := h.net.typed e.symm
    rw [hc] at hc2
    injection hc2 with hc2
    injection hc2 with _ hc2
    exact h.apart k e.symm (h28 hc2))), fun g hg e => by
    rcases hs g hg with h1 | h1
    · exact h.apart g h1 e
    · have := h.ref.lvlt e
      omega⟩

/-- The reference behind a Cut or a Heal of the net. -/
theorem Both.refM (h : Both w base N M R v lv cv ps cs D m) (hm : MapMoved w w1 base M) : RefIn w1 base R lv cv ps cs :=
  h.ref.keep (fun k _ _ _ _ hl hc _ _ => hm.2 k hl (fun e => by
    obtain ⟨_, _, _, _, es, clock, hmm, _⟩ := h.net
    subst e
    rw [hmm] at hc
    injection hc with hc
    cases hc))

/-- The net behind a Take or a Drop of the reference. -/
theorem netT (hn : NetIn w base N M v ps D m) (hr : RefIn w base R lv cv qs cs) (ha : ∀ g, v.ownBlock = some g → lv.ownBlock ≠ some g) (hm : TakeMoved w w1 base R) (hs : Stays w lv lv') : NetIn w1 base N M v ps D m ∧ ∀ g, v.ownBlock = some g → lv'.ownBlock ≠ some g :=
  ⟨hn.keepR (fun k _ hl ht => hm.2 k hl (fun e => by subst e; exact (ht _ _ _ hr.cell).1 rfl)), fun g hg e => by
    rcases hs g e with h1 | h1
    · exact ha g hg h1
    · have := hn.vlt hg
      omega⟩

/-- The net behind a Send or a Copy of the reference. -/
theorem netS (hn : NetIn w base N M v ps D m) (hr : RefIn w base R lv cv qs cs) (ha : ∀ g, v.ownBlock = some g → lv.ownBlock ≠ some g) (hm : NetMoved w w1 base R lv) (hs : Stays w lv lv') : NetIn w1 base N M v ps D m ∧ ∀ g, v.ownBlock = some g → lv'.ownBlock ≠ some g :=
  ⟨hn.keepR (fun k _ hl ht => hm.2 k hl (fun e => by subst e; exact (ht _ _ _ hr.cell).1 rfl) (fun e => by
    obtain ⟨xs, hx, _⟩ := hr.list
    obtain ⟨cells, hc⟩ := own_typed hx k e.symm
    exact ha k ((ht _ _ _ hc).2.2 rfl) e.symm)), fun g hg e => by
    rcases hs g e with h1 | h1
    · exact ha g hg h1
    · have := hn.vlt hg
      omega⟩

/-- The net behind a Cut of the reference. -/
theorem netC (hn : NetIn w base N M v ps D m) (hr : RefIn w base R lv cv qs cs) (hm : NetMoved w w1 base R cv) : NetIn w1 base N M v ps D m :=
  hn.keepR (fun k _ hl ht => hm.2 k hl (fun e => by subst e; exact (ht _ _ _ hr.cell).1 rfl) (fun e => by
    obtain ⟨cells, hc⟩ := own_typed hr.cuts k e.symm
    exact (ht _ _ _ hc).2.1 rfl))

theorem mem_cutOut {k : Nat} {p : S28} (h : p ∈ cutOut ps k) : p ∈ ps := by
  unfold cutOut at h
  rcases List.mem_append.1 h with h | h
  · exact List.mem_of_mem_take h
  · exact List.mem_of_mem_drop h

theorem len_cutOut (k : Nat) : (cutOut ps k).length ≤ ps.length := by
  unfold cutOut
  rw [List.length_append, List.length_take, List.length_drop]
  omega

/-- Take and Drop, done by both. -/
theorem Both.took {k : Nat} (h : Both w base N M R v lv cv ps cs D m) (hn : NetIn w1 base N M v' (cutOut ps k) D m) (hr : RefIn w1 base R lv cv ps cs) (ha : ∀ g, v'.ownBlock = some g → lv.ownBlock ≠ some g) (hr2 : RefIn w2 base R lv' cv (cutOut ps k) cs) (hm : TakeMoved w1 w2 base R) (hs : Stays w1 lv lv') : Both w2 base N M R v' lv' cv (cutOut ps k) cs D m :=
  let e := netT hn hr ha hm hs
  ⟨e.1, hr2, e.2, h.map, h.same, Nat.le_trans (len_cutOut k) h.len, fun p hp => h.fine p (mem_cutOut hp)⟩

/-- Send and Copy, done by both. -/
theorem Both.sent {x : S28} (h : Both w base N M R v lv cv ps cs D m) (hl : ps.length < 256) (hx : Fine28 x) (hn : NetIn w1 base N M v' (ps ++ [x]) D m) (hr : RefIn w1 base R lv cv ps cs) (ha : ∀ g, v'.ownBlock = some g → lv.ownBlock ≠ some g) (hr2 : RefIn w2 base R lv' cv (ps ++ [x]) cs) (hm : NetMoved w1 w2 base R lv) (hs : Stays w1 lv lv') : Both w2 base N M R v' lv' cv (ps ++ [x]) cs D m :=
  let e := netS hn hr ha hm hs
  ⟨e.1, hr2, e.2, h.map, h.same, by rw [List.length_append]; simp; omega, fun p hp => by
    rcases List.mem_append.1 hp with hp | hp
    · exact h.fine p hp
    · obtain rfl := List.mem_singleton.1 hp
      exact hx⟩

/-- Cut, done by both. -/
theorem Both.cutted {a b : Int} (h : Both w base N M R v lv cv ps cs D m) (wa : (Lit.int .i64 a).wf = true) (wb : (Lit.int .i64 b).wf = true) (hn : NetIn w1 base N M v ps (D.put (pkey a b) (.lit (.bool true))) m') (hr : RefIn w1 base R lv cv ps cs) (hr2 : RefIn w2 base R lv cv' ps (cs ++ [(a, b)])) (hm : NetMoved w1 w2 base R cv) : Both w2 base N M R v lv cv' ps (cs ++ [(a, b)]) (D.put (pkey a b) (.lit (.bool true))) m' :=
  ⟨netC hn hr hm, hr2, h.apart, h.map.put _ _, fun x y wx wy => by rw [isCut_put h.map wa wb wx wy, h.same x y wx wy, hit_snoc], h.len, h.fine⟩

/-- Heal, done by both. -/
theorem Both.healed (h : Both w base N M R v lv cv ps cs D m) (hn : NetIn w1 base N M v ps (.map []) m') (hr : RefIn w1 base R lv cv ps cs) : Both (w1.setCell ⟨R, 1, none⟩ (.slice none 0 0)) base N M R v lv (.slice none 0 0) ps [] (.map []) m' := by
  have hk : ∀ k, k ≠ R → (w1.setCell ⟨R, 1, none⟩ (.slice none 0 0)).heap[k]? = w1.heap[k]? := fun k hk => Below.heap_setCell w1 ⟨R, 1, none⟩ _ k hk
  refine ⟨hn.keepR (fun k _ _ ht => hk k (fun e => by subst e; exact (ht _ _ _ hr.cell).1 rfl)), ?_, h.apart, Maps.isMap_empty, fun x y _ _ => rfl, h.len, h.fine⟩
  obtain ⟨h1, h2, ⟨xs, hx, hrr⟩, h3⟩ := hr
  refine ⟨h1, blk_put h2 1 _ rfl, ⟨xs, own_move hx (fun k hk2 => ?_), reps_keep hrr (fun k cells fr _ _ hc => hk k (ty_ne hc h2 (by decide)))⟩, World.ownsRow_nil _ _ _ _⟩
  obtain ⟨cells, hc⟩ := own_typed hx k hk2
  exact hk k (ty_ne hc h2 (by decide))
end
end Go.Proofs.Ytalaghkpbdaonaa

namespace Go.Proofs.Ytalaghkpbdaonaa
open Go Go.RowKit H Go.Proofs.YtalaghkpbdaonaaW.PrintWords Strict

theorem Free.keep {w w' : World} {base gb : Nat} {v : Value} {ps : List S28} (h : Free w base gb v ps) (hk : ∀ k cells t fr, base ≤ k → k < w.heap.size → w.heap[k]? = some (.cells cells t fr) → (t = 5 ∨ (t = 28 ∧ v.ownBlock = some k)) → w'.heap[k]? = w.heap[k]?) : Free w' base gb v ps := by
  obtain ⟨cs, hf, hr⟩ := h
  refine ⟨cs, ?_, reps_free hr (fun k cells fr hb hl _ hc => hk k _ _ _ hb hl hc (.inl rfl))⟩
  rcases hf with hf | ⟨g, cur, rfl, hg, hh, rest⟩
  · refine .inl (own_move hf (fun k hk2 => ?_))
    obtain ⟨cells, hc⟩ := own_typed hf k hk2
    exact hk k _ _ _ (own_base hf k hk2) (own_lt hf k hk2) hc (.inr ⟨rfl, hk2⟩)
  · exact .inr ⟨g, cur, rfl, hg, (hk g _ _ _ hg (blk_lt hh) hh (.inr ⟨rfl, rfl⟩)).trans hh, rest⟩

theorem RefFree.keep {w w' : World} {base gb : Nat} {lv : Value} {ps : List S28} (h : RefFree w base gb lv ps) (hk : ∀ k cells t fr, base ≤ k → k < w.heap.size → w.heap[k]? = some (.cells cells t fr) → (t = 5 ∨ (t = 28 ∧ lv.ownBlock = some k)) → w'.heap[k]? = w.heap[k]?) : RefFree w' base gb lv ps := by
  obtain ⟨xs, hx, hr⟩ := h
  refine ⟨xs, own_move hx (fun k hk2 => ?_), reps_free hr (fun k cells fr hb hl _ hc => hk k _ _ _ hb hl hc (.inl rfl))⟩
  obtain ⟨cells, hc⟩ := own_typed hx k hk2
  exact hk k _ _ _ (own_base hx k hk2) (own_lt hx k hk2) hc (.inr ⟨rfl, hk2⟩)

theorem RefFree.below {w w' : World} {base gb : Nat} {lv : Value} {ps : List S28} (h : RefFree w base gb lv ps) (hb : Below w.heap.size w w') : RefFree w' base gb lv ps := h.keep (fun k _ _ _ _ hl _ _ => hb.block k hl)

section
variable {w w1 : World} {base N M R gb : Nat} {v v' lv lv' cv : Value} {ps qs : List S28} {cs : List (Int × Int)} {D : DataW Unit} {m : Nat}

/-- The reference keeps off the block behind a Send of the net. -/
theorem Both.refFreeS (h : Both w base N M R v lv cv ps cs D m) (hf : RefFree w base gb lv ps) (hm : NetMoved w w1 base N v) : RefFree w1 base gb lv ps :=
  hf.keep (fun k _ t _ _ hl hc ht => hm.2 k hl (ty_ne hc h.net.cell (by rcases ht with rfl | ⟨rfl, _⟩ <;> decide)) (fun e => by
    obtain ⟨_, cells, hc2⟩ := h.net.typed e.symm
    rcases ht with rfl | ⟨rfl, h28⟩
    · exact ty_ne hc hc2 (by decide) rfl
    · exact h.apart k e.symm h28))

/-- The net keeps off the block behind a Send of the reference. -/
theorem netFreeS (hf : Free w base gb v qs) (hr : RefIn w base R lv cv ps cs) (ha : ∀ g, v.ownBlock = some g → lv.ownBlock ≠ some g) (hm : NetMoved w w1 base R lv) : Free w1 base gb v qs :=
  hf.keep (fun k _ t _ _ hl hc ht => hm.2 k hl (ty_ne hc hr.cell (by rcases ht with rfl | ⟨rfl, _⟩ <;> decide)) (fun e => by
    obtain ⟨xs, hx, _⟩ := hr.list
    obtain ⟨cells, hc2⟩ := own_typed hx k e.symm
    rcases ht with rfl | ⟨rfl, h28⟩
    · exact ty_ne hc hc2 (by decide) rfl
    · exact ha k h28 e.symm))

/-- Both stay while a block of bytes is written that no body lies at. -/
theorem Both.write {cells : Array Value} (h : Both w base N M R v lv cv ps cs D m) (hf : Free w base gb v ps) (hrf : RefFree w base gb lv ps) (hg : w.heap[gb]? = some (.cells cells 5 (0, 0))) (hk : ∀ k, k < w.heap.size → k ≠ gb → w1.heap[k]? = w.heap[k]?) : Both w1 base N M R v lv cv ps cs D m := by
  obtain ⟨h1, h2, h3, _, es, clock, hm, hm2⟩ := h.net
  obtain ⟨r1, r2, _, r3⟩ := h.ref
  obtain ⟨cs1, hf1, hr1⟩ := hf
  obtain ⟨cs2, hf2, hr2⟩ := hrf
  refine ⟨⟨h1, h2, (hk _ (blk_lt h3) (ty_ne h3 hg (by decide))).trans h3, ⟨cs1, ?_, (reps_free hr1 (fun k _ _ _ hl hok _ => hk k hl hok)).imp_ (fun p c hp => k28.M_mono (fun _ _ => trivial) hp)⟩, es, clock, (hk M (blk_lt hm) (fun e => by rw [e, hg] at hm; injection hm with hm; cases hm)).trans hm, hm2⟩,
    ⟨r1, (hk _ (blk_lt r2) (ty_ne r2 hg (by decide))).trans r2, ⟨cs2, own_move hf2 (fun k hk2 => ?_), (reps_free hr2 (fun k _ _ _ hl hok _ => hk k hl hok)).imp_ (fun p c hp => k28.M_mono (fun _ _ => trivial) hp)⟩, own_move r3 (fun k hk2 => ?_)⟩, h.apart, h.map, h.same, h.len, h.fine⟩
  · rcases hf1 with hf1 | ⟨g, cur, rfl, hge, hh, rest⟩
    · refine .inl (own_move hf1 (fun k hk2 => ?_))
      obtain ⟨cells, hc⟩ := own_typed hf1 k hk2
      exact hk k (blk_lt hc) (ty_ne hc hg (by decide))
    · exact .inr ⟨g, cur, rfl, hge, (hk g (blk_lt hh) (ty_ne hh hg (by decide))).trans hh, rest⟩
  · obtain ⟨cells, hc⟩ := own_typed hf2 k hk2
    exact hk k (blk_lt hc) (ty_ne hc hg (by decide))
  · obtain ⟨cells, hc⟩ := own_typed r3 k hk2
    exact hk k (blk_lt hc) (ty_ne hc hg (by decide))
end
end Go.Proofs.Ytalaghkpbdaonaa

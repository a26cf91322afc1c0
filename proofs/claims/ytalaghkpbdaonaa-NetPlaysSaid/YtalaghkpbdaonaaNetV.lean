/- Send with room, and where its list stays: what it computes. No conditions. -/
import Derived.Test.YtalaghkpbdaonaaNetE
namespace Go.Proofs.Ytalaghkpbdaonaa
open Go Go.RowKit H Go.Proofs.YtalaghkpbdaonaaW.PrintWords

set_option maxRecDepth 100000 in
set_option maxHeartbeats 4000000 in
theorem send_stays {w : World} {base N M : Nat} {v : Value} {ps : List S28} {D : DataW Unit} {m : Nat} (h : NetIn w base N M v ps D m) (hp : ps.length < 256) (x y : Int) (A : Option Addr) (c : Nat) (xs : List Int)
    (hr : Kd.C (Kd.int .u8) w A xs.length xs) (hc : xs.length ≤ c) (hl : xs.length ≤ 140737488355328) :
    Calls Try.prog 11 #[.pointer (some ⟨N, 0, none⟩), .agg #[.int .i64 x, .int .i64 y, .slice A xs.length c]] w fun e w' => e = .returned (.bool true) ∧ ∃ v', NetIn w' base N M v' (ps ++ [⟨x, y, xs⟩]) D m ∧ NetMoved w w' base N v ∧ Stays w v v' := by
  obtain ⟨i28, hi28, hz0, hz1, hz2⟩ := info_parts info28
  obtain ⟨A1, c1, hv, hc1, hC1⟩ := h.reads
  have hcell := h.cell
  rw [hv] at hcell
  have hk := blk_drew (blk_alloc hcell (.cells #[.int .i64 x, .int .i64 y, .slice A xs.length c] 28))
  have hb0 := blk_drew (heap_alloc_new w (.cells #[.int .i64 x, .int .i64 y, .slice A xs.length c] 28))
  have hd : ¬ (256 : Int) ≤ ps.length := by omega
  obtain ⟨cs, hfl, hrep⟩ := h.list
  have H := Lib.hid h
  have HP := Lib.hid hrep
  have HR := Lib.hid hr
  have hNb : N ≠ w.heap.size := by have := (Array.getElem?_eq_some_iff.1 hcell).1; omega
  have hzb : base ≤ w.heap.size := by have := h.geN; have := (Array.getElem?_eq_some_iff.1 hcell).1; omega
  clear hC1 hr h hrep
  rcases hfl with hown | ⟨g, cur, hvg, hge, hgh, hmax, hsz, hcs⟩
  · have hNv : some N ≠ v.ownBlock := fun e => by
      obtain ⟨cur, hcr⟩ := own_typed hown N e.symm
      rw [hcell] at hcr
      injection hcr with hcr
      injection hcr with _ hcr
      cases hcr
    have hBv : some w.heap.size ≠ v.ownBlock := fun e => by
      have := own_lt hown _ e.symm
      omega
    have hrow : v.ownBlock = none ∨ ∃ g cur, v.ownBlock = some g ∧ base ≤ g ∧ w.heap[g]? = some (.cells cur 28 (0, 0)) := by
      cases ho : v.ownBlock with
      | none => exact .inl rfl
      | some g =>
        obtain ⟨cur, hcr⟩ := own_typed hown g ho
        exact .inr ⟨g, cur, rfl, own_base hown g ho, hcr⟩
    have q := blk_cell (blk_alloc hcell (.cells #[.int .i64 x, .int .i64 y, .slice A xs.length c] 28))
    go_enter Try.func11, Try.ntmps11
    go_wp2
    have qd := blk_cell hk
    have qb := blk_cell hb0
    clear q
    go_region_law (first
        | (refine step_append_lies _ (by rfl) (.tmp 21) (.tmp 24) 22 (by rfl) base 28 i28 (.agg #[(.int .i64 0), (.int .i64 0), (.slice none 0 0)]) 3 40 Try.underlying22 hi28 hz0 hz1 hz2 (by rfl) (by decide) v ps.length cs (by rw [hv]; rfl) (hown2.alloc _) ⟨w2.heap.size, 0, none⟩ 1 1 [.int .i64 x, .int .i64 y, .slice A2 xs.length c2] (by rfl) (by rfl) (World.news_of_block (heap_alloc_new w2 _)) (by simp [Value.oneCell']) (by decide) (by unfold maxLen; omega) (by omega) (by have := hbw.size; simp; omega) (w2.heap.size + 1) (by simp) ?_; intro g5 c5 w5 hown5 hgrow5 hat5 hlt5; have kN5 := blk_grown (blk_alloc kN2 _) hgrow5 hNv; have kB5 := blk_grown (blk_alloc kB2 _) hgrow5 hBv; have q5 := blk_cell kN5; have f5 := blk_frozen kN5)
        | (go_simp; refine (own26 x y A c xs _ (Kd.C_drew (Kd.C_alloc HR.out _)) hc hl).mono ?_; rintro e w2 ⟨v2, rfl, hR2, hb2⟩; obtain ⟨A2, c2, rfl⟩ := Kd.R_slice hR2; have kN2 := blk_below hk hb2; have kB2 := blk_below hb0 hb2; have q2 := blk_cell kN2; have qb2 := blk_cell kB2; have q2a := fun o => blk_cell (blk_alloc kN2 o); have hbw := ((Below.refl w.heap.size w).alloc (Nat.le_refl _) (.cells #[.int .i64 x, .int .i64 y, .slice A xs.length c] 28)).drew.trans (hb2.mono (by simp)); have hown2 := pw_own_below (own_drew (hown.alloc (.cells #[.int .i64 x, .int .i64 y, .slice A xs.length c] 28))) hb2))
    all_goals
      go_wp2
      go_ret
      obtain ⟨cur5, hcr5⟩ := own_typed hown5 g5 rfl
      have E := H.out.sent HP.out hbw (Kd.R_lower hR2 (by simp)) hown5 hgrow5 hrow (.inr ⟨g5, cur5, rfl, hcr5⟩) (fun g e => e.symm)
      refine ⟨rfl, _, E.1, E.2, fun g hg => ?_⟩
      obtain rfl : g5 = g := by simpa [Value.ownBlock] using hg
      rcases hat5 with h5 | h5
      · exact .inl h5
      · have := hbw.size
        exact .inr (by omega)
  · have hlo : cs.length = ps.length * 3 := by
      rw [← hcs, List.length_take, Array.length_toList]
      exact Nat.min_eq_left hsz
    have hold : ∀ w' : World, w'.heap[g]? = some (.cells cur 28 (0, 0)) → ∀ j u, cs[j]? = some u → w'.cell? ((⟨g, 0, none⟩ : Addr).add j) = some u := fun w' hb j u hu => by
      have hjl := (List.getElem?_eq_some_iff.1 hu).1
      rw [← hcs, List.getElem?_take, if_pos (by omega)] at hu
      have hu2 : cur[j]? = some u := by rw [← Array.getElem?_toList]; exact hu
      have hadd : (⟨g, 0, none⟩ : Addr).add j = ⟨g, j, none⟩ := by simp [add_plain]
      rw [hadd, blk_cell hb, hu2]
    rw [hvg] at hv
    injection hv with hv1 _ hv3
    subst hv1 hv3
    have q := blk_cell (blk_alloc hcell (.cells #[.int .i64 x, .int .i64 y, .slice A xs.length c] 28))
    go_enter Try.func11, Try.ntmps11
    go_wp2
    have qd := blk_cell hk
    have qb := blk_cell hb0
    clear q
    go_region_law (first
        | (refine step_append_grows (by rfl) (.tmp 21) (.tmp 24) 22 (by rfl) 28 i28 (.agg #[(.int .i64 0), (.int .i64 0), (.slice none 0 0)]) 3 40 Try.underlying22 hi28 hz0 hz1 hz2 (by rfl) (by decide) (some ⟨g, 0, none⟩) ps.length ps.length cs (by rfl) (fun e => by cases e) hlo (fun b hb j u hu => by obtain rfl := Option.some.inj hb; exact hold _ (blk_alloc kG2 _) j u hu) ⟨w2.heap.size, 0, none⟩ 1 1 [.int .i64 x, .int .i64 y, .slice A2 xs.length c2] (by rfl) (by rfl) (World.news_of_block (heap_alloc_new w2 _)) (by simp [Value.oneCell']) (by omega) (by unfold maxLen; omega) (by omega) ?_; intro v5 w5 hown5 hgrow5; obtain ⟨A5, c5, rfl⟩ := row_val hown5; have kN5 := blk_grown (blk_alloc kN2 _) hgrow5 (by simp); have q5 := blk_cell kN5; have f5 := blk_frozen kN5)
        | (go_simp; refine (own26 x y A c xs _ (Kd.C_drew (Kd.C_alloc HR.out _)) hc hl).mono ?_; rintro e w2 ⟨v2, rfl, hR2, hb2⟩; obtain ⟨A2, c2, rfl⟩ := Kd.R_slice hR2; have kN2 := blk_below hk hb2; have kB2 := blk_below hb0 hb2; have kG2 := blk_below (blk_drew (blk_alloc hgh (.cells #[.int .i64 x, .int .i64 y, .slice A xs.length c] 28))) hb2; have q2 := blk_cell kN2; have qb2 := blk_cell kB2; have q2a := fun o => blk_cell (blk_alloc kN2 o); have hbw := ((Below.refl w.heap.size w).alloc (Nat.le_refl _) (.cells #[.int .i64 x, .int .i64 y, .slice A xs.length c] 28)).drew.trans (hb2.mono (by simp))))
    all_goals
      go_wp2
      go_ret
      have hA5 : A5 = none ∨ ∃ g5 cur, A5 = some ⟨g5, 0, none⟩ ∧ w5.heap[g5]? = some (.cells cur 28 (0, 0)) := by
        rcases hown5.2 with ⟨h5, h6⟩ | ⟨g5, c6, cur5, h5, _, hcr5, _⟩
        · omega
        · injection h5 with h5
          exact .inr ⟨g5, cur5, h5, hcr5⟩
      have E := H.out.sent HP.out hbw (Kd.R_lower hR2 (by simp)) (own_weaken hown5 (by have := hbw.size; simp; omega)) hgrow5 (.inl rfl) hA5 (fun g e => by cases e)
      refine ⟨rfl, _, E.1, E.2, fun g hg => ?_⟩
      have h1 := own_base hown5 g hg
      have := hbw.size
      simp at h1
      exact .inr (by omega)
end Go.Proofs.Ytalaghkpbdaonaa

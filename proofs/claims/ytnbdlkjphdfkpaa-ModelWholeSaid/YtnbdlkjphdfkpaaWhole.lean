/- ModelWhole: the call returns true and leaves all old blocks as they were. Conditions: what came in reads, fits memory, and is of its kinds. -/
import Derived.Test.YtnbdlkjphdfkpaaP5
import Derived.Test.YtnbdlkjphdfkpaaHB
namespace Go.Proofs.Ytnbdlkjphdfkpaa
open Go Go.RowKit H Go.Proofs.YtnbdlkjphdfkpaaW.PrintWords

theorem info41z : (Try.prog.info? 41).map (fun i => (i.zero, i.size, i.bytes)) = some (some (.agg #[(.int .i64 0), (.int .i64 0), (.int .u64 0), (.int .i64 0), (.int .i64 0), (.bool false), (.bool false), (.bool false), (.slice none 0 0)]), 9, 72) := info41

theorem in_pre {l : List S41} {high : Int} {j : Nat} (hj : j < l.length) (h : ∀ b ∈ l.take (j + 1), toOf b ≤ high) : j < (pre l high).length := by
  rcases Nat.lt_or_ge j (pre l high).length with h1 | h1
  · exact h1
  · exfalso
    have h2 : (pre l high).length < l.length := by omega
    have h3 := pre_at l high h2
    have h4 := h l[(pre l high).length] (by
      have : (l.take (j + 1))[(pre l high).length]? = some l[(pre l high).length] := by rw [List.getElem?_take, if_pos (by omega), List.getElem?_eq_getElem h2]
      exact List.mem_of_getElem? this)
    omega

theorem row_cap {w : World} {base n size : Nat} {e : TypeId} {A : Option Addr} {c : Nat} {xs : List Value} (h : w.ownsRow base e size (.slice A n c) n xs) : n ≤ c := by
  rcases h.2 with ⟨h, h0⟩ | ⟨g, c', cur, h, _, _, hn, _⟩
  · injection h with _ h1 h2
    omega
  · injection h with _ h1 h2
    omega

set_option maxRecDepth 100000 in
set_option maxHeartbeats 4000000 in
theorem whole_walk (A : Option Addr) (c : Nat) (l : List S41) (high : Int) (w0 : World) (hr : Kd.C k41 w0 A l.length l) (hc : l.length ≤ c) (hF : FitsAll l) (hH : 0 ≤ high ∧ high ≤ 65535) :
    Calls Try.prog 6 #[.slice A l.length c, .int .u16 high] w0 fun e w' => e = .returned (.bool true) ∧ Below w0.heap.size w0 w' := by
  obtain ⟨i41, hi41, hq0, hq1, hq2⟩ := info_parts info41z
  have h72 := hF.1
  have HF := Lib.hid hF
  clear hF
  have HC := Lib.hid hr
  clear hr
  go_enter Try.func6, Try.ntmps6
  go_wp2_with (first | (go_at_call 8; refine (awake_walk _).mono ?_; rintro e wa ⟨rfl, hba⟩) | go_in)
  go_loopw [5, 20] (fun v i wr => ∃ (k : Nat) (cs : List Value), k ≤ l.length ∧ i = .int .i64 k ∧ wr.ownsRow w0.heap.size 41 9 v (plainOf (l.take k)).length cs ∧ Reps (k41.K w0) 9 (plainOf (l.take k)) cs ∧ Below w0.heap.size w0 wr)
    (fun _ i _ => l.length - (intOf i).toNat)
  case atStart => exact ⟨0, [], Nat.zero_le _, rfl, World.ownsRow_nil _ _ _ _, Reps.none _ _, hba⟩
  case round =>
    obtain ⟨k, cs, hk, rfl, hrr, hrep, hB⟩ := hrel
    clear hba
    generalize wr = wk at *
    have HRP := Lib.hid hrep
    clear hrep
    by_cases hlt : k < l.length
    · obtain ⟨ad, A9, c9, rfl, x0, x1, x2, x3, x4, x5, x6, x7, x8, hl8, hi8⟩ := at_T41 HC.out (k : Int) (by omega) (by omega)
      rw [Int.toNat_natCast] at x0 x1 x2 x3 x4 x5 x6 x7 x8
      have hb : rd_T41 l (k : Int) = l[k] := by simp [rd_T41, List.getD, hlt]
      rw [hb] at x0 x1 x2 x3 x4 x5 x6 x7 x8 hl8 hi8
      have HY := Lib.hid (plainOf_yes hlt)
      have HN := Lib.hid (plainOf_no hlt)
      have hpl := plainOf_len l k
      generalize l[k] = b at *
      have hlx := fun {v : Value} (a : Addr) (h : w0.cell? a = some v) => (hB.cell (World.block_lt_of_cell? w0 a h)).trans h
      replace x0 := hlx _ x0
      replace x1 := hlx _ x1
      replace x2 := hlx _ x2
      replace x3 := hlx _ x3
      replace x4 := hlx _ x4
      replace x5 := hlx _ x5
      replace x6 := hlx _ x6
      replace x7 := hlx _ x7
      replace x8 := hlx _ x8
      have hi0 := Lib.hid hi8
      clear hi8
      clear hlx hb
      have hbx : BatchIn (wk.alloc (.cells #[.int .i64 b.f0, .int .i64 b.f1, .int .u64 b.f2, .int .i64 b.f3, .int .i64 b.f4, .bool b.f5, .bool b.f6, .bool b.f7, .slice A9 b.f8.length c9] 41)) wk.heap.size b A9 c9 := heap_alloc_new wk _
      have hza := hbx.cells
      obtain ⟨z0, z1, z2, z3, z4, z5, z6, z7, z8⟩ := hza
      have hzw := hB.size
      by_cases hv : 0 < b.f8.length
      · have hd : (0 : Int) < b.f8.length := by omega
        go_wp2_with (first | (at_builtin; refine wpList_append_own_at _ rfl (.tmp 28) (.tmp 32) 22 rfl w0.heap.size 41 i41 (.agg #[(.int .i64 0), (.int .i64 0), (.int .u64 0), (.int .i64 0), (.int .i64 0), (.bool false), (.bool false), (.bool false), (.slice none 0 0)]) 9 72 Try.underlying22 hi41 hq0 hq1 hq2 rfl (by decide) _ _ _ rfl ((hrr.alloc _).alloc _) ⟨wk.heap.size + 1, 0, none⟩ 1 1 [.int .i64 0, .int .i64 0, .int .u64 0, .int .i64 0, .int .i64 0, .bool false, .bool false, .bool false, .slice A9 b.f8.length c9] rfl rfl ?news (by simp [Value.oneCell']) (by unfold maxLen; omega) (by omega) (by simp; omega) ?_; rotate_left; intro v' w5 hown5 hgrow5 _ hat5; go_frame) | go_in)
        case news =>
          have hsz : (wk.alloc (.cells #[.int .i64 b.f0, .int .i64 b.f1, .int .u64 b.f2, .int .i64 b.f3, .int .i64 b.f4, .bool b.f5, .bool b.f6, .bool b.f7, .slice A9 b.f8.length c9] 41)).heap.size = wk.heap.size + 1 := by simp
          refine World.news_of_block (t := 41) (fr := (0, 0)) (w := (wk.alloc _).alloc (.cells #[.int .i64 0, .int .i64 0, .int .u64 0, .int .i64 0, .int .i64 0, .bool false, .bool false, .bool false, .slice A9 b.f8.length c9] 41)) ?_
          rw [← hsz]
          exact heap_alloc_new _ _
        case roundEnd =>
          have hall := ((World.grownBy_alloc wk _ _).trans (World.grownBy_alloc _ _ _)).trans hgrow5
          refine ⟨⟨k + 1, cs ++ [.int .i64 0, .int .i64 0, .int .u64 0, .int .i64 0, .int .i64 0, .bool false, .bool false, .bool false, .slice A9 b.f8.length c9], hlt, rfl, ?_, ?_, hB.grown hall hB.size (fun q hq => (hrr.lt _ hq).1)⟩, by simp [intOf]; omega⟩
          · rw [HY.out hv, List.length_append]
            exact hown5
          · rw [HY.out hv]
            exact Reps.snoc HRP.out (k41_mk w0 (plainB b) hl8 hi0.out) rfl
      · have hd : ¬ (0 : Int) < b.f8.length := by omega
        go_wp2
        go_roundw
        case rel => exact ⟨k + 1, cs, hlt, rfl, by rw [HN.out hv]; exact hrr.alloc _, by rw [HN.out hv]; exact HRP.out, hB.alloc (by omega) _⟩
        case measure => simp [intOf]; omega
    · obtain rfl : k = l.length := by omega
      clear hlt hk
      rw [List.take_length] at hrr HRP
      have HX := plainOf_fits HF.out
      have HXW := plainOf_wf l
      have HXP := log_plain l 0
      generalize plainOf l = ps at *
      obtain ⟨Ap, cp, hv5, hpr⟩ := own_reads_row hrr (HRP.out.imp_ (fun p c hp => k41.K_below hB hp)) rfl
      subst hv5
      have hlp := row_cap hrr
      have HCP := Lib.hid (show Kd.C k41 wk Ap ps.length ps from hpr)
      clear hpr
      obtain ⟨kl, hkl⟩ := (log_ev ps HX).rounds
      go_wp2_with (first | (go_at_call 10; refine (penstocklaw21_log.calls kl Ap cp ps _ _ HCP.out hlp hkl).mono ?_; rintro e wl ⟨vl, rfl, hol, hbl⟩; obtain ⟨Al, cl, rfl⟩ := Kd.R_slice hol) | go_in)
      have hh3 : 0 ≤ high % 300 ∧ high % 300 ≤ 299 := by omega
      have hXR := Lib.hid (row_pre ps (high % 300) (by omega) 0 (by omega) (by omega) HX.2)
      have hx72 : (logF 0 ps).length * 72 ≤ 140737488355328 := by rw [log_len]; exact HX.1
      have hXW := Lib.hid (log_wf ps 0 (by decide) HXW)
      have HXP' := Lib.hid HXP
      have hlx0 := Lib.hid (Kd.R_reads' hol)
      have hcl1 := comm_len (logF 0 ps) (by omega : 0 ≤ high % 300) hXR.out
      have hsp := Lib.hid (stab_plain HXP'.out hXR.out)
      have hcp := Lib.hid (comm_plain HXP'.out (by omega : 0 ≤ high % 300) (by omega) hXR.out)
      clear HCP hkl hlp HRP hol HX HXW HXP hrr HF HC
      generalize high % 300 = h3 at *
      generalize logF 0 ps = xs at *
      have hclx : xs.length ≤ cl := hlx0.out.2.1
      have hBl : Below w0.heap.size w0 wl := hB.trans (hbl.mono (by have := hB.size; omega))
      have hzl := hB.size
      have hzl2 := hbl.size
      clear hB hbl
      go_loopw [10, 11, 42] (fun n e i wr => ∃ j : Nat, j ≤ xs.length ∧ i = .int .i64 j ∧ n = .int .i64 (sumSz (xs.take j)) ∧ e = .int .i64 (sumSz (xs.take j)) ∧ (∀ b ∈ xs.take j, toOf b ≤ h3) ∧ Below wl.heap.size wl wr)
        (fun _ _ i _ => xs.length - (intOf i).toNat)
      case atStart => exact ⟨0, Nat.zero_le _, rfl, rfl, rfl, by simp, Below.refl _ _⟩
      case round =>
        obtain ⟨j, hj, rfl, rfl, rfl, hbj, hBw⟩ := hrel
        have hcase : (¬ j < xs.length) ∨ (∃ h : j < xs.length, h3 < toOf xs[j]) ∨ (∃ h : j < xs.length, ¬ h3 < toOf xs[j]) := by
          by_cases h : j < xs.length
          · by_cases h2 : h3 < toOf xs[j]
            · exact .inr (.inl ⟨h, h2⟩)
            · exact .inr (.inr ⟨h, h2⟩)
          · exact .inl h
        rcases hcase with hlt | ⟨hlt, hhi⟩ | ⟨hlt, hhi⟩
        case' inl =>
          have hpre : pre xs h3 = xs.take j := cut_at hbj (.inl (by omega))
          have hd : ¬ ((j : Int) < xs.length) := by omega
          clear hlt
          have hBx := hBw
          go_wp2_with (first | (go_at_call 12; refine (model_Committed.calls 0 _ cl xs h3 (commF xs h3) _ (Kd.C_below hlx0.out.2.2 hBx) hclx (comm_ev xs h3 hx72 hXW.out (by omega) 0)).mono ?_; rintro e wc ⟨vc, rfl, hoc, hbc⟩; obtain ⟨Ac, cc, rfl⟩ := Kd.R_slice hoc) | go_in)
          clear hBw
          have hzx := hBx.size
          have hBc := hBx.trans (hbc.mono hzx)
          clear hbc hBx hzx
        case' inr.inl =>
          have hpre : pre xs h3 = xs.take j := cut_at hbj (.inr ⟨hlt, hhi⟩)
          obtain ⟨ad, A9, c9, rfl, x0, x1, x2, x3, x4, x5, x6, x7, x8, hl8, hi8⟩ := at_T41 hlx0.out.2.2 (j : Int) (by omega) (by omega)
          rw [Int.toNat_natCast] at x0 x1 x2 x3 x4 x5 x6 x7 x8
          have hb : rd_T41 xs (j : Int) = xs[j] := by simp [rd_T41, List.getD, hlt]
          rw [hb] at x0 x1 x2 x3 x4 x5 x6 x7 x8 hl8 hi8
          have hpb := Lib.hid (HXP'.out _ (List.getElem_mem hlt))
          generalize xs[j] = b at *
          have hto : h3 < wrap64 (b.f0 + b.f8.length) := by
            have : szOf b = (b.f8.length : Int) := by unfold szOf; rw [hpb.out.2.2]; rfl
            rw [← this]
            exact hhi
          have hlx := fun {v : Value} (a : Addr) (h : wl.cell? a = some v) => (hBw.cell (World.block_lt_of_cell? wl a h)).trans h
          replace x0 := hlx _ x0
          replace x1 := hlx _ x1
          replace x2 := hlx _ x2
          replace x3 := hlx _ x3
          replace x4 := hlx _ x4
          replace x5 := hlx _ x5
          replace x6 := hlx _ x6
          replace x7 := hlx _ x7
          replace x8 := hlx _ x8
          clear hi8 hlx hb
          have hbx : BatchIn (wr.alloc (.cells #[.int .i64 b.f0, .int .i64 b.f1, .int .u64 b.f2, .int .i64 b.f3, .int .i64 b.f4, .bool b.f5, .bool b.f6, .bool b.f7, .slice A9 b.f8.length c9] 41)) wr.heap.size b A9 c9 := heap_alloc_new wr _
          have hza := hbx.cells
          obtain ⟨z0, z1, z2, z3, z4, z5, z6, z7, z8⟩ := hza
          have hBx := hBw.alloc (o := .cells #[.int .i64 b.f0, .int .i64 b.f1, .int .u64 b.f2, .int .i64 b.f3, .int .i64 b.f4, .bool b.f5, .bool b.f6, .bool b.f7, .slice A9 b.f8.length c9] 41) hBw.size
          go_wp2_with (first | (go_at_call 12; refine (model_Committed.calls 0 _ cl xs h3 (commF xs h3) _ (Kd.C_below hlx0.out.2.2 hBx) hclx (comm_ev xs h3 hx72 hXW.out (by omega) 0)).mono ?_; rintro e wc ⟨vc, rfl, hoc, hbc⟩; obtain ⟨Ac, cc, rfl⟩ := Kd.R_slice hoc) | go_in)
          clear x0 x1 x2 x3 x4 x5 x6 x7 x8 z0 z1 z2 z3 z4 z5 z6 z7 z8 hbx hBw hl8 hto hpb
          have hzx := hBx.size
          have hBc := hBx.trans (hbc.mono hzx)
          clear hbc hBx hzx
        case inr.inr =>
          have hbj' : ∀ b ∈ xs.take (j + 1), toOf b ≤ h3 := by
            intro b hb
            rw [List.take_succ_eq_append_getElem hlt] at hb
            rcases List.mem_append.1 hb with hb | hb
            · exact hbj b hb
            · obtain rfl : b = xs[j] := by simpa using hb
              omega
          obtain ⟨hf0, hto⟩ := row_at xs h3 hXR.out j (in_pre hlt hbj') hlt
          have hsz := sumSz_succ xs j hlt
          have hnn := sumSz_nonneg (xs.take j)
          have hnn2 := szOf_nonneg xs[j]
          have hsl : szOf xs[j] = (xs[j].f8.length : Int) := by unfold szOf; rw [(HXP'.out _ (List.getElem_mem hlt)).2.2]; rfl
          obtain ⟨ad, A9, c9, rfl, x0, x1, x2, x3, x4, x5, x6, x7, x8, hl8, hi8⟩ := at_T41 hlx0.out.2.2 (j : Int) (by omega) (by omega)
          rw [Int.toNat_natCast] at x0 x1 x2 x3 x4 x5 x6 x7 x8
          have hb : rd_T41 xs (j : Int) = xs[j] := by simp [rd_T41, List.getD, hlt]
          rw [hb] at x0 x1 x2 x3 x4 x5 x6 x7 x8 hl8 hi8
          have hpb := Lib.hid (HXP'.out _ (List.getElem_mem hlt))
          generalize xs[j] = b at *
          rw [hsl] at hsz hnn2
          generalize sumSz (xs.take j) = S at *
          have hS' : sumSz (xs.take (j + 1)) ≤ h3 := by omega
          have hw : wrap64 (S + (b.f8.length : Int)) = sumSz (xs.take (j + 1)) := by rw [hsz]; exact wrap_in (by omega) (by omega)
          have hd : ¬ h3 < wrap64 (b.f0 + (b.f8.length : Int)) := by rw [hf0, hw]; omega
          have hlx := fun {v : Value} (a : Addr) (h : wl.cell? a = some v) => (hBw.cell (World.block_lt_of_cell? wl a h)).trans h
          replace x0 := hlx _ x0
          replace x1 := hlx _ x1
          replace x2 := hlx _ x2
          replace x3 := hlx _ x3
          replace x4 := hlx _ x4
          replace x5 := hlx _ x5
          replace x6 := hlx _ x6
          replace x7 := hlx _ x7
          replace x8 := hlx _ x8
          clear hi8 hlx hb
          have hbx : BatchIn (wr.alloc (.cells #[.int .i64 b.f0, .int .i64 b.f1, .int .u64 b.f2, .int .i64 b.f3, .int .i64 b.f4, .bool b.f5, .bool b.f6, .bool b.f7, .slice A9 b.f8.length c9] 41)) wr.heap.size b A9 c9 := heap_alloc_new wr _
          have hza := hbx.cells
          obtain ⟨z0, z1, z2, z3, z4, z5, z6, z7, z8⟩ := hza
          clear hhi hto hsl
          go_wp2
          go_roundw
          case rel => exact ⟨j + 1, hlt, by first | rfl | go_num, by rw [hsz], by rw [hsz], hbj', hBw.alloc hBw.size _⟩
          case measure => simp [intOf]; omega
        all_goals
          obtain ⟨hE1, hE2⟩ := hcp.out
          have hE3 := hsp.out
          have hST := Lib.hid (stab_ev xs h3 hx72 hXW.out 0)
          rw [hpre] at hE1 hE3
          have hrr2 := Lib.hid (Kd.R_reads' hoc)
          clear hoc hcp hsp hXR hXW HXP'
          rw [← hpre] at hE3
          rw [hE3, hpre] at hST
          clear hE3 hpre
          have hzc := hBc.size
          generalize commF xs h3 = rs at *
          have hnn := sumSz_nonneg (xs.take j)
          generalize sumSz (xs.take j) = S at *
          clear hbj
          go_loopw [71] (fun i wr => ∃ m : Nat, m ≤ rs.length ∧ i = .int .i64 m ∧ wr = wc) (fun i _ => rs.length - (intOf i).toNat)
          case atStart => exact ⟨0, Nat.zero_le _, rfl, rfl⟩
          case round =>
            obtain ⟨m, hm, rfl, rfl⟩ := hrel
            by_cases hlt : m < rs.length
            · obtain ⟨ad3, rfl, y0, y1, y2⟩ := at_T37 hrr2.out.2.2 (m : Int) (by omega) (by omega)
              rw [Int.toNat_natCast] at y0 y1 y2
              obtain ⟨g0, g1⟩ := hE2 m rs[m] (List.getElem?_eq_getElem hlt)
              have hb : rd_T37 rs (m : Int) = rs[m] := by simp [rd_T37, List.getD, hlt]
              rw [hb, g0] at y0
              rw [hb, g1] at y1
              clear hE2 y2 g0 g1
              go_wp2
              go_roundw
              case rel => exact ⟨m + 1, hlt, by first | rfl | go_num, trivial⟩
              case measure => simp [intOf]; omega
            · obtain rfl : m = rs.length := by omega
              clear hlt hm hE2
              go_wp2_with (first | (go_at_call 15; refine (model_Stable.calls 0 _ cl xs h3 S _ (Kd.C_below hlx0.out.2.2 hBc) hclx hST.out).mono ?_; rintro e ws ⟨rfl, hbs⟩) | go_in)
              go_ret
              exact ⟨by simp [hE1], (hBl.trans (hBc.mono (by omega))).trans (hbs.mono (by omega))⟩

theorem wf_u16w {a : Int} (h : (Lit.int .u16 a).wf = true) : 0 ≤ a ∧ a ≤ 65535 := by
  have h1 : IntKind.u16.min = 0 := rfl
  have h2 : IntKind.u16.max = 65535 := rfl
  simp only [Lit.wf, Bool.and_eq_true, decide_eq_true_eq, h1, h2] at h
  omega

theorem whole_calls {w0 : World} (A : Option Addr) (c : Nat) (l : List S41) (hl : l.length ≤ c) (hC : Kd.C k41 w0 A l.length l) (hf : FitsAll l) (_hwf : wfAll l = true) (high : Int) (wh : (Lit.int .u16 high).wf = true) :
    Calls Try.prog 6 #[.slice A l.length c, .int .u16 high] w0 fun e w' => e = .returned (.bool true) ∧ Below w0.heap.size w0 w' :=
  whole_walk A c l high w0 hC hl hf (wf_u16w wh)
end Go.Proofs.Ytnbdlkjphdfkpaa

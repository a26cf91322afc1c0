/- model.Committed: what it computes. No conditions. -/
import Derived.Test.YtnbdlkjphdfkpaaCommA
import Derived.Deep.AppendLies
namespace Go.Proofs.Ytnbdlkjphdfkpaa
open Go Go.RowKit H Go.Proofs.YtnbdlkjphdfkpaaW.PrintWords
open Go.ChangeShapes (lits)

theorem info4 : (Try.prog.info? 4).map (fun i => (i.zero, i.size, i.bytes)) = some (some (.bool false), 1, 1) := by kernel_rfl
theorem info37 : (Try.prog.info? 37).map (fun i => (i.zero, i.size, i.bytes)) = some (some (.agg #[(.int .i64 0), (.int .u64 0), (.string ⟨#[]⟩)]), 3, 32) := by kernel_rfl
theorem info3 : (Try.prog.info? 3).map (fun i => (i.zero, i.size, i.bytes)) = some (some (.int .i64 0), 1, 8) := by kernel_rfl
theorem zero52 (w : World) : (zeroValue 52).run Try.prog w = .ok (.slice none 0 0) w := by kernel_rfl

theorem ints_form {w : World} {base : Nat} {e : TypeId} {q : IntKind} {v : Value} {zs : List Int} (h : w.ownsInts base e q v zs) : ∃ A c, v = .slice A zs.length c ∧ zs.length ≤ c := by
  rcases h.1.2 with ⟨rfl, h0⟩ | ⟨g, c, cur, rfl, _, _, hn, _⟩
  · exact ⟨none, 0, by rw [h0], by omega⟩
  · exact ⟨_, c, rfl, hn⟩

theorem row_type {w : World} {base : Nat} {e : TypeId} {size n : Nat} {v : Value} {xs : List Value} (h : w.ownsRow base e size v n xs) {k : Nat} (hk : v.ownBlock = some k) : ∃ cs, w.heap[k]? = some (.cells cs e (0, 0)) := by
  rcases h.2 with ⟨rfl, _⟩ | ⟨r, c, cur, rfl, _, hr, _⟩
  · simp [Value.ownBlock] at hk
  · simp [Value.ownBlock] at hk
    subst hk
    exact ⟨cur, hr⟩

theorem made_ends (n : Nat) : (madeCells (Value.bool false).cells (n * 1)).toList = (List.replicate n false).map Value.bool := by
  have h : ∀ i, (#[Value.bool false] : Array Value)[i % 1]! = .bool false := fun i => by rw [Nat.mod_one]; rfl
  simp only [madeCells, Value.cells, Nat.mul_one, List.map_replicate]
  have h2 : ((Array.range n).map fun i => (#[Value.bool false] : Array Value)[i % 1]!) = (Array.range n).map fun _ => Value.bool false := by
    congr 1
    funext i
    exact h i
  show ((Array.range n).map fun i => (#[Value.bool false] : Array Value)[i % 1]!).toList = _
  rw [h2]
  apply List.ext_getElem?
  intro i
  by_cases hi : i < n <;> simp [hi]

set_option maxRecDepth 100000 in
set_option maxHeartbeats 4000000 in
theorem comm_walk (A : Option Addr) (c : Nat) (l : List S41) (high : Int) (w0 : World) (hr : Kd.C k41 w0 A l.length l) (hc : l.length ≤ c) (h72 : l.length * 72 ≤ 140737488355328) (hwf : ∀ b ∈ l, (Lit.int .u64 b.f2).wf = true ∧ (Lit.int .i64 b.f0).wf = true)
    (hrecs : ∀ k, l.takeWhile (fun b => decide (toOf b ≤ high)) = l.take k → k ≤ l.length → (upto l (ends l k) l.length).length * 32 ≤ 140737488355328) :
    Calls Try.prog 12 #[.slice A l.length c, .int .i64 high] w0 fun e w' => ∃ (v : Value) (k : Nat), e = .returned v ∧ l.takeWhile (fun b => decide (toOf b ≤ high)) = l.take k ∧ k ≤ l.length ∧ w'.ownsRow w0.heap.size 37 3 v (upto l (ends l k) l.length).length ((upto l (ends l k) l.length).flatMap cells37) ∧ Below w0.heap.size w0 w' := by
  have hmm := @run_makeMap Try.prog
  obtain ⟨i4, hi4, hz4, hz5, hz6⟩ := info_parts info4
  obtain ⟨i3, hi3, hz0, hz1, hz2⟩ := info_parts info3
  obtain ⟨i37, hi37, hq0, hq1, hq2⟩ := info_parts info37
  have hmax : l.length < maxLen := by unfold maxLen; omega
  have HC := Lib.hid hr
  clear hr
  go_enter Try.func12, Try.ntmps12
  go_wp2_with (first | (at_make; refine wpList_make_full _ rfl (.tmp 17) (.tmp 17) 50 rfl w0.heap.size 4 i4 (.bool false) 1 Try.underlying50 hi4 hz4 hz5 .i64 .i64 l.length l.length l.length rfl rfl rfl rfl (by rw [hz6]; omega) (by unfold maxLen; omega) (Nat.le_refl _) ?_; intro wm hmk hmg) | go_in)
  rw [made_ends] at hmk
  have hbm : Below w0.heap.size w0 wm := (Below.refl w0.heap.size w0).grown hmg (Nat.le_refl _) (fun j hj => by cases hj)
  have hEm : w0.heap.size < wm.heap.size := (hmk.lt w0.heap.size rfl).2
  have hgr0 := World.ownsGroups_made (H := Unit) wm Try.prog 35 3 .i64
  generalize hbmv : wm.heap.size = bm at *
  go_loopw [22] (fun i wr => ∃ (k : Nat) (D : DataW Unit), k ≤ l.length ∧ i = .int .i64 k ∧ (∀ b ∈ l.take k, toOf b ≤ high) ∧ SemG l D k ∧ wr.ownsGroups Try.prog 35 (bm + 1) 3 .i64 bm k D ∧
      wr.ownsRow w0.heap.size 4 1 (.slice (some ⟨w0.heap.size, 0, none⟩) l.length l.length) l.length ((ends l k).map .bool) ∧ Below w0.heap.size w0 wr)
    (fun i _ => l.length - (intOf i).toNat)
  case atStart => exact ⟨0, .map [], Nat.zero_le _, rfl, by simp, fun p => .inl ⟨rfl, rfl⟩, hgr0, hmk.alloc _, hbm.alloc (by omega) _⟩
  case round =>
    obtain ⟨k, D, hk, rfl, hbl, hsem, hown, hrow, hB⟩ := hrel
    clear hgr0 hmk hbm
    generalize wr = wk at *
    have hbmr : bm < wk.heap.size := by obtain ⟨_, _, h, _⟩ := hown; exact (Array.getElem?_eq_some_iff.1 h).1
    have hcase : (¬ k < l.length) ∨ (∃ h : k < l.length, high < toOf l[k]) ∨ (∃ h : k < l.length, ¬ high < toOf l[k]) := by
      by_cases h : k < l.length
      · by_cases h2 : high < toOf l[k]
        · exact .inr (.inl ⟨h, h2⟩)
        · exact .inr (.inr ⟨h, h2⟩)
      · exact .inl h
    rcases hcase with hlt | ⟨hlt, hhi⟩ | ⟨hlt, hhi⟩
    case' inl =>
      have hpre := cut_at hbl (.inl (by omega))
      have hd : ¬ ((k : Int) < l.length) := by omega
      clear hlt hbmr
      go_wp2
      generalize wk = wx at *
    case' inr.inl =>
      have hpre := cut_at hbl (.inr ⟨hlt, hhi⟩)
      have hlk := List.getElem?_eq_getElem hlt
      obtain ⟨ad, A8, c8, rfl, x0, x1, x2, x3, x4, x5, x6, x7, x8, hl8, hi8⟩ := at_T41 HC.out (k : Int) (by omega) (by omega)
      rw [Int.toNat_natCast] at x0 x1 x2 x3 x4 x5 x6 x7 x8
      have hb : rd_T41 l (k : Int) = l[k] := by simp [rd_T41, List.getD, hlt]
      rw [hb] at x0 x1 x2 x3 x4 x5 x6 x7 x8 hl8 hi8
      have HT := Lib.hid (fun p => opens_take l k _ p (List.getElem?_eq_getElem hlt))
      have HTK := Lib.hid (List.take_succ_eq_append_getElem hlt)
      have hbm := hwf _ (List.getElem_mem hlt)
      generalize l[k] = b at *
      have hlx := fun {v : Value} (a : Addr) (h : w0.cell? a = some v) => (hB.cell (World.block_lt_of_cell? w0 a h)).trans h
      replace x0 := hlx _ x0
      replace x1 := hlx _ x1
      replace x2 := hlx _ x2
      replace x3 := hlx _ x3
      replace x4 := hlx _ x4
      replace x5 := hlx _ x5
      replace x6 := hlx _ x6
      replace x7 := hlx _ x7
      replace x8 := hlx _ x8
      replace hi8 := Kd.C_below hi8 hB
      clear hlx hb
      have hbx : BatchIn (wk.alloc (.cells #[.int .i64 b.f0, .int .i64 b.f1, .int .u64 b.f2, .int .i64 b.f3, .int .i64 b.f4, .bool b.f5, .bool b.f6, .bool b.f7, .slice A8 b.f8.length c8] 41)) wk.heap.size b A8 c8 := heap_alloc_new wk _
      have HBX := Lib.hid hbx
      have hwr := hB.size
      have hd : high < IntKind.i64.wrap (b.f0 + szOf b) := by rw [i64_wrap]; exact hhi
      go_wp2
      clear hbx
      go_region_held3 (fun w' => w'.cell? ⟨wk.heap.size, 0, none⟩ = some (.int .i64 b.f0) ∧ w'.cell? ⟨wk.heap.size, 1, none⟩ = some (.int .i64 b.f1) ∧ w'.cell? ⟨wk.heap.size, 2, none⟩ = some (.int .u64 b.f2) ∧ w'.cell? ⟨wk.heap.size, 3, none⟩ = some (.int .i64 b.f3) ∧ w'.cell? ⟨wk.heap.size, 4, none⟩ = some (.int .i64 b.f4) ∧
          w'.cell? ⟨wk.heap.size, 5, none⟩ = some (.bool b.f5) ∧ w'.cell? ⟨wk.heap.size, 6, none⟩ = some (.bool b.f6) ∧ w'.cell? ⟨wk.heap.size, 7, none⟩ = some (.bool b.f7) ∧ w'.cell? ⟨wk.heap.size, 8, none⟩ = some (.slice A8 b.f8.length c8))
        (first | exact HBX.out.cells | exact BatchIn.cells (b := b) ((hb2.block _ (by simp)).trans HBX.out)) (first | (go_at_call 22; refine (size_calls b A8 c8 _ (Kd.C_drew (Kd.C_alloc hi8 _)) hl8).mono ?_; rintro e w2 ⟨rfl, hb2⟩))
      have hw2 : Below w0.heap.size w0 w2 := ((hB.alloc hwr _).drew).trans (hb2.mono (by simp; omega))
      have hg2 : wk.grownBy w2 none := grown_of_below ((((Below.refl wk.heap.size wk).alloc (Nat.le_refl _) _).drew).trans (hb2.mono (by simp)))
      have hB2 := hB.grown hg2 hB.size (fun j hj => by cases hj)
      have hrow2 := hrow.kept hg2 (.inr (by simp [Value.ownBlock]))
      clear hi8 HBX hown hrow hB x0 x1 x2 x3 x4 x5 x6 x7 x8 hl8 hg2 hb2 hwr hbmr hbm
      have hrow := hrow2
      have hB := hB2
      clear hrow2 hB2
      go_wp2
      clear hd hhi HT HTK hlk
      generalize w2 = wx at *
      generalize some ad = A at *
    case inr.inr =>
      have hlk := List.getElem?_eq_getElem hlt
      obtain ⟨ad, A8, c8, rfl, x0, x1, x2, x3, x4, x5, x6, x7, x8, hl8, hi8⟩ := at_T41 HC.out (k : Int) (by omega) (by omega)
      rw [Int.toNat_natCast] at x0 x1 x2 x3 x4 x5 x6 x7 x8
      have hb : rd_T41 l (k : Int) = l[k] := by simp [rd_T41, List.getD, hlt]
      rw [hb] at x0 x1 x2 x3 x4 x5 x6 x7 x8 hl8 hi8
      have HT := Lib.hid (fun p => opens_take l k _ p (List.getElem?_eq_getElem hlt))
      have HTK := Lib.hid (List.take_succ_eq_append_getElem hlt)
      have hbm := hwf _ (List.getElem_mem hlt)
      generalize l[k] = b at *
      have hlx := fun {v : Value} (a : Addr) (h : w0.cell? a = some v) => (hB.cell (World.block_lt_of_cell? w0 a h)).trans h
      replace x0 := hlx _ x0
      replace x1 := hlx _ x1
      replace x2 := hlx _ x2
      replace x3 := hlx _ x3
      replace x4 := hlx _ x4
      replace x5 := hlx _ x5
      replace x6 := hlx _ x6
      replace x7 := hlx _ x7
      replace x8 := hlx _ x8
      replace hi8 := Kd.C_below hi8 hB
      clear hlx hb
      have hbx : BatchIn (wk.alloc (.cells #[.int .i64 b.f0, .int .i64 b.f1, .int .u64 b.f2, .int .i64 b.f3, .int .i64 b.f4, .bool b.f5, .bool b.f6, .bool b.f7, .slice A8 b.f8.length c8] 41)) wk.heap.size b A8 c8 := heap_alloc_new wk _
      have HBX := Lib.hid hbx
      have hwr := hB.size
      have hd : ¬ high < IntKind.i64.wrap (b.f0 + szOf b) := by rw [i64_wrap]; exact hhi
      go_wp2
      clear hbx
      go_region_held3 (fun w' => w'.cell? ⟨wk.heap.size, 0, none⟩ = some (.int .i64 b.f0) ∧ w'.cell? ⟨wk.heap.size, 1, none⟩ = some (.int .i64 b.f1) ∧ w'.cell? ⟨wk.heap.size, 2, none⟩ = some (.int .u64 b.f2) ∧ w'.cell? ⟨wk.heap.size, 3, none⟩ = some (.int .i64 b.f3) ∧ w'.cell? ⟨wk.heap.size, 4, none⟩ = some (.int .i64 b.f4) ∧
          w'.cell? ⟨wk.heap.size, 5, none⟩ = some (.bool b.f5) ∧ w'.cell? ⟨wk.heap.size, 6, none⟩ = some (.bool b.f6) ∧ w'.cell? ⟨wk.heap.size, 7, none⟩ = some (.bool b.f7) ∧ w'.cell? ⟨wk.heap.size, 8, none⟩ = some (.slice A8 b.f8.length c8))
        (first | exact HBX.out.cells | exact BatchIn.cells (b := b) ((hb2.block _ (by simp)).trans HBX.out)) (first | (go_at_call 22; refine (size_calls b A8 c8 _ (Kd.C_drew (Kd.C_alloc hi8 _)) hl8).mono ?_; rintro e w2 ⟨rfl, hb2⟩))
      have hw2 : Below w0.heap.size w0 w2 := ((hB.alloc hwr _).drew).trans (hb2.mono (by simp; omega))
      have hg2 : wk.grownBy w2 none := grown_of_below ((((Below.refl wk.heap.size wk).alloc (Nat.le_refl _) _).drew).trans (hb2.mono (by simp)))
      have hB2 := hB.grown hg2 hB.size (fun j hj => by cases hj)
      have hown2 := groups_grown hown hg2
      have hrow2 := hrow.kept hg2 (.inr (by simp [Value.ownBlock]))
      have hkey := Maps.keyOf_int_mk Try.underlying35 hbm.1
      have hb3 : BatchIn w2 wk.heap.size b A8 c8 := (hb2.block _ (by simp)).trans HBX.out
      obtain ⟨y0, y1, y2, y3, y4, y5, y6, y7, y8⟩ := hb3.cells
      clear hi8 HBX hown hrow hB x0 x1 x2 x3 x4 x5 x6 x7 x8 hl8
      have hkm : k < 1954687338463 := by omega
      have hbm2 : bm < w2.heap.size := by obtain ⟨_, _, h, _⟩ := hown2; exact (Array.getElem?_eq_some_iff.1 h).1
      have close : ∀ (D' : DataW Unit) (w3 : World), w3.ownsGroups Try.prog 35 (bm + 1) 3 .i64 bm (k + 1) D' → SemG l D' (k + 1) → w3.ownsRow w0.heap.size 4 1 (.slice (some ⟨w0.heap.size, 0, none⟩) l.length l.length) l.length ((ends l (k + 1)).map .bool) → Below w0.heap.size w0 w3 →
          (∃ (k_1 : Nat) (D : DataW Unit), k_1 ≤ l.length ∧ Value.int .i64 ((k : Int) + 1) = .int .i64 k_1 ∧ (∀ b ∈ l.take k_1, toOf b ≤ high) ∧ SemG l D k_1 ∧ w3.ownsGroups Try.prog 35 (bm + 1) 3 .i64 bm k_1 D ∧
            w3.ownsRow w0.heap.size 4 1 (.slice (some ⟨w0.heap.size, 0, none⟩) l.length l.length) l.length ((ends l k_1).map .bool) ∧ Below w0.heap.size w0 w3) := by
        intro D' w3 ho hs hro hb
        refine ⟨k + 1, D', hlt, rfl, ?_, hs, ho, hro, hb⟩
        rw [HTK.out]
        intro x hx
        rcases List.mem_append.1 hx with hx | hx
        · exact hbl x hx
        · obtain rfl : x = b := by simpa using hx
          first | exact hhi | exact Int.not_lt.1 hhi
      have hCl := Lib.hid close
      clear close
      have hlen : l.length - (intOf (.int .i64 ((k : Int) + 1))).toNat < l.length - (intOf (.int .i64 (k : Int))).toNat := by
        simp only [intOf]
        omega
      have hLen := Lib.hid hlen
      clear hlen
      by_cases h6 : b.f6 = true
      · rw [h6] at y6
        go_wp2_with (first | (at_lookup; refine wpList_lookup_groups _ rfl _ _ 51 rfl 35 52 3 .i64 law35 Try.underlying51 (zero52 _) (bm + 1) bm k D rfl hown2 (by omega) _ _ rfl hkey ?_; intro v zs hat hoi hzl _; obtain ⟨Av, cv, rfl, hcv⟩ := ints_form hoi) | go_in)
        have hzs : zs = grp l b.f2 k := by
          have h1 := hsem b.f2
          rw [hat] at h1
          exact DG.unique hoi.datum h1
        have HM := Lib.hid (grp_mem l b.f2 k)
        rw [← hzs] at HM
        have HZS := Lib.hid hzs
        clear hzs
        have hwlt : w0.heap.size < wk.heap.size := by have := hrow2.lt w0.heap.size rfl; omega
        go_loopw [45] (fun i wl => ∃ j : Nat, j ≤ zs.length ∧ i = .int .i64 j ∧ wl.ownsRow w0.heap.size 4 1 (.slice (some ⟨w0.heap.size, 0, none⟩) l.length l.length) l.length ((setAll (ends l k) (zs.take j) b.f7).map .bool) ∧ w2.grownBy wl (some w0.heap.size))
          (fun i _ => zs.length - (intOf i).toNat)
        case atStart => exact ⟨0, Nat.zero_le _, rfl, hrow2, (grown_of_below (Below.refl _ _)).but _⟩
        case round =>
          obtain ⟨j, hj, rfl, hrow3, hgl⟩ := hrel
          have hown3 := hown2.kept hgl (by simp; omega) (hown2.rowsAbove (fun j hj => by cases hj; omega))
          have hoi3 := hoi.kept hgl (by
            cases hv : (Value.slice Av zs.length cv).ownBlock with
            | none => exact .inl rfl
            | some g => refine .inr (fun e => ?_); have := (hoi.1.lt g hv).1; cases e; omega)
          have hb4 : BatchIn wr wk.heap.size b A8 c8 := (hgl.block _ (by have := (Array.getElem?_eq_some_iff.1 hb3).1; exact this) (by simp; omega)).trans hb3
          obtain ⟨_, _, z2, _, _, _, _, z7, _⟩ := hb4.cells
          by_cases hjl : j < zs.length
          · obtain ⟨g9, rfl⟩ : ∃ g9, Av = some ⟨g9, 0, none⟩ := by
              rcases hoi3.1.2 with ⟨_, h0⟩ | ⟨g9, c9, cur, hv, _⟩
              · omega
              · injection hv with hv
                exact ⟨g9, hv⟩
            have x1 := (hoi3.1.cellAt j (by omega)).trans (by simp [hjl] : _ = some (Value.int .i64 zs[j]))
            have HZ := Lib.hid (List.take_succ_eq_append_getElem hjl)
            have hzb := HM.out _ (List.getElem_mem hjl)
            generalize zs[j] = z at *
            have hel : ((setAll (ends l k) (zs.take j) b.f7).map Value.bool).length = l.length := by rw [List.length_map, setAll_len, ends_len]
            have x2 := (hrow3.cellAt z.toNat (by omega)).trans (List.getElem?_eq_getElem (by rw [hel]; omega))
            have f2 := hrow3.frozenAt z.toNat
            obtain ⟨hrow4, hg4⟩ := hrow3.stored z.toNat (.bool b.f7)
            have hzn : (0 : Int) ≤ z := hzb.1
            have hzl : z < l.length := by omega
            go_wp2
            go_roundw
            case rel =>
              refine ⟨j + 1, hjl, by go_num, ?_, hgl.trans hg4⟩
              rw [HZ.out, setAll_snoc, List.map_set]
              exact hrow4
            case measure => simp [intOf]; omega
          · obtain rfl : j = zs.length := by omega
            clear hjl hj
            go_wp2_with (first | (at_mapUpdate; refine wpList_mapUpdate_back (v' := .slice none 0 0) (zs' := []) _ rfl _ _ _ 51 rfl (groups_nil hown3 law35 Try.underlying51 (by omega) hkey) rfl rfl rfl (grown_of_below (Below.refl _ _)) (World.ownsInts_nil _ _ _ _) (by simp) (.inl rfl) ?_; intro w3 hown4 hgrow4) | go_in)
            have hB3 := hB2.grown hgl hB2.size (fun j hj => by cases hj; exact Nat.le_refl _)
            refine ⟨hCl.out _ _ hown4 (semg_put hsem (groups_isMap hown2) hlk (.inl ⟨rfl, rfl⟩) (by rw [if_pos h6]) (.inl h6)) ?_ (hB3.grown hgrow4 hB3.size (fun j hj => by cases hj; omega)), hLen.out⟩
            rw [ends_ctl hlk h6, ← HZS.out]
            rw [List.take_length] at hrow3
            exact hrow3.kept hgrow4 (.inr (by simp [Value.ownBlock]; omega))
      · have h6' : b.f6 = false := by simpa using h6
        rw [h6'] at y6
        by_cases h5 : b.f5 = true
        · rw [h5] at y5
          obtain ⟨v, zs, hat, hrunL, hatD, hoi, hzl, hback⟩ : ∃ (v : Value) (zs : List Int) (_ : True), (Instr.lookup 51 (.map (some bm)) (.int .u64 b.f2) false).run Try.prog w2.drew = .ok v w2.drew ∧ D.atKey (.int .u64 b.f2) .nil = rowDatum .i64 v zs ∧ w2.drew.ownsInts (bm + 1) 3 .i64 v zs ∧ zs.length ≤ k ∧ w2.drew.groupBack Try.prog 51 35 (bm + 1) 3 .i64 bm k D (.int .u64 b.f2) (.int .u64 b.f2) v := by
            obtain ⟨v, zs, h1, h2, h3, h4, h5⟩ := World.ownsGroups.at (w := w2.drew) hown2 law35 Try.underlying51 (zero52 _) (by omega) hkey
            exact ⟨v, zs, trivial, h1, h2, h3, h4, h5⟩
          obtain ⟨Av, cv, rfl, hcv⟩ := ints_form hoi
          have hzs : zs = grp l b.f2 k := by
            have h1 := hsem b.f2
            rw [hatD] at h1
            exact DG.unique hoi.datum h1
          have HZS := Lib.hid hzs
          clear hzs hat
          have hLS : ∀ w' : World, w'.heap[bm]? = w2.heap[bm]? → (Instr.lookup 51 (.map (some bm)) (.int .u64 b.f2) false).run Try.prog w' = .ok (.slice Av zs.length cv) w' := by
            obtain ⟨es, clock, hes, F, _⟩ := hown2
            intro w' hw'
            exact look_same (w := w2.drew) law35 Try.underlying51 (zero52 _) (zero52 _) hes (hw'.trans hes) F hkey hrunL
          have hKP : ∀ w' : World, w'.heap[wk.heap.size]? = w2.heap[wk.heap.size]? → w'.cell? ⟨wk.heap.size, 2, none⟩ = some (.int .u64 b.f2) :=
            fun w' h1 => (BatchIn.cells (w := w') (b := b) (h1.trans hb3)).2.2.1
          have hl1 := hLS w2.drew rfl
          have hl2 := hLS ((w2.alloc (.cells #[.int .i64 k] 3)).drew) ((World.grownBy_alloc w2 _ none).block _ hbm2 (by simp))
          have hwk2 : wk.heap.size < w2.heap.size := (Array.getElem?_eq_some_iff.1 hb3).1
          have hne1 : some wk.heap.size ≠ (Value.slice Av zs.length cv).ownBlock := fun e => by
            obtain ⟨cs, h⟩ := row_type hoi.1 e.symm
            have h' : w2.heap[wk.heap.size]? = _ := h
            rw [hb3] at h'
            injection h' with h'
            injection h' with _ h'
            cases h'
          have hne2 : some bm ≠ (Value.slice Av zs.length cv).ownBlock := fun e => by have := (hoi.1.lt bm e.symm).1; omega
          have HKP := Lib.hid hKP
          have HB3 := Lib.hid hb3
          have HBK := Lib.hid hback
          have HN1 := Lib.hid hne1
          have HN2 := Lib.hid hne2
          clear hLS hback hrunL hKP hne1 hne2
          have hwk : (Lit.int .i64 (k : Int)).wf = true := by
            simp [Lit.wf, show IntKind.i64.min = -9223372036854775808 from rfl, show IntKind.i64.max = 9223372036854775807 from rfl]
            omega
          go_wp2
          go_region_held3 (fun w' => w'.cell? ⟨wk.heap.size, 2, none⟩ = some (.int .u64 b.f2))
            (first | exact HKP.out _ rfl | exact HKP.out _ ((World.grownBy_alloc w2 _ none).block _ hwk2 (by simp)) | exact HKP.out _ ((hgrow5.block _ (by simp; omega) HN1.out).trans ((World.grownBy_alloc w2 _ none).block _ hwk2 (by simp))) | exact HKP.out _ ((hgrow6.block _ (by have := hgrow5.size; simp at this; omega) (by simp; omega)).trans ((hgrow5.block _ (by simp; omega) HN1.out).trans ((World.grownBy_alloc w2 _ none).block _ hwk2 (by simp)))))
            (first | (refine step_append_lies _ (by rfl) (.tmp 67) (.tmp 69) 52 (by rfl) (bm + 1) 3 i3 (.int .i64 0) 1 8 Try.underlying52 hi3 hz0 hz1 hz2 (by rfl) (by decide) (.slice Av zs.length cv) zs.length (zs.map (Value.int .i64)) (by rfl) (hoi.1.alloc _) ⟨w2.heap.size, 0, none⟩ 1 1 [.int .i64 k] (by rfl) (by rfl) (cell_one_new _ _ _) (by simp [Value.oneCell']) (by decide) (by unfold maxLen; omega) (by omega) (by simp; omega) (w2.heap.size + 1) (by simp) ?_; intro g7 c7 w5 hown5 hgrow5 hat5 hlt5; obtain ⟨w6, hrun6, hown6, hgrow6⟩ := HBK.out w5 _ (zs ++ [(k : Int)]) ((World.grownBy_alloc w2.drew _ _).trans hgrow5) (hoi.appended hown5 hwk) (by simp; omega) (hat5.elim (fun h => .inl (by rw [h]; rfl)) (fun h => .inr ⟨g7, rfl, by rw [h]; exact Nat.le_succ _⟩))))
          all_goals
            go_wp2
            have hne3 : some w0.heap.size ≠ (Value.slice Av zs.length cv).ownBlock := fun e => by have := (hoi.1.lt _ e.symm).1; omega
            have hr5 := ((hrow2.alloc (.cells #[.int .i64 k] 3)).drew).kept hgrow5 (.inr hne3)
            have hr6 := hr5.kept hgrow6 (.inr (by simp [Value.ownBlock]; omega))
            have hBa := (hB2.alloc hB2.size (.cells #[.int .i64 k] 3)).drew
            have hB5 := hBa.grown hgrow5 hBa.size (fun j hj => by have := (hoi.1.lt j hj).1; omega)
            have hB6 := hB5.grown hgrow6 hB5.size (fun j hj => by cases hj; omega)
            refine ⟨hCl.out _ _ hown6 (semg_put hsem (groups_isMap hown2) hlk (hoi.appended hown5 hwk).datum (by rw [if_neg h6, HZS.out]) (.inr h5)) ?_ hB6, hLen.out⟩
            rw [ends_txn hlk h6' h5]
            exact hr6
        · have h5' : b.f5 = false := by simpa using h5
          rw [h5'] at y5
          have hf := hrow2.frozenAt k
          have hce := (hrow2.cellAt k (by omega)).trans (by simp [ends_len, hlt] : _ = some (Value.bool ((ends l k)[k]'(by rw [ends_len]; exact hlt))))
          obtain ⟨hrow4, hg4⟩ := hrow2.stored k (.bool true)
          go_wp2
          refine ⟨hCl.out _ _ (groups_mono (hown2.kept hg4 (by simp; omega) (hown2.rowsAbove (fun j hj => by cases hj; omega))) (Nat.le_succ _)) (semg_same hsem hlk h6' h5') ?_ (hB2.grown hg4 hB2.size (fun j hj => by cases hj; exact Nat.le_refl _)), hLen.out⟩
          rw [ends_plain hlk h6' h5', List.map_set]
          exact hrow4
    all_goals
      have hel : (ends l k).length = l.length := ends_len l k
      have hR := hrecs k hpre hk
      generalize hes : ends l k = es at *
      have HES := Lib.hid hes
      clear hes
      have hzx := hB.size
      have hwx : w0.heap.size < wx.heap.size := by have := (hrow.lt w0.heap.size rfl).2; omega
      clear hsem hbl
      go_loopw [11, 74] (fun v i wr => ∃ (k2 : Nat), k2 ≤ l.length ∧ i = .int .i64 k2 ∧ wr.ownsRow wx.heap.size 37 3 v (upto l es k2).length ((upto l es k2).flatMap cells37) ∧
          wr.ownsRow w0.heap.size 4 1 (.slice (some ⟨w0.heap.size, 0, none⟩) l.length l.length) l.length (es.map .bool) ∧ Below w0.heap.size w0 wr ∧ wx.heap.size ≤ wr.heap.size)
        (fun _ i _ => l.length - (intOf i).toNat)
      case atStart => exact ⟨0, Nat.zero_le _, rfl, World.ownsRow_nil _ _ _ _, hrow, hB, Nat.le_refl _⟩
      case round =>
        obtain ⟨k2, hk2, rfl, hrr, hrow, hB, hzr⟩ := hrel
        generalize wr = wk at *
        by_cases hlt : k2 < l.length
        · obtain ⟨ad2, A9, c9, rfl, x0, x1, x2, x3, x4, x5, x6, x7, x8, hl8, hi8⟩ := at_T41 HC.out (k2 : Int) (by omega) (by omega)
          rw [Int.toNat_natCast] at x0 x1 x2 x3 x4 x5 x6 x7 x8
          have hb : rd_T41 l (k2 : Int) = l[k2] := by simp [rd_T41, List.getD, hlt]
          rw [hb] at x0 x1 x2 x3 x4 x5 x6 x7 x8 hl8 hi8
          have hlk := List.getElem?_eq_getElem hlt
          have hbm := hwf _ (List.getElem_mem hlt)
          generalize l[k2] = b at *
          have hlx := fun {v : Value} (a : Addr) (h : w0.cell? a = some v) => (hB.cell (World.block_lt_of_cell? w0 a h)).trans h
          replace x0 := hlx _ x0
          replace x1 := hlx _ x1
          replace x2 := hlx _ x2
          replace x3 := hlx _ x3
          replace x4 := hlx _ x4
          replace x5 := hlx _ x5
          replace x6 := hlx _ x6
          replace x7 := hlx _ x7
          replace x8 := hlx _ x8
          have hi0 := Lib.hid hi8
          clear hi8
          clear hlx hb
          have hbx : BatchIn (wk.alloc (.cells #[.int .i64 b.f0, .int .i64 b.f1, .int .u64 b.f2, .int .i64 b.f3, .int .i64 b.f4, .bool b.f5, .bool b.f6, .bool b.f7, .slice A9 b.f8.length c9] 41)) wk.heap.size b A9 c9 := heap_alloc_new wk _
          have hza := hbx.cells
          obtain ⟨z0, z1, z2, z3, z4, z5, z6, z7, z8⟩ := hza
          have hrowa := hrow.alloc (.cells #[.int .i64 b.f0, .int .i64 b.f1, .int .u64 b.f2, .int .i64 b.f3, .int .i64 b.f4, .bool b.f5, .bool b.f6, .bool b.f7, .slice A9 b.f8.length c9] 41)
          by_cases he : es.getD k2 false = true
          · have hce : (es.map Value.bool)[k2]? = some (.bool true) := by
              have h1 : k2 < es.length := by rw [hel]; exact hlt
              rw [List.getElem?_map, List.getElem?_eq_getElem h1]
              have h2 : es[k2] = true := by simpa [List.getD, h1] using he
              rw [h2]; rfl
            have hR1 : (upto l es k2).length + b.f8.length ≤ (upto l es l.length).length := by
              have h1 := upto_mono l es (show k2 + 1 ≤ l.length from hlt)
              rw [upto_yes hlk he, List.length_append] at h1
              simpa [recs] using h1
            go_wp2
            go_loopw [11, 82] (fun v i wl => ∃ j : Nat, j ≤ b.f8.length ∧ i = .int .i64 j ∧ wl.ownsRow wx.heap.size 37 3 v (upto l es k2 ++ recs b j).length ((upto l es k2 ++ recs b j).flatMap cells37) ∧
                wl.ownsRow w0.heap.size 4 1 (.slice (some ⟨w0.heap.size, 0, none⟩) l.length l.length) l.length (es.map .bool) ∧ Below w0.heap.size w0 wl ∧ BatchIn wl wk.heap.size b A9 c9 ∧ wx.heap.size ≤ wl.heap.size)
              (fun _ i _ => b.f8.length - (intOf i).toNat)
            case atStart => exact ⟨0, Nat.zero_le _, rfl, by simpa [recs] using hrr.alloc _, hrowa, hB.alloc (by omega) _, hbx, by simp; omega⟩
            case round =>
              obtain ⟨j, hj, rfl, hrr, hrow, hB, hbx, hzr⟩ := hrel
              obtain ⟨z0, z1, z2, z3, z4, z5, z6, z7, z8⟩ := hbx.cells
              by_cases hjl : j < b.f8.length
              · obtain ⟨ad3, Aj, cj, rfl, xj, hlj, hij⟩ := at_L1 (Kd.C_below hi0.out hB) (j : Int) (by omega) (by omega)
                have hrd : rd_L1 b.f8 (j : Int) = b.f8.getD j [] := by simp [rd_L1]
                rw [hrd] at xj hlj hij
                rw [Int.toNat_natCast] at xj
                have hrec : recOf b j = ⟨wrap64 (b.f0 + j), b.f2, strOfNums (b.f8.getD j [])⟩ := rfl
                generalize b.f8.getD j [] = vj at *
                have HRE := Lib.hid hrec
                clear hrec hrd
                have hconv := Kd.C_string Try.underlying47 Try.underlying5 Try.underlying9 (c := cj) hij
                have hce2 := (hrow.cellAt k2 (by omega)).trans hce
                have hln : (upto l es k2 ++ recs b j).length = (upto l es k2).length + j := by simp [recs]
                go_wp2_with (first | (at_builtin; refine wpList_append_own_at _ rfl (.tmp 91) (.tmp 101) 27 rfl wx.heap.size 37 i37 (.agg #[(.int .i64 0), (.int .u64 0), (.string ⟨#[]⟩)]) 3 32 Try.underlying27 hi37 hq0 hq1 hq2 rfl (by decide) _ _ _ rfl (hrr.alloc _) ⟨wr.heap.size, 0, none⟩ 1 1 [.int .i64 (wrap64 (b.f0 + j)), .int .u64 b.f2, .string (strOfNums vj)] rfl rfl (World.news_of_block (heap_alloc_new wr _)) (by simp [Value.oneCell']) (by unfold maxLen; omega) (by omega) (by simp; omega) ?_; intro v' w5 hown5 hgrow5 _ hat5; go_frame) | go_in)
                go_wp2
                go_roundw
                case rel =>
                  have hall := (World.grownBy_alloc wr _ _).trans hgrow5
                  have hown6 : w5.ownsRow wx.heap.size 37 3 v' (upto l es k2 ++ recs b (j + 1)).length ((upto l es k2 ++ recs b (j + 1)).flatMap cells37) := by
                    rw [recs_succ, HRE.out, ← List.append_assoc, List.length_append, List.flatMap_append]
                    exact hown5
                  refine ⟨j + 1, hjl, by first | rfl | go_num, hown6, hrow.kept hall (.inr ?_), hB.grown hall hB.size (fun q hq => ?_), (hall.block _ ?_ ?_).trans hbx, Nat.le_trans hzr hall.size⟩
                  · intro e
                    have := (hrr.lt w0.heap.size e.symm).1
                    omega
                  · have := (hrr.lt _ hq).1
                    omega
                  · exact (Array.getElem?_eq_some_iff.1 hbx).1
                  · intro e
                    obtain ⟨cs, h⟩ := row_type hrr e.symm
                    rw [show wr.heap[wk.heap.size]? = _ from hbx] at h
                    injection h with h
                    injection h with _ h
                    cases h
                case measure => simp [intOf]; omega
              · obtain rfl : j = b.f8.length := by omega
                clear hjl hj
                go_wp2
                refine ⟨⟨k2 + 1, hlt, ?_, by rw [upto_yes hlk he]; exact hrr, hrow, hB, hzr⟩, ?_⟩
                · go_num
                · simp [intOf]; omega
          · have he' : es.getD k2 false = false := by simpa using he
            have hce : (es.map Value.bool)[k2]? = some (.bool false) := by
              have h1 : k2 < es.length := by rw [hel]; exact hlt
              rw [List.getElem?_map, List.getElem?_eq_getElem h1]
              have h2 : es[k2] = false := by simpa [List.getD, h1] using he'
              rw [h2]; rfl
            have hBa := hB.alloc (o := .cells #[.int .i64 b.f0, .int .i64 b.f1, .int .u64 b.f2, .int .i64 b.f3, .int .i64 b.f4, .bool b.f5, .bool b.f6, .bool b.f7, .slice A9 b.f8.length c9] 41) (by omega)
            go_wp2
            go_loopw [11, 82] (fun v i wl => ∃ j : Nat, j ≤ b.f8.length ∧ i = .int .i64 j ∧ v = u11 ∧ wl = wk.alloc (.cells #[.int .i64 b.f0, .int .i64 b.f1, .int .u64 b.f2, .int .i64 b.f3, .int .i64 b.f4, .bool b.f5, .bool b.f6, .bool b.f7, .slice A9 b.f8.length c9] 41))
              (fun _ i _ => b.f8.length - (intOf i).toNat)
            case atStart => exact ⟨0, Nat.zero_le _, rfl, rfl, rfl⟩
            case round =>
              obtain ⟨j, hj, rfl, rfl, rfl⟩ := hrel
              by_cases hjl : j < b.f8.length
              · obtain ⟨ad3, Aj, cj, rfl, xj, hlj, hij⟩ := at_L1 (Kd.C_below hi0.out hBa) (j : Int) (by omega) (by omega)
                have hrd : rd_L1 b.f8 (j : Int) = b.f8.getD j [] := by simp [rd_L1]
                rw [hrd] at xj hlj hij
                rw [Int.toNat_natCast] at xj
                generalize b.f8.getD j [] = vj at *
                clear hrd
                have hce2 := (hrowa.cellAt k2 (by omega)).trans hce
                go_wp2
                go_roundw
                case rel => exact ⟨j + 1, hjl, by have hfl := hi0.out.2.1; rw [IntWalk.wrap64_in _ (by omega)]; rfl, rfl, trivial⟩
                case measure =>
                  have hfl := hi0.out.2.1
                  rw [IntWalk.wrap64_in _ (by omega)]
                  simp only [intOf]
                  omega
              · obtain rfl : j = b.f8.length := by omega
                clear hjl hj
                go_wp2
                refine ⟨⟨k2 + 1, hlt, ?_, by rw [upto_no hlk he']; exact hrr.alloc _, hrowa, hBa, by simp; omega⟩, ?_⟩
                · go_num
                · simp [intOf]; omega
        · obtain rfl : k2 = l.length := by omega
          clear hlt hk2
          go_wp2
          go_ret
          exact ⟨_, k, rfl, hpre, hk, by rw [HES.out]; exact own_less hrr (by omega), hB⟩
end Go.Proofs.Ytnbdlkjphdfkpaa

/- NetPlays: the step Send. No conditions. -/
import Derived.Test.YtalaghkpbdaonaaPlBD
import Derived.Test.YtalaghkpbdaonaaPlM
namespace Go.Proofs.Ytalaghkpbdaonaa
open Go Go.RowKit H Go.Proofs.YtalaghkpbdaonaaW.PrintWords Strict

/-- The step, the packet of its own, and that packet's body. -/
structure Sd (w0 W : World) (gb g6 g7 : Nat) (i j : Int) (p : S28) (A1 A2 : Option Addr) (c1 c2 : Nat) : Prop where
  h6 : W.heap[g6]? = some (.cells #[.int .i64 0, .int .i64 i, .int .i64 j, .int .i64 p.f0, .int .i64 p.f1, .slice A2 p.f2.length c2] 49 (0, 0))
  h7 : W.heap[g7]? = some (.cells #[.int .i64 p.f0, .int .i64 p.f1, .slice A1 p.f2.length c1] 28 (0, 0))
  body : (Kd.int .u8).R 5 W w0.heap.size (fun k => k = gb) (.slice A1 p.f2.length c1) p.f2
  below : Below w0.heap.size w0 W
  lt : gb < W.heap.size
  ge : w0.heap.size ≤ gb

section
variable {w0 W W' : World} {gb g6 g7 : Nat} {i j : Int} {p : S28} {A1 A2 : Option Addr} {c1 c2 : Nat}

theorem Sd.later (h : Sd w0 W gb g6 g7 i j p A1 A2 c1 c2) (hb : Below W.heap.size W W') : Sd w0 W' gb g6 g7 i j p A1 A2 c1 c2 :=
  ⟨blk_below h.h6 hb, blk_below h.h7 hb, Kd.R_below h.body hb, below_step h.below hb, Nat.lt_of_lt_of_le h.lt hb.size, h.ge⟩

theorem Sd.moved {X : Nat} {u : Value} {cells : Array Value} {t : TypeId} {fr : Nat × Nat} (h : Sd w0 W gb g6 g7 i j p A1 A2 c1 c2) (hm : NetMoved W W' w0.heap.size X u) (hX : W.heap[X]? = some (.cells cells t fr)) (h1 : 49 ≠ t) (h2 : 28 ≠ t) (h3 : 5 ≠ t) (hu : ∀ g, u.ownBlock = some g → g ≠ g7 ∧ ∃ cells, W.heap[g]? = some (.cells cells 28 (0, 0))) : Sd w0 W' gb g6 g7 i j p A1 A2 c1 c2 := by
  refine ⟨(hm.2 _ (blk_lt h.h6) (ty_ne h.h6 hX h1) (fun e => ?_)).trans h.h6, (hm.2 _ (blk_lt h.h7) (ty_ne h.h7 hX h2) (fun e => (hu _ e.symm).1 rfl)).trans h.h7, body_free h.body (fun k cs fr _ hl _ hc => hm.2 k hl (ty_ne hc hX h3) (fun e => ?_)), h.below.trans hm.1, Nat.lt_of_lt_of_le h.lt hm.1.size, h.ge⟩
  · obtain ⟨_, cells', hc'⟩ := hu _ e.symm
    exact ty_ne h.h6 hc' (by decide) rfl
  · obtain ⟨_, cells', hc'⟩ := hu _ e.symm
    exact ty_ne hc hc' (by decide) rfl
end

theorem Sd.base_le {w0 W : World} {gb g6 g7 : Nat} {i j : Int} {p : S28} {A1 A2 : Option Addr} {c1 c2 : Nat} (h : Sd w0 W gb g6 g7 i j p A1 A2 c1 c2) : w0.heap.size ≤ W.heap.size := h.below.size

theorem RefIn.lv_typed {w : World} {base R g : Nat} {lv cv : Value} {ps : List S28} {cs : List (Int × Int)} (h : RefIn w base R lv cv ps cs) (hg : lv.ownBlock = some g) : ∃ cells, w.heap[g]? = some (.cells cells 28 (0, 0)) := by
  obtain ⟨xs, hx, _⟩ := h.list
  exact own_typed hx g hg

theorem send_start {w0 w w1 : World} {N M R g6 : Nat} {i j : Int} {p : S28} {A1 A2 : Option Addr} {c1 c2 : Nat} {v lv cv : Value} {ps : List S28} {cs : List (Int × Int)} {D : DataW Unit} {m : Nat} (hB : Both w w0.heap.size N M R v lv cv ps cs D m)
    (h6 : w.heap[g6]? = some (.cells #[.int .i64 0, .int .i64 i, .int .i64 j, .int .i64 p.f0, .int .i64 p.f1, .slice A2 p.f2.length c2] 49 (0, 0))) (hb : Below w0.heap.size w0 w) (hR : (Kd.int .u8).R 5 w1 w.heap.size (fun _ => True) (.slice A1 p.f2.length c1) p.f2) (hb1 : Below w.heap.size w w1) :
    ∃ gb, Sd w0 (w1.alloc (.cells #[.int .i64 p.f0, .int .i64 p.f1, .slice A1 p.f2.length c1] 28)) gb g6 w1.heap.size i j p A1 A2 c1 c2 ∧ Both (w1.alloc (.cells #[.int .i64 p.f0, .int .i64 p.f1, .slice A1 p.f2.length c1] 28)) w0.heap.size N M R v lv cv ps cs D m ∧ Free (w1.alloc (.cells #[.int .i64 p.f0, .int .i64 p.f1, .slice A1 p.f2.length c1] 28)) w0.heap.size gb v ps ∧ RefFree (w1.alloc (.cells #[.int .i64 p.f0, .int .i64 p.f1, .slice A1 p.f2.length c1] 28)) w0.heap.size gb lv ps ∧ (∀ g, v.ownBlock = some g → g ≠ w1.heap.size) ∧ (∀ g, lv.ownBlock = some g → g ≠ w1.heap.size) := by
  have ha := alloc_below w1 (.cells #[.int .i64 p.f0, .int .i64 p.f1, .slice A1 p.f2.length c1] 28)
  have hba := below_step hb1 ha
  obtain ⟨gb, h1, h2, h3⟩ : ∃ gb, w.heap.size ≤ gb ∧ gb < w1.heap.size + 1 ∧ ∀ k, (Value.slice A1 p.f2.length c1).ownBlock = some k → k = gb := by
    cases ho : (Value.slice A1 p.f2.length c1).ownBlock with
    | none => exact ⟨w1.heap.size, hb1.size, Nat.lt_succ_self _, fun k hk => by cases hk⟩
    | some g => exact ⟨g, Kd.R_base hR g ho, Nat.lt_succ_of_lt (Kd.R_lt hR g ho), fun k hk => (Option.some.inj hk).symm⟩
  refine ⟨gb, ⟨blk_below h6 hba, heap_alloc_new w1 _, Kd.R_below (Kd.R_lower (Kd.R_reok rfl hR h3) hb.size) ha, below_step hb hba, by simpa using h2, Nat.le_trans hb.size h1⟩, hB.below hba, (Free.old hB.net h1).below hba, (RefFree.old hB.ref h1).below hba, fun g hg => ?_, fun g hg => ?_⟩
  · have := hB.net.vlt hg
    have := hb1.size
    omega
  · have := hB.ref.lvlt hg
    have := hb1.size
    omega

set_option maxRecDepth 1000000 in
set_option maxHeartbeats 8000000 in
theorem sw_send {w0 w : World} {N M R g6 k c2 : Nat} {i j : Int} {p : S28} {A2 : Option Addr} {v lv cv : Value} {ps : List S28} {cs : List (Int × Int)} {D : DataW Unit} {m : Nat} (hB : Both w w0.heap.size N M R v lv cv ps cs D m) (hm : m ≤ k) (hcs : cs.length ≤ k) (hk : k < 2199023255552)
    (h6 : w.heap[g6]? = some (.cells #[.int .i64 (0), .int .i64 i, .int .i64 j, .int .i64 p.f0, .int .i64 p.f1, .slice A2 p.f2.length c2] 49 (0, 0))) (hC : (Kd.int .u8).C w0 A2 p.f2.length p.f2) (hl2 : p.f2.length ≤ c2) (hp : Fine28 p) (wi : (Lit.int .i64 i).wf = true) (wj : (Lit.int .i64 j).wf = true) (hb : Below w0.heap.size w0 w) (hlt : ps.length < 256)
    {K : Act → World → Prop} {s0 s1 s2 s5 s7 s8 s9 s10 s11 s12 s13 s14 s15 s16 s17 s18 s19 s20 s21 s22 s23 s24 s25 s26 s27 s28 s29 s30 s31 s32 s33 s34 s35 s36 s37 s38 s39 s40 s41 s42 s43 s44 s45 s46 s47 s48 s49 s50 s51 s52 s53 s54 s55 s56 s57 s58 s59 s60 s61 s62 s63 s64 s65 s66 s67 s68 s69 s70 s71 s72 s73 s74 s75 s76 s77 s78 s79 s80 s81 s82 s83 s84 s85 s86 s87 s88 s89 s90 s91 s92 s93 s94 s95 s96 s97 s98 s99 s100 s101 s102 s103 s104 s105 s106 s107 s108 s109 s110 s111 s112 s113 s114 s115 s116 s117 s118 s119 s120 s121 s122 s123 s124 s125 s126 s127 s128 s129 s130 s131 s132 s133 s134 s135 s136 s137 s138 s139 s140 s141 s142 s143 s144 s145 s146 s147 s148 s149 s150 s151 s152 s153 s154 s155 s156 s157 s158 s159 s160 s161 s162 s163 s164 s165 s166 s167 s168 s169 s170 s171 s172 s173 s174 s175 s176 s177 s178 s179 s180 : Value}
    (hK : ∀ (u7 u8 u9 u10 u11 u12 u32 u33 u34 u35 u36 u37 u38 u39 u40 u41 u42 u43 u44 u45 u46 u47 u48 u49 u50 u51 u52 u53 u54 u55 u56 u57 u58 u59 u60 u61 u62 u63 u64 u65 u66 u67 u68 u69 u70 u71 u72 u73 u74 u75 u76 u77 u78 u79 u80 u81 u82 u83 u84 u85 u86 u87 u88 u89 u90 u91 u92 u93 u94 u95 u96 u97 u98 u99 u100 u101 u102 u103 u104 u105 u106 u107 u108 u109 u110 u111 u112 u113 u114 u115 u116 u117 u118 u119 u120 u121 u122 u123 u124 u125 u126 u127 u128 u129 u130 u131 : Value) (W : World), After w0 N M R (k + 1) W → K ⟨#[s0, s1, s2, .pointer (some ⟨N, 0, none⟩), .pointer (some ⟨R, 0, none⟩), s5, .pointer (some ⟨g6, 0, none⟩), u7, u8, u9, u10, u11, u12, s13, s14, s15, s16, s17, s18, s19, s20, s21, s22, s23, s24, s25, s26, s27, s28, s29, s30, s31, u32, u33, u34, u35, u36, u37, u38, u39, u40, u41, u42, u43, u44, u45, u46, u47, u48, u49, u50, u51, u52, u53, u54, u55, u56, u57, u58, u59, u60, u61, u62, u63, u64, u65, u66, u67, u68, u69, u70, u71, u72, u73, u74, u75, u76, u77, u78, u79, u80, u81, u82, u83, u84, u85, u86, u87, u88, u89, u90, u91, u92, u93, u94, u95, u96, u97, u98, u99, u100, u101, u102, u103, u104, u105, u106, u107, u108, u109, u110, u111, u112, u113, u114, u115, u116, u117, u118, u119, u120, u121, u122, u123, u124, u125, u126, u127, u128, u129, u130, u131, s132, s133, s134, s135, s136, s137, s138, s139, s140, s141, s142, s143, s144, s145, s146, s147, s148, s149, s150, s151, s152, s153, s154, s155, s156, s157, s158, s159, s160, s161, s162, s163, s164, s165, s166, s167, s168, s169, s170, s171, s172, s173, s174, s175, s176, s177, s178, s179, s180], []⟩ W) :
    Code.wp Try.prog sw7 (Exit.then K (fun _ _ _ => False)) ⟨#[s0, s1, s2, .pointer (some ⟨N, 0, none⟩), .pointer (some ⟨R, 0, none⟩), s5, .pointer (some ⟨g6, 0, none⟩), s7, s8, s9, s10, s11, s12, s13, s14, s15, s16, s17, s18, s19, s20, s21, s22, s23, s24, s25, s26, s27, s28, s29, s30, s31, s32, s33, s34, s35, s36, s37, s38, s39, s40, s41, s42, s43, s44, s45, s46, s47, s48, s49, s50, s51, s52, s53, s54, s55, s56, s57, s58, s59, s60, s61, s62, s63, s64, s65, s66, s67, s68, s69, s70, s71, s72, s73, s74, s75, s76, s77, s78, s79, s80, s81, s82, s83, s84, s85, s86, s87, s88, s89, s90, s91, s92, s93, s94, s95, s96, s97, s98, s99, s100, s101, s102, s103, s104, s105, s106, s107, s108, s109, s110, s111, s112, s113, s114, s115, s116, s117, s118, s119, s120, s121, s122, s123, s124, s125, s126, s127, s128, s129, s130, s131, s132, s133, s134, s135, s136, s137, s138, s139, s140, s141, s142, s143, s144, s145, s146, s147, s148, s149, s150, s151, s152, s153, s154, s155, s156, s157, s158, s159, s160, s161, s162, s163, s164, s165, s166, s167, s168, s169, s170, s171, s172, s173, s174, s175, s176, s177, s178, s179, s180], []⟩ w := by
  have HX := Lib.hid (And.intro hB (And.intro hm (And.intro hb (And.intro hcs (And.intro hk h6)))))
  have HO := Lib.hid (And.intro hC (And.intro hl2 (And.intro hp hlt)))
  have q6 := blk_cell h6
  clear hB hm hb hcs hk h6 hC hl2 hp wi wj hlt
  have hwl : wl7 = wl7 := rfl
  conv at hwl => lhs; whnf
  conv => arg 2; whnf
  obtain ⟨wl, hw⟩ : ∃ c, c = wl7 := ⟨_, rfl⟩
  rw [← hw] at hwl
  rw [hwl]
  clear hwl
  go_wp2_with (first
    | (go_at_call 12; refine (own12 p.f0 p.f1 A2 c2 p.f2 _ (Kd.C_below HO.out.1 HX.out.2.2.1) HO.out.2.1 HO.out.2.2.1.2.2).mono ?_; rintro e w1 ⟨v1, rfl, hR, hb1⟩; obtain ⟨A1, c1, rfl⟩ := Kd.R_slice hR; have HS := Lib.hid (send_start HX.out.1 HX.out.2.2.2.2.2 HX.out.2.2.1 hR hb1); clear hR hb1)
    | go_in)
  clear q6
  obtain ⟨gb, hsd0, hBo0, hfr0, hrf0, hg7⟩ := HS.out
  have hdr := (Below.refl (w1.alloc (.cells #[.int .i64 p.f0, .int .i64 p.f1, .slice A1 p.f2.length c1] 28)).heap.size (w1.alloc (.cells #[.int .i64 p.f0, .int .i64 p.f1, .slice A1 p.f2.length c1] 28))).drew
  have q6 := blk_cell hsd0.h6
  have q7 := blk_cell hsd0.h7
  have hsd := hsd0.later hdr
  have q6d := blk_cell hsd.h6
  have q7d := blk_cell hsd.h7
  have H0 := Lib.hid (And.intro hsd (And.intro (hBo0.below hdr) (And.intro (hfr0.below hdr) (hrf0.below hdr))))
  have HG7 := Lib.hid hg7
  clear hsd hsd0 hBo0 hfr0 hrf0 hdr hg7 HS
  go_region_law (first
    | (go_simp; refine (send_free H0.out.2.1.net gb H0.out.1.lt H0.out.2.2.1 HO.out.2.2.2 p.f0 p.f1 A1 c1 p.f2 (Kd.R_reads' H0.out.1.body).2.2 (Kd.R_reads' H0.out.1.body).2.1 (Nat.le_of_lt HO.out.2.2.1.2.2)).mono ?_; rintro e w2 ⟨rfl, v2, hN, hM, hS, hF⟩; have hr := H0.out.2.1.refS hM hS; have hrf := H0.out.2.1.refFreeS H0.out.2.2.2 hM; have hsd := H0.out.1.moved hM H0.out.2.1.net.cell (by decide) (by decide) (by decide) (fun g hg => ⟨HG7.out.1 g hg, (H0.out.2.1.net.typed hg).2⟩); have q62 := blk_cell hsd.h6; have q72 := blk_cell hsd.h7; have H1 := Lib.hid (And.intro hsd (And.intro hN (And.intro hr (And.intro hF hrf)))); clear hN hM hS hF hr hrf hsd)
    | (go_simp; refine (own12 p.f0 p.f1 A2 c2 p.f2 _ (Kd.C_below HO.out.1 H1.out.1.below) HO.out.2.1 HO.out.2.2.1.2.2).mono ?_; rintro e w3 ⟨v3, rfl, hR, hb3⟩; obtain ⟨A3, c3, rfl⟩ := Kd.R_slice hR; have hsd := H1.out.1.later hb3; have q63 := blk_cell hsd.h6; have q73 := blk_cell hsd.h7; have H2 := Lib.hid (And.intro hsd (And.intro (H1.out.2.1.below hb3) (And.intro (H1.out.2.2.1.1.below hb3) (And.intro (H1.out.2.2.2.1.below hb3) (And.intro (H1.out.2.2.2.2.below hb3) (body_young hR H1.out.1.base_le H1.out.1.lt)))))); clear hR hb3 hsd)
    | (go_simp; refine (ref_send_free H2.out.2.2.1 gb H2.out.2.2.2.2.1 HO.out.2.2.2 p A3 c3 H2.out.2.2.2.2.2).mono ?_; rintro e w4 ⟨rfl, lv4, hr4, hM, hS, hF⟩; have hsd := H2.out.1.moved hM H2.out.2.2.1.cell (by decide) (by decide) (by decide) (fun g hg => ⟨HG7.out.2 g hg, H2.out.2.2.1.lv_typed hg⟩); have q64 := blk_cell hsd.h6; have q74 := blk_cell hsd.h7; have H3 := Lib.hid (And.intro hsd (And.intro (H0.out.2.1.sent HO.out.2.2.2 HO.out.2.2.1 H2.out.2.1 H2.out.2.2.1 H1.out.2.2.1.2 hr4 hM hS) (And.intro (netFreeS H2.out.2.2.2.1 H2.out.2.2.1 H1.out.2.2.1.2 hM) hF))); clear hr4 hM hS hF hsd)
    | (go_simp; refine (same15 p.f0 p.f1 A1 c1 A2 c2 p.f2 _ (Kd.R_reads' H3.out.1.body).2.2 (Kd.R_reads' H3.out.1.body).2.1 (Kd.C_below HO.out.1 H3.out.1.below) HO.out.2.1 HO.out.2.2.1.2.2).mono ?_; rintro e w5 ⟨rfl, hb5⟩; have H4 := Lib.hid (And.intro (H3.out.1.later hb5) (And.intro (H3.out.2.1.below hb5) (And.intro (H3.out.2.2.1.below hb5) (H3.out.2.2.2.below hb5)))); clear hb5))
  all_goals
    go_wp2
    subst hw
    refine wl_run H4.out.2.1 H4.out.2.2.1 H4.out.2.2.2 H4.out.1.h7 rfl HO.out.2.2.1.2.2 H4.out.1.body H4.out.1.below H4.out.1.ge ?_
    intro u8 u60 u61 u62 u63 u64 u65 u66 u67 u68 u69 u70 W hBW hbW
    exact hK _ _ _ _ _ _ _ _ _ _ _ _ _ _ _ _ _ _ _ _ _ _ _ _ _ _ _ _ _ _ _ _ _ _ _ _ _ _ _ _ _ _ _ _ _ _ _ _ _ _ _ _ _ _ _ _ _ _ _ _ _ _ _ _ _ _ _ _ _ _ _ _ _ _ _ _ _ _ _ _ _ _ _ _ _ _ _ _ _ _ _ _ _ _ _ _ _ _ _ _ _ _ _ _ _ _ W ⟨_, _, _, _, _, _, _, hBW, Nat.le_succ_of_le HX.out.2.1, Nat.le_succ_of_le HX.out.2.2.2.1, hbW⟩

set_option maxRecDepth 1000000 in
set_option maxHeartbeats 8000000 in
theorem sw_send_full {w0 w : World} {N M R g6 k c2 : Nat} {i j : Int} {p : S28} {A2 : Option Addr} {v lv cv : Value} {ps : List S28} {cs : List (Int × Int)} {D : DataW Unit} {m : Nat} (hB : Both w w0.heap.size N M R v lv cv ps cs D m) (hm : m ≤ k) (hcs : cs.length ≤ k) (hk : k < 2199023255552)
    (h6 : w.heap[g6]? = some (.cells #[.int .i64 (0), .int .i64 i, .int .i64 j, .int .i64 p.f0, .int .i64 p.f1, .slice A2 p.f2.length c2] 49 (0, 0))) (hC : (Kd.int .u8).C w0 A2 p.f2.length p.f2) (hl2 : p.f2.length ≤ c2) (hp : Fine28 p) (wi : (Lit.int .i64 i).wf = true) (wj : (Lit.int .i64 j).wf = true) (hb : Below w0.heap.size w0 w) (hlt : ps.length = 256)
    {K : Act → World → Prop} {s0 s1 s2 s5 s7 s8 s9 s10 s11 s12 s13 s14 s15 s16 s17 s18 s19 s20 s21 s22 s23 s24 s25 s26 s27 s28 s29 s30 s31 s32 s33 s34 s35 s36 s37 s38 s39 s40 s41 s42 s43 s44 s45 s46 s47 s48 s49 s50 s51 s52 s53 s54 s55 s56 s57 s58 s59 s60 s61 s62 s63 s64 s65 s66 s67 s68 s69 s70 s71 s72 s73 s74 s75 s76 s77 s78 s79 s80 s81 s82 s83 s84 s85 s86 s87 s88 s89 s90 s91 s92 s93 s94 s95 s96 s97 s98 s99 s100 s101 s102 s103 s104 s105 s106 s107 s108 s109 s110 s111 s112 s113 s114 s115 s116 s117 s118 s119 s120 s121 s122 s123 s124 s125 s126 s127 s128 s129 s130 s131 s132 s133 s134 s135 s136 s137 s138 s139 s140 s141 s142 s143 s144 s145 s146 s147 s148 s149 s150 s151 s152 s153 s154 s155 s156 s157 s158 s159 s160 s161 s162 s163 s164 s165 s166 s167 s168 s169 s170 s171 s172 s173 s174 s175 s176 s177 s178 s179 s180 : Value}
    (hK : ∀ (u7 u8 u9 u10 u11 u12 u32 u33 u34 u35 u36 u37 u38 u39 u40 u41 u42 u43 u44 u45 u46 u47 u48 u49 u50 u51 u52 u53 u54 u55 u56 u57 u58 u59 u60 u61 u62 u63 u64 u65 u66 u67 u68 u69 u70 u71 u72 u73 u74 u75 u76 u77 u78 u79 u80 u81 u82 u83 u84 u85 u86 u87 u88 u89 u90 u91 u92 u93 u94 u95 u96 u97 u98 u99 u100 u101 u102 u103 u104 u105 u106 u107 u108 u109 u110 u111 u112 u113 u114 u115 u116 u117 u118 u119 u120 u121 u122 u123 u124 u125 u126 u127 u128 u129 u130 u131 : Value) (W : World), After w0 N M R (k + 1) W → K ⟨#[s0, s1, s2, .pointer (some ⟨N, 0, none⟩), .pointer (some ⟨R, 0, none⟩), s5, .pointer (some ⟨g6, 0, none⟩), u7, u8, u9, u10, u11, u12, s13, s14, s15, s16, s17, s18, s19, s20, s21, s22, s23, s24, s25, s26, s27, s28, s29, s30, s31, u32, u33, u34, u35, u36, u37, u38, u39, u40, u41, u42, u43, u44, u45, u46, u47, u48, u49, u50, u51, u52, u53, u54, u55, u56, u57, u58, u59, u60, u61, u62, u63, u64, u65, u66, u67, u68, u69, u70, u71, u72, u73, u74, u75, u76, u77, u78, u79, u80, u81, u82, u83, u84, u85, u86, u87, u88, u89, u90, u91, u92, u93, u94, u95, u96, u97, u98, u99, u100, u101, u102, u103, u104, u105, u106, u107, u108, u109, u110, u111, u112, u113, u114, u115, u116, u117, u118, u119, u120, u121, u122, u123, u124, u125, u126, u127, u128, u129, u130, u131, s132, s133, s134, s135, s136, s137, s138, s139, s140, s141, s142, s143, s144, s145, s146, s147, s148, s149, s150, s151, s152, s153, s154, s155, s156, s157, s158, s159, s160, s161, s162, s163, s164, s165, s166, s167, s168, s169, s170, s171, s172, s173, s174, s175, s176, s177, s178, s179, s180], []⟩ W) :
    Code.wp Try.prog sw7 (Exit.then K (fun _ _ _ => False)) ⟨#[s0, s1, s2, .pointer (some ⟨N, 0, none⟩), .pointer (some ⟨R, 0, none⟩), s5, .pointer (some ⟨g6, 0, none⟩), s7, s8, s9, s10, s11, s12, s13, s14, s15, s16, s17, s18, s19, s20, s21, s22, s23, s24, s25, s26, s27, s28, s29, s30, s31, s32, s33, s34, s35, s36, s37, s38, s39, s40, s41, s42, s43, s44, s45, s46, s47, s48, s49, s50, s51, s52, s53, s54, s55, s56, s57, s58, s59, s60, s61, s62, s63, s64, s65, s66, s67, s68, s69, s70, s71, s72, s73, s74, s75, s76, s77, s78, s79, s80, s81, s82, s83, s84, s85, s86, s87, s88, s89, s90, s91, s92, s93, s94, s95, s96, s97, s98, s99, s100, s101, s102, s103, s104, s105, s106, s107, s108, s109, s110, s111, s112, s113, s114, s115, s116, s117, s118, s119, s120, s121, s122, s123, s124, s125, s126, s127, s128, s129, s130, s131, s132, s133, s134, s135, s136, s137, s138, s139, s140, s141, s142, s143, s144, s145, s146, s147, s148, s149, s150, s151, s152, s153, s154, s155, s156, s157, s158, s159, s160, s161, s162, s163, s164, s165, s166, s167, s168, s169, s170, s171, s172, s173, s174, s175, s176, s177, s178, s179, s180], []⟩ w := by
  have HX := Lib.hid (And.intro hB (And.intro hm (And.intro hb (And.intro hcs (And.intro hk h6)))))
  have HO := Lib.hid (And.intro hC (And.intro hl2 (And.intro hp hlt)))
  have q6 := blk_cell h6
  clear hB hm hb hcs hk h6 hC hl2 hp wi wj hlt
  have hwl : wl7 = wl7 := rfl
  conv at hwl => lhs; whnf
  conv => arg 2; whnf
  obtain ⟨wl, hw⟩ : ∃ c, c = wl7 := ⟨_, rfl⟩
  rw [← hw] at hwl
  rw [hwl]
  clear hwl
  go_wp2_with (first
    | (go_at_call 12; refine (own12 p.f0 p.f1 A2 c2 p.f2 _ (Kd.C_below HO.out.1 HX.out.2.2.1) HO.out.2.1 HO.out.2.2.1.2.2).mono ?_; rintro e w1 ⟨v1, rfl, hR, hb1⟩; obtain ⟨A1, c1, rfl⟩ := Kd.R_slice hR; have HS := Lib.hid (send_start HX.out.1 HX.out.2.2.2.2.2 HX.out.2.2.1 hR hb1); clear hR hb1)
    | go_in)
  clear q6
  obtain ⟨gb, hsd0, hBo0, hfr0, hrf0, hg7⟩ := HS.out
  have hdr := (Below.refl (w1.alloc (.cells #[.int .i64 p.f0, .int .i64 p.f1, .slice A1 p.f2.length c1] 28)).heap.size (w1.alloc (.cells #[.int .i64 p.f0, .int .i64 p.f1, .slice A1 p.f2.length c1] 28))).drew
  have q6 := blk_cell hsd0.h6
  have q7 := blk_cell hsd0.h7
  have hsd := hsd0.later hdr
  have q6d := blk_cell hsd.h6
  have q7d := blk_cell hsd.h7
  have H0 := Lib.hid (And.intro hsd (And.intro (hBo0.below hdr) (And.intro (hfr0.below hdr) (hrf0.below hdr))))
  have HG7 := Lib.hid hg7
  clear hsd hsd0 hBo0 hfr0 hrf0 hdr hg7 HS
  go_region_law (first
    | (go_simp; refine (send_full H0.out.2.1.net (Nat.le_of_eq HO.out.2.2.2.symm) p.f0 p.f1 A1 p.f2.length c1).mono ?_; rintro e w2 ⟨rfl, hb2⟩; have hsd := H0.out.1.later hb2; have q62 := blk_cell hsd.h6; have q72 := blk_cell hsd.h7; have H1 := Lib.hid (And.intro hsd (And.intro (H0.out.2.1.below hb2) (And.intro (H0.out.2.2.1.below hb2) (H0.out.2.2.2.below hb2)))); clear hsd hb2)
    | (go_simp; refine (own12 p.f0 p.f1 A2 c2 p.f2 _ (Kd.C_below HO.out.1 H1.out.1.below) HO.out.2.1 HO.out.2.2.1.2.2).mono ?_; rintro e w3 ⟨v3, rfl, hR, hb3⟩; obtain ⟨A3, c3, rfl⟩ := Kd.R_slice hR; have hsd := H1.out.1.later hb3; have q63 := blk_cell hsd.h6; have q73 := blk_cell hsd.h7; have H2 := Lib.hid (And.intro hsd (And.intro (H1.out.2.1.below hb3) (And.intro (H1.out.2.2.1.below hb3) (H1.out.2.2.2.below hb3)))); clear hR hb3 hsd)
    | (go_simp; refine (ref_send_full H2.out.2.1.ref (Nat.le_of_eq HO.out.2.2.2.symm) p.f0 p.f1 A3 p.f2.length c3).mono ?_; rintro e w4 ⟨rfl, hb4⟩; have hsd := H2.out.1.later hb4; have q64 := blk_cell hsd.h6; have q74 := blk_cell hsd.h7; have H3 := Lib.hid (And.intro hsd (And.intro (H2.out.2.1.below hb4) (And.intro (H2.out.2.2.1.below hb4) (H2.out.2.2.2.below hb4)))); clear hb4 hsd)
    | (go_simp; refine (same15 p.f0 p.f1 A1 c1 A2 c2 p.f2 _ (Kd.R_reads' H3.out.1.body).2.2 (Kd.R_reads' H3.out.1.body).2.1 (Kd.C_below HO.out.1 H3.out.1.below) HO.out.2.1 HO.out.2.2.1.2.2).mono ?_; rintro e w5 ⟨rfl, hb5⟩; have H4 := Lib.hid (And.intro (H3.out.1.later hb5) (And.intro (H3.out.2.1.below hb5) (And.intro (H3.out.2.2.1.below hb5) (H3.out.2.2.2.below hb5)))); clear hb5))
  all_goals
    go_wp2
    subst hw
    refine wl_run H4.out.2.1 H4.out.2.2.1 H4.out.2.2.2 H4.out.1.h7 rfl HO.out.2.2.1.2.2 H4.out.1.body H4.out.1.below H4.out.1.ge ?_
    intro u8 u60 u61 u62 u63 u64 u65 u66 u67 u68 u69 u70 W hBW hbW
    exact hK _ _ _ _ _ _ _ _ _ _ _ _ _ _ _ _ _ _ _ _ _ _ _ _ _ _ _ _ _ _ _ _ _ _ _ _ _ _ _ _ _ _ _ _ _ _ _ _ _ _ _ _ _ _ _ _ _ _ _ _ _ _ _ _ _ _ _ _ _ _ _ _ _ _ _ _ _ _ _ _ _ _ _ _ _ _ _ _ _ _ _ _ _ _ _ _ _ _ _ _ _ _ _ _ _ _ W ⟨_, _, _, _, _, _, _, hBW, Nat.le_succ_of_le HX.out.2.1, Nat.le_succ_of_le HX.out.2.2.2.1, hbW⟩

end Go.Proofs.Ytalaghkpbdaonaa

/- NetPlays: the steps Drop and Copy. No conditions. -/
import Derived.Test.YtalaghkpbdaonaaPlBD
import Derived.Test.YtalaghkpbdaonaaNetP
import Derived.Test.YtalaghkpbdaonaaNetU
import Derived.Test.YtalaghkpbdaonaaOrder
namespace Go.Proofs.Ytalaghkpbdaonaa
open Go Go.RowKit H Go.Proofs.YtalaghkpbdaonaaW.PrintWords Strict

theorem NetIn.v_ne {w : World} {base N M g : Nat} {v : Value} {ps : List S28} {D : DataW Unit} {m : Nat} {cells : Array Value} {t : TypeId} {fr : Nat × Nat} (h : NetIn w base N M v ps D m) (hg : w.heap[g]? = some (.cells cells t fr)) (ht : t ≠ 28) : some g ≠ v.ownBlock := fun e => by
  obtain ⟨_, cells', hc⟩ := h.typed e.symm
  exact ty_ne hg hc ht rfl

set_option maxRecDepth 100000 in
set_option maxHeartbeats 4000000 in
theorem copy_stays {w : World} {base N M : Nat} {v : Value} {ps : List S28} {D : DataW Unit} {m : Nat} (h : NetIn w base N M v ps D m) (i : Int) (k : Nat) (hk : k < ps.length) (hi : atF ps.length i = k) (hmax : ps.length < 256) (hsz : (ps.getD k z28).f2.length ≤ 140737488355328) :
    Calls Try.prog 20 #[.pointer (some ⟨N, 0, none⟩), .int .i64 i] w fun e w' => e = .returned (.bool true) ∧ ∃ v', NetIn w' base N M v' (ps ++ [ps.getD k z28]) D m ∧ NetMoved w w' base N v ∧ Stays w v v' := by
  have HA := Lib.hid h
  obtain ⟨cs, g, c, cur, A2, c2, rfl, hge, hgh, hnc, hcm, hsz2, hcs, hrep, hR, x0, x1, x2⟩ := h.elem k hk
  have q := blk_cell h.cell
  have hd1 : (k : Int) < ps.length := by omega
  generalize ps.getD k z28 = x at *
  have hRR := Kd.R_reads' hR
  have HI := Lib.hid (And.intro hi (And.intro hmax (And.intro hRR.2 hsz)))
  have hneg : ¬ (k : Int) < 0 := by omega
  have hpos : (0 : Int) ≤ (k : Int) := by omega
  clear h hi hmax hrep hR hgh hge hcs hsz2 hcm hRR hsz
  go_enter Try.func20, Try.ntmps20
  go_wp2_with (first
    | (go_at_call 27; refine (at_calls HA.out (Nat.le_of_lt HI.out.2.1) i).mono ?_; rintro e w1 ⟨rfl, rfl⟩; rw [HI.out.1])
    | (go_at_call 11; refine (send_stays HA.out HI.out.2.1 x.f0 x.f1 A2 c2 x.f2 HI.out.2.2.1.2 HI.out.2.2.1.1 HI.out.2.2.2).mono ?_; rintro e w2 ⟨rfl, v2, hN⟩; have HE := Lib.hid hN; clear hN)
    | go_in)
  go_ret
  exact ⟨rfl, _, HE.out⟩

set_option maxRecDepth 1000000 in
set_option maxHeartbeats 8000000 in
theorem sw_drop_none {w0 w : World} {N M R g6 k c2 : Nat} {i j : Int} {p : S28} {A2 : Option Addr} {v lv cv : Value} {ps : List S28} {cs : List (Int × Int)} {D : DataW Unit} {m : Nat} (hB : Both w w0.heap.size N M R v lv cv ps cs D m) (hm : m ≤ k) (hcs : cs.length ≤ k) (hk : k < 2199023255552)
    (h6 : w.heap[g6]? = some (.cells #[.int .i64 (2), .int .i64 i, .int .i64 j, .int .i64 p.f0, .int .i64 p.f1, .slice A2 p.f2.length c2] 49 (0, 0))) (hC : (Kd.int .u8).C w0 A2 p.f2.length p.f2) (hl2 : p.f2.length ≤ c2) (hp : Fine28 p) (wi : (Lit.int .i64 i).wf = true) (wj : (Lit.int .i64 j).wf = true) (hb : Below w0.heap.size w0 w) (he : ps = [])
    {K : Act → World → Prop} {s0 s1 s2 s5 s7 s8 s9 s10 s11 s12 s13 s14 s15 s16 s17 s18 s19 s20 s21 s22 s23 s24 s25 s26 s27 s28 s29 s30 s31 s32 s33 s34 s35 s36 s37 s38 s39 s40 s41 s42 s43 s44 s45 s46 s47 s48 s49 s50 s51 s52 s53 s54 s55 s56 s57 s58 s59 s60 s61 s62 s63 s64 s65 s66 s67 s68 s69 s70 s71 s72 s73 s74 s75 s76 s77 s78 s79 s80 s81 s82 s83 s84 s85 s86 s87 s88 s89 s90 s91 s92 s93 s94 s95 s96 s97 s98 s99 s100 s101 s102 s103 s104 s105 s106 s107 s108 s109 s110 s111 s112 s113 s114 s115 s116 s117 s118 s119 s120 s121 s122 s123 s124 s125 s126 s127 s128 s129 s130 s131 s132 s133 s134 s135 s136 s137 s138 s139 s140 s141 s142 s143 s144 s145 s146 s147 s148 s149 s150 s151 s152 s153 s154 s155 s156 s157 s158 s159 s160 s161 s162 s163 s164 s165 s166 s167 s168 s169 s170 s171 s172 s173 s174 s175 s176 s177 s178 s179 s180 : Value}
    (hK : ∀ (u7 u8 u9 u10 u11 u12 u32 u33 u34 u35 u36 u37 u38 u39 u40 u41 u42 u43 u44 u45 u46 u47 u48 u49 u50 u51 u52 u53 u54 u55 u56 u57 u58 u59 u60 u61 u62 u63 u64 u65 u66 u67 u68 u69 u70 u71 u72 u73 u74 u75 u76 u77 u78 u79 u80 u81 u82 u83 u84 u85 u86 u87 u88 u89 u90 u91 u92 u93 u94 u95 u96 u97 u98 u99 u100 u101 u102 u103 u104 u105 u106 u107 u108 u109 u110 u111 u112 u113 u114 u115 u116 u117 u118 u119 u120 u121 u122 u123 u124 u125 u126 u127 u128 u129 u130 u131 : Value) (W : World), After w0 N M R (k + 1) W → K ⟨#[s0, s1, s2, .pointer (some ⟨N, 0, none⟩), .pointer (some ⟨R, 0, none⟩), s5, .pointer (some ⟨g6, 0, none⟩), u7, u8, u9, u10, u11, u12, s13, s14, s15, s16, s17, s18, s19, s20, s21, s22, s23, s24, s25, s26, s27, s28, s29, s30, s31, u32, u33, u34, u35, u36, u37, u38, u39, u40, u41, u42, u43, u44, u45, u46, u47, u48, u49, u50, u51, u52, u53, u54, u55, u56, u57, u58, u59, u60, u61, u62, u63, u64, u65, u66, u67, u68, u69, u70, u71, u72, u73, u74, u75, u76, u77, u78, u79, u80, u81, u82, u83, u84, u85, u86, u87, u88, u89, u90, u91, u92, u93, u94, u95, u96, u97, u98, u99, u100, u101, u102, u103, u104, u105, u106, u107, u108, u109, u110, u111, u112, u113, u114, u115, u116, u117, u118, u119, u120, u121, u122, u123, u124, u125, u126, u127, u128, u129, u130, u131, s132, s133, s134, s135, s136, s137, s138, s139, s140, s141, s142, s143, s144, s145, s146, s147, s148, s149, s150, s151, s152, s153, s154, s155, s156, s157, s158, s159, s160, s161, s162, s163, s164, s165, s166, s167, s168, s169, s170, s171, s172, s173, s174, s175, s176, s177, s178, s179, s180], []⟩ W) :
    Code.wp Try.prog sw7 (Exit.then K (fun _ _ _ => False)) ⟨#[s0, s1, s2, .pointer (some ⟨N, 0, none⟩), .pointer (some ⟨R, 0, none⟩), s5, .pointer (some ⟨g6, 0, none⟩), s7, s8, s9, s10, s11, s12, s13, s14, s15, s16, s17, s18, s19, s20, s21, s22, s23, s24, s25, s26, s27, s28, s29, s30, s31, s32, s33, s34, s35, s36, s37, s38, s39, s40, s41, s42, s43, s44, s45, s46, s47, s48, s49, s50, s51, s52, s53, s54, s55, s56, s57, s58, s59, s60, s61, s62, s63, s64, s65, s66, s67, s68, s69, s70, s71, s72, s73, s74, s75, s76, s77, s78, s79, s80, s81, s82, s83, s84, s85, s86, s87, s88, s89, s90, s91, s92, s93, s94, s95, s96, s97, s98, s99, s100, s101, s102, s103, s104, s105, s106, s107, s108, s109, s110, s111, s112, s113, s114, s115, s116, s117, s118, s119, s120, s121, s122, s123, s124, s125, s126, s127, s128, s129, s130, s131, s132, s133, s134, s135, s136, s137, s138, s139, s140, s141, s142, s143, s144, s145, s146, s147, s148, s149, s150, s151, s152, s153, s154, s155, s156, s157, s158, s159, s160, s161, s162, s163, s164, s165, s166, s167, s168, s169, s170, s171, s172, s173, s174, s175, s176, s177, s178, s179, s180], []⟩ w := by
  subst he
  have hBd := hB.below ((Below.refl w.heap.size w).drew)
  have hbd := hb.drew
  have h6d := blk_drew h6
  have HX := Lib.hid (And.intro hBd (And.intro hm (And.intro hbd (And.intro hcs (And.intro hk h6d)))))
  have q6 := blk_cell h6
  have q6d := blk_cell h6d
  clear hB hBd hm hb hbd hcs hk h6 h6d hC hl2 hp wi wj
  conv => arg 2; whnf
  go_wp2
  go_region_law (first
    | (go_simp; refine (drop_none HX.out.1.net i).mono ?_; rintro e w1 ⟨rfl, rfl⟩)
    | (go_simp; refine (ref_drop_none HX.out.1.ref i).mono ?_; rintro e w1 ⟨rfl, rfl⟩))
  all_goals
    go_wp2
    exact ⟨_, _, _, _, _, _, _, HX.out.1, Nat.le_succ_of_le HX.out.2.1, Nat.le_succ_of_le HX.out.2.2.2.1, HX.out.2.2.1⟩

set_option maxRecDepth 1000000 in
set_option maxHeartbeats 8000000 in
theorem sw_copy_none {w0 w : World} {N M R g6 k c2 : Nat} {i j : Int} {p : S28} {A2 : Option Addr} {v lv cv : Value} {ps : List S28} {cs : List (Int × Int)} {D : DataW Unit} {m : Nat} (hB : Both w w0.heap.size N M R v lv cv ps cs D m) (hm : m ≤ k) (hcs : cs.length ≤ k) (hk : k < 2199023255552)
    (h6 : w.heap[g6]? = some (.cells #[.int .i64 (3), .int .i64 i, .int .i64 j, .int .i64 p.f0, .int .i64 p.f1, .slice A2 p.f2.length c2] 49 (0, 0))) (hC : (Kd.int .u8).C w0 A2 p.f2.length p.f2) (hl2 : p.f2.length ≤ c2) (hp : Fine28 p) (wi : (Lit.int .i64 i).wf = true) (wj : (Lit.int .i64 j).wf = true) (hb : Below w0.heap.size w0 w) (he : ps = [])
    {K : Act → World → Prop} {s0 s1 s2 s5 s7 s8 s9 s10 s11 s12 s13 s14 s15 s16 s17 s18 s19 s20 s21 s22 s23 s24 s25 s26 s27 s28 s29 s30 s31 s32 s33 s34 s35 s36 s37 s38 s39 s40 s41 s42 s43 s44 s45 s46 s47 s48 s49 s50 s51 s52 s53 s54 s55 s56 s57 s58 s59 s60 s61 s62 s63 s64 s65 s66 s67 s68 s69 s70 s71 s72 s73 s74 s75 s76 s77 s78 s79 s80 s81 s82 s83 s84 s85 s86 s87 s88 s89 s90 s91 s92 s93 s94 s95 s96 s97 s98 s99 s100 s101 s102 s103 s104 s105 s106 s107 s108 s109 s110 s111 s112 s113 s114 s115 s116 s117 s118 s119 s120 s121 s122 s123 s124 s125 s126 s127 s128 s129 s130 s131 s132 s133 s134 s135 s136 s137 s138 s139 s140 s141 s142 s143 s144 s145 s146 s147 s148 s149 s150 s151 s152 s153 s154 s155 s156 s157 s158 s159 s160 s161 s162 s163 s164 s165 s166 s167 s168 s169 s170 s171 s172 s173 s174 s175 s176 s177 s178 s179 s180 : Value}
    (hK : ∀ (u7 u8 u9 u10 u11 u12 u32 u33 u34 u35 u36 u37 u38 u39 u40 u41 u42 u43 u44 u45 u46 u47 u48 u49 u50 u51 u52 u53 u54 u55 u56 u57 u58 u59 u60 u61 u62 u63 u64 u65 u66 u67 u68 u69 u70 u71 u72 u73 u74 u75 u76 u77 u78 u79 u80 u81 u82 u83 u84 u85 u86 u87 u88 u89 u90 u91 u92 u93 u94 u95 u96 u97 u98 u99 u100 u101 u102 u103 u104 u105 u106 u107 u108 u109 u110 u111 u112 u113 u114 u115 u116 u117 u118 u119 u120 u121 u122 u123 u124 u125 u126 u127 u128 u129 u130 u131 : Value) (W : World), After w0 N M R (k + 1) W → K ⟨#[s0, s1, s2, .pointer (some ⟨N, 0, none⟩), .pointer (some ⟨R, 0, none⟩), s5, .pointer (some ⟨g6, 0, none⟩), u7, u8, u9, u10, u11, u12, s13, s14, s15, s16, s17, s18, s19, s20, s21, s22, s23, s24, s25, s26, s27, s28, s29, s30, s31, u32, u33, u34, u35, u36, u37, u38, u39, u40, u41, u42, u43, u44, u45, u46, u47, u48, u49, u50, u51, u52, u53, u54, u55, u56, u57, u58, u59, u60, u61, u62, u63, u64, u65, u66, u67, u68, u69, u70, u71, u72, u73, u74, u75, u76, u77, u78, u79, u80, u81, u82, u83, u84, u85, u86, u87, u88, u89, u90, u91, u92, u93, u94, u95, u96, u97, u98, u99, u100, u101, u102, u103, u104, u105, u106, u107, u108, u109, u110, u111, u112, u113, u114, u115, u116, u117, u118, u119, u120, u121, u122, u123, u124, u125, u126, u127, u128, u129, u130, u131, s132, s133, s134, s135, s136, s137, s138, s139, s140, s141, s142, s143, s144, s145, s146, s147, s148, s149, s150, s151, s152, s153, s154, s155, s156, s157, s158, s159, s160, s161, s162, s163, s164, s165, s166, s167, s168, s169, s170, s171, s172, s173, s174, s175, s176, s177, s178, s179, s180], []⟩ W) :
    Code.wp Try.prog sw7 (Exit.then K (fun _ _ _ => False)) ⟨#[s0, s1, s2, .pointer (some ⟨N, 0, none⟩), .pointer (some ⟨R, 0, none⟩), s5, .pointer (some ⟨g6, 0, none⟩), s7, s8, s9, s10, s11, s12, s13, s14, s15, s16, s17, s18, s19, s20, s21, s22, s23, s24, s25, s26, s27, s28, s29, s30, s31, s32, s33, s34, s35, s36, s37, s38, s39, s40, s41, s42, s43, s44, s45, s46, s47, s48, s49, s50, s51, s52, s53, s54, s55, s56, s57, s58, s59, s60, s61, s62, s63, s64, s65, s66, s67, s68, s69, s70, s71, s72, s73, s74, s75, s76, s77, s78, s79, s80, s81, s82, s83, s84, s85, s86, s87, s88, s89, s90, s91, s92, s93, s94, s95, s96, s97, s98, s99, s100, s101, s102, s103, s104, s105, s106, s107, s108, s109, s110, s111, s112, s113, s114, s115, s116, s117, s118, s119, s120, s121, s122, s123, s124, s125, s126, s127, s128, s129, s130, s131, s132, s133, s134, s135, s136, s137, s138, s139, s140, s141, s142, s143, s144, s145, s146, s147, s148, s149, s150, s151, s152, s153, s154, s155, s156, s157, s158, s159, s160, s161, s162, s163, s164, s165, s166, s167, s168, s169, s170, s171, s172, s173, s174, s175, s176, s177, s178, s179, s180], []⟩ w := by
  subst he
  have hBd := hB.below ((Below.refl w.heap.size w).drew)
  have hbd := hb.drew
  have h6d := blk_drew h6
  have HX := Lib.hid (And.intro hBd (And.intro hm (And.intro hbd (And.intro hcs (And.intro hk h6d)))))
  have q6 := blk_cell h6
  have q6d := blk_cell h6d
  clear hB hBd hm hb hbd hcs hk h6 h6d hC hl2 hp wi wj
  conv => arg 2; whnf
  go_wp2
  go_region_law (first
    | (go_simp; refine (copy_none HX.out.1.net i).mono ?_; rintro e w1 ⟨rfl, rfl⟩)
    | (go_simp; refine (ref_copy_none HX.out.1.ref i).mono ?_; rintro e w1 ⟨rfl, rfl⟩))
  all_goals
    go_wp2
    exact ⟨_, _, _, _, _, _, _, HX.out.1, Nat.le_succ_of_le HX.out.2.1, Nat.le_succ_of_le HX.out.2.2.2.1, HX.out.2.2.1⟩

set_option maxRecDepth 1000000 in
set_option maxHeartbeats 8000000 in
theorem sw_drop {w0 w : World} {N M R g6 k c2 : Nat} {i j : Int} {p : S28} {A2 : Option Addr} {v lv cv : Value} {ps : List S28} {cs : List (Int × Int)} {D : DataW Unit} {m : Nat} (hB : Both w w0.heap.size N M R v lv cv ps cs D m) (hm : m ≤ k) (hcs : cs.length ≤ k) (hk : k < 2199023255552)
    (h6 : w.heap[g6]? = some (.cells #[.int .i64 (2), .int .i64 i, .int .i64 j, .int .i64 p.f0, .int .i64 p.f1, .slice A2 p.f2.length c2] 49 (0, 0))) (hC : (Kd.int .u8).C w0 A2 p.f2.length p.f2) (hl2 : p.f2.length ≤ c2) (hp : Fine28 p) (wi : (Lit.int .i64 i).wf = true) (wj : (Lit.int .i64 j).wf = true) (hb : Below w0.heap.size w0 w) (kk : Nat) (hkk : kk < ps.length) (hat : atF ps.length i = kk)
    {K : Act → World → Prop} {s0 s1 s2 s5 s7 s8 s9 s10 s11 s12 s13 s14 s15 s16 s17 s18 s19 s20 s21 s22 s23 s24 s25 s26 s27 s28 s29 s30 s31 s32 s33 s34 s35 s36 s37 s38 s39 s40 s41 s42 s43 s44 s45 s46 s47 s48 s49 s50 s51 s52 s53 s54 s55 s56 s57 s58 s59 s60 s61 s62 s63 s64 s65 s66 s67 s68 s69 s70 s71 s72 s73 s74 s75 s76 s77 s78 s79 s80 s81 s82 s83 s84 s85 s86 s87 s88 s89 s90 s91 s92 s93 s94 s95 s96 s97 s98 s99 s100 s101 s102 s103 s104 s105 s106 s107 s108 s109 s110 s111 s112 s113 s114 s115 s116 s117 s118 s119 s120 s121 s122 s123 s124 s125 s126 s127 s128 s129 s130 s131 s132 s133 s134 s135 s136 s137 s138 s139 s140 s141 s142 s143 s144 s145 s146 s147 s148 s149 s150 s151 s152 s153 s154 s155 s156 s157 s158 s159 s160 s161 s162 s163 s164 s165 s166 s167 s168 s169 s170 s171 s172 s173 s174 s175 s176 s177 s178 s179 s180 : Value}
    (hK : ∀ (u7 u8 u9 u10 u11 u12 u32 u33 u34 u35 u36 u37 u38 u39 u40 u41 u42 u43 u44 u45 u46 u47 u48 u49 u50 u51 u52 u53 u54 u55 u56 u57 u58 u59 u60 u61 u62 u63 u64 u65 u66 u67 u68 u69 u70 u71 u72 u73 u74 u75 u76 u77 u78 u79 u80 u81 u82 u83 u84 u85 u86 u87 u88 u89 u90 u91 u92 u93 u94 u95 u96 u97 u98 u99 u100 u101 u102 u103 u104 u105 u106 u107 u108 u109 u110 u111 u112 u113 u114 u115 u116 u117 u118 u119 u120 u121 u122 u123 u124 u125 u126 u127 u128 u129 u130 u131 : Value) (W : World), After w0 N M R (k + 1) W → K ⟨#[s0, s1, s2, .pointer (some ⟨N, 0, none⟩), .pointer (some ⟨R, 0, none⟩), s5, .pointer (some ⟨g6, 0, none⟩), u7, u8, u9, u10, u11, u12, s13, s14, s15, s16, s17, s18, s19, s20, s21, s22, s23, s24, s25, s26, s27, s28, s29, s30, s31, u32, u33, u34, u35, u36, u37, u38, u39, u40, u41, u42, u43, u44, u45, u46, u47, u48, u49, u50, u51, u52, u53, u54, u55, u56, u57, u58, u59, u60, u61, u62, u63, u64, u65, u66, u67, u68, u69, u70, u71, u72, u73, u74, u75, u76, u77, u78, u79, u80, u81, u82, u83, u84, u85, u86, u87, u88, u89, u90, u91, u92, u93, u94, u95, u96, u97, u98, u99, u100, u101, u102, u103, u104, u105, u106, u107, u108, u109, u110, u111, u112, u113, u114, u115, u116, u117, u118, u119, u120, u121, u122, u123, u124, u125, u126, u127, u128, u129, u130, u131, s132, s133, s134, s135, s136, s137, s138, s139, s140, s141, s142, s143, s144, s145, s146, s147, s148, s149, s150, s151, s152, s153, s154, s155, s156, s157, s158, s159, s160, s161, s162, s163, s164, s165, s166, s167, s168, s169, s170, s171, s172, s173, s174, s175, s176, s177, s178, s179, s180], []⟩ W) :
    Code.wp Try.prog sw7 (Exit.then K (fun _ _ _ => False)) ⟨#[s0, s1, s2, .pointer (some ⟨N, 0, none⟩), .pointer (some ⟨R, 0, none⟩), s5, .pointer (some ⟨g6, 0, none⟩), s7, s8, s9, s10, s11, s12, s13, s14, s15, s16, s17, s18, s19, s20, s21, s22, s23, s24, s25, s26, s27, s28, s29, s30, s31, s32, s33, s34, s35, s36, s37, s38, s39, s40, s41, s42, s43, s44, s45, s46, s47, s48, s49, s50, s51, s52, s53, s54, s55, s56, s57, s58, s59, s60, s61, s62, s63, s64, s65, s66, s67, s68, s69, s70, s71, s72, s73, s74, s75, s76, s77, s78, s79, s80, s81, s82, s83, s84, s85, s86, s87, s88, s89, s90, s91, s92, s93, s94, s95, s96, s97, s98, s99, s100, s101, s102, s103, s104, s105, s106, s107, s108, s109, s110, s111, s112, s113, s114, s115, s116, s117, s118, s119, s120, s121, s122, s123, s124, s125, s126, s127, s128, s129, s130, s131, s132, s133, s134, s135, s136, s137, s138, s139, s140, s141, s142, s143, s144, s145, s146, s147, s148, s149, s150, s151, s152, s153, s154, s155, s156, s157, s158, s159, s160, s161, s162, s163, s164, s165, s166, s167, s168, s169, s170, s171, s172, s173, s174, s175, s176, s177, s178, s179, s180], []⟩ w := by
  have hBd := hB.below ((Below.refl w.heap.size w).drew)
  have hbd := hb.drew
  have h6d := blk_drew h6
  have HX := Lib.hid (And.intro hBd (And.intro hm (And.intro hbd (And.intro hcs (And.intro hk h6d)))))
  have q6 := blk_cell h6
  have q6d := blk_cell h6d
  have HI := Lib.hid (And.intro hat hkk)
  clear hat hkk
  clear hB hBd hm hb hbd hcs hk h6 h6d hC hl2 hp wi wj
  conv => arg 2; whnf
  go_wp2
  go_region_law (first
    | (go_simp; refine (drop_calls HX.out.1.net i kk HI.out.2 HI.out.1 HX.out.1.len).mono ?_; rintro e w1 ⟨rfl, v', hS, hN, hM⟩; have hr := HX.out.1.refT hM hS; have q61 := blk_cell ((hM.2 _ (blk_lt HX.out.2.2.2.2.2) (ty_ne HX.out.2.2.2.2.2 HX.out.1.net.cell (by decide))).trans HX.out.2.2.2.2.2); have HE := Lib.hid (And.intro hN (And.intro hr (HX.out.2.2.1.trans hM.1))); clear hS hN hM hr)
    | (go_simp; refine (ref_drop HE.out.2.1.1 i kk HI.out.2 HI.out.1 HX.out.1.len).mono ?_; rintro e w2 ⟨rfl, lv', hr2, hM, hS⟩; have HF := Lib.hid (And.intro (HX.out.1.took HE.out.1 HE.out.2.1.1 HE.out.2.1.2 hr2 hM hS) (HE.out.2.2.trans hM.1)); clear hr2 hM hS))
  all_goals
    go_wp2
    exact ⟨_, _, _, _, _, _, _, HF.out.1, Nat.le_succ_of_le HX.out.2.1, Nat.le_succ_of_le HX.out.2.2.2.1, HF.out.2⟩

set_option maxRecDepth 1000000 in
set_option maxHeartbeats 8000000 in
theorem sw_copy {w0 w : World} {N M R g6 k c2 : Nat} {i j : Int} {p : S28} {A2 : Option Addr} {v lv cv : Value} {ps : List S28} {cs : List (Int × Int)} {D : DataW Unit} {m : Nat} (hB : Both w w0.heap.size N M R v lv cv ps cs D m) (hm : m ≤ k) (hcs : cs.length ≤ k) (hk : k < 2199023255552)
    (h6 : w.heap[g6]? = some (.cells #[.int .i64 (3), .int .i64 i, .int .i64 j, .int .i64 p.f0, .int .i64 p.f1, .slice A2 p.f2.length c2] 49 (0, 0))) (hC : (Kd.int .u8).C w0 A2 p.f2.length p.f2) (hl2 : p.f2.length ≤ c2) (hp : Fine28 p) (wi : (Lit.int .i64 i).wf = true) (wj : (Lit.int .i64 j).wf = true) (hb : Below w0.heap.size w0 w) (kk : Nat) (hkk : kk < ps.length) (hat : atF ps.length i = kk) (hlt : ps.length < 256)
    {K : Act → World → Prop} {s0 s1 s2 s5 s7 s8 s9 s10 s11 s12 s13 s14 s15 s16 s17 s18 s19 s20 s21 s22 s23 s24 s25 s26 s27 s28 s29 s30 s31 s32 s33 s34 s35 s36 s37 s38 s39 s40 s41 s42 s43 s44 s45 s46 s47 s48 s49 s50 s51 s52 s53 s54 s55 s56 s57 s58 s59 s60 s61 s62 s63 s64 s65 s66 s67 s68 s69 s70 s71 s72 s73 s74 s75 s76 s77 s78 s79 s80 s81 s82 s83 s84 s85 s86 s87 s88 s89 s90 s91 s92 s93 s94 s95 s96 s97 s98 s99 s100 s101 s102 s103 s104 s105 s106 s107 s108 s109 s110 s111 s112 s113 s114 s115 s116 s117 s118 s119 s120 s121 s122 s123 s124 s125 s126 s127 s128 s129 s130 s131 s132 s133 s134 s135 s136 s137 s138 s139 s140 s141 s142 s143 s144 s145 s146 s147 s148 s149 s150 s151 s152 s153 s154 s155 s156 s157 s158 s159 s160 s161 s162 s163 s164 s165 s166 s167 s168 s169 s170 s171 s172 s173 s174 s175 s176 s177 s178 s179 s180 : Value}
    (hK : ∀ (u7 u8 u9 u10 u11 u12 u32 u33 u34 u35 u36 u37 u38 u39 u40 u41 u42 u43 u44 u45 u46 u47 u48 u49 u50 u51 u52 u53 u54 u55 u56 u57 u58 u59 u60 u61 u62 u63 u64 u65 u66 u67 u68 u69 u70 u71 u72 u73 u74 u75 u76 u77 u78 u79 u80 u81 u82 u83 u84 u85 u86 u87 u88 u89 u90 u91 u92 u93 u94 u95 u96 u97 u98 u99 u100 u101 u102 u103 u104 u105 u106 u107 u108 u109 u110 u111 u112 u113 u114 u115 u116 u117 u118 u119 u120 u121 u122 u123 u124 u125 u126 u127 u128 u129 u130 u131 : Value) (W : World), After w0 N M R (k + 1) W → K ⟨#[s0, s1, s2, .pointer (some ⟨N, 0, none⟩), .pointer (some ⟨R, 0, none⟩), s5, .pointer (some ⟨g6, 0, none⟩), u7, u8, u9, u10, u11, u12, s13, s14, s15, s16, s17, s18, s19, s20, s21, s22, s23, s24, s25, s26, s27, s28, s29, s30, s31, u32, u33, u34, u35, u36, u37, u38, u39, u40, u41, u42, u43, u44, u45, u46, u47, u48, u49, u50, u51, u52, u53, u54, u55, u56, u57, u58, u59, u60, u61, u62, u63, u64, u65, u66, u67, u68, u69, u70, u71, u72, u73, u74, u75, u76, u77, u78, u79, u80, u81, u82, u83, u84, u85, u86, u87, u88, u89, u90, u91, u92, u93, u94, u95, u96, u97, u98, u99, u100, u101, u102, u103, u104, u105, u106, u107, u108, u109, u110, u111, u112, u113, u114, u115, u116, u117, u118, u119, u120, u121, u122, u123, u124, u125, u126, u127, u128, u129, u130, u131, s132, s133, s134, s135, s136, s137, s138, s139, s140, s141, s142, s143, s144, s145, s146, s147, s148, s149, s150, s151, s152, s153, s154, s155, s156, s157, s158, s159, s160, s161, s162, s163, s164, s165, s166, s167, s168, s169, s170, s171, s172, s173, s174, s175, s176, s177, s178, s179, s180], []⟩ W) :
    Code.wp Try.prog sw7 (Exit.then K (fun _ _ _ => False)) ⟨#[s0, s1, s2, .pointer (some ⟨N, 0, none⟩), .pointer (some ⟨R, 0, none⟩), s5, .pointer (some ⟨g6, 0, none⟩), s7, s8, s9, s10, s11, s12, s13, s14, s15, s16, s17, s18, s19, s20, s21, s22, s23, s24, s25, s26, s27, s28, s29, s30, s31, s32, s33, s34, s35, s36, s37, s38, s39, s40, s41, s42, s43, s44, s45, s46, s47, s48, s49, s50, s51, s52, s53, s54, s55, s56, s57, s58, s59, s60, s61, s62, s63, s64, s65, s66, s67, s68, s69, s70, s71, s72, s73, s74, s75, s76, s77, s78, s79, s80, s81, s82, s83, s84, s85, s86, s87, s88, s89, s90, s91, s92, s93, s94, s95, s96, s97, s98, s99, s100, s101, s102, s103, s104, s105, s106, s107, s108, s109, s110, s111, s112, s113, s114, s115, s116, s117, s118, s119, s120, s121, s122, s123, s124, s125, s126, s127, s128, s129, s130, s131, s132, s133, s134, s135, s136, s137, s138, s139, s140, s141, s142, s143, s144, s145, s146, s147, s148, s149, s150, s151, s152, s153, s154, s155, s156, s157, s158, s159, s160, s161, s162, s163, s164, s165, s166, s167, s168, s169, s170, s171, s172, s173, s174, s175, s176, s177, s178, s179, s180], []⟩ w := by
  have hBd := hB.below ((Below.refl w.heap.size w).drew)
  have hbd := hb.drew
  have h6d := blk_drew h6
  have HX := Lib.hid (And.intro hBd (And.intro hm (And.intro hbd (And.intro hcs (And.intro hk h6d)))))
  have q6 := blk_cell h6
  have q6d := blk_cell h6d
  have HI := Lib.hid (And.intro hat hkk)
  have HFN := Lib.hid (hB.fine _ (List.mem_of_getElem? (show ps[kk]? = some (ps.getD kk z28) by rw [List.getD_eq_getElem?_getD, List.getElem?_eq_getElem hkk]; rfl)))
  have HL := Lib.hid hlt
  clear hat hkk hlt
  clear hB hBd hm hb hbd hcs hk h6 h6d hC hl2 hp wi wj
  conv => arg 2; whnf
  go_wp2
  go_region_law (first
    | (go_simp; refine (copy_stays HX.out.1.net i kk HI.out.2 HI.out.1 HL.out (Nat.le_of_lt HFN.out.2.2)).mono ?_; rintro e w1 ⟨rfl, v', hN, hM, hS⟩; have hr := HX.out.1.refS hM hS; have q61 := blk_cell ((hM.2 _ (blk_lt HX.out.2.2.2.2.2) (ty_ne HX.out.2.2.2.2.2 HX.out.1.net.cell (by decide)) (HX.out.1.net.v_ne HX.out.2.2.2.2.2 (by decide))).trans HX.out.2.2.2.2.2); have HE := Lib.hid (And.intro hN (And.intro hr (HX.out.2.2.1.trans hM.1))); clear hS hN hM hr)
    | (go_simp; refine (ref_copy HE.out.2.1.1 i kk HI.out.2 HI.out.1 HL.out).mono ?_; rintro e w2 ⟨rfl, lv', hr2, hM, hS⟩; have HF := Lib.hid (And.intro (HX.out.1.sent HL.out HFN.out HE.out.1 HE.out.2.1.1 HE.out.2.1.2 hr2 hM hS) (HE.out.2.2.trans hM.1)); clear hr2 hM hS))
  all_goals
    go_wp2
    exact ⟨_, _, _, _, _, _, _, HF.out.1, Nat.le_succ_of_le HX.out.2.1, Nat.le_succ_of_le HX.out.2.2.2.1, HF.out.2⟩

set_option maxRecDepth 1000000 in
set_option maxHeartbeats 8000000 in
theorem sw_copy_full {w0 w : World} {N M R g6 k c2 : Nat} {i j : Int} {p : S28} {A2 : Option Addr} {v lv cv : Value} {ps : List S28} {cs : List (Int × Int)} {D : DataW Unit} {m : Nat} (hB : Both w w0.heap.size N M R v lv cv ps cs D m) (hm : m ≤ k) (hcs : cs.length ≤ k) (hk : k < 2199023255552)
    (h6 : w.heap[g6]? = some (.cells #[.int .i64 (3), .int .i64 i, .int .i64 j, .int .i64 p.f0, .int .i64 p.f1, .slice A2 p.f2.length c2] 49 (0, 0))) (hC : (Kd.int .u8).C w0 A2 p.f2.length p.f2) (hl2 : p.f2.length ≤ c2) (hp : Fine28 p) (wi : (Lit.int .i64 i).wf = true) (wj : (Lit.int .i64 j).wf = true) (hb : Below w0.heap.size w0 w) (kk : Nat) (hkk : kk < ps.length) (hat : atF ps.length i = kk) (hlt : ps.length = 256)
    {K : Act → World → Prop} {s0 s1 s2 s5 s7 s8 s9 s10 s11 s12 s13 s14 s15 s16 s17 s18 s19 s20 s21 s22 s23 s24 s25 s26 s27 s28 s29 s30 s31 s32 s33 s34 s35 s36 s37 s38 s39 s40 s41 s42 s43 s44 s45 s46 s47 s48 s49 s50 s51 s52 s53 s54 s55 s56 s57 s58 s59 s60 s61 s62 s63 s64 s65 s66 s67 s68 s69 s70 s71 s72 s73 s74 s75 s76 s77 s78 s79 s80 s81 s82 s83 s84 s85 s86 s87 s88 s89 s90 s91 s92 s93 s94 s95 s96 s97 s98 s99 s100 s101 s102 s103 s104 s105 s106 s107 s108 s109 s110 s111 s112 s113 s114 s115 s116 s117 s118 s119 s120 s121 s122 s123 s124 s125 s126 s127 s128 s129 s130 s131 s132 s133 s134 s135 s136 s137 s138 s139 s140 s141 s142 s143 s144 s145 s146 s147 s148 s149 s150 s151 s152 s153 s154 s155 s156 s157 s158 s159 s160 s161 s162 s163 s164 s165 s166 s167 s168 s169 s170 s171 s172 s173 s174 s175 s176 s177 s178 s179 s180 : Value}
    (hK : ∀ (u7 u8 u9 u10 u11 u12 u32 u33 u34 u35 u36 u37 u38 u39 u40 u41 u42 u43 u44 u45 u46 u47 u48 u49 u50 u51 u52 u53 u54 u55 u56 u57 u58 u59 u60 u61 u62 u63 u64 u65 u66 u67 u68 u69 u70 u71 u72 u73 u74 u75 u76 u77 u78 u79 u80 u81 u82 u83 u84 u85 u86 u87 u88 u89 u90 u91 u92 u93 u94 u95 u96 u97 u98 u99 u100 u101 u102 u103 u104 u105 u106 u107 u108 u109 u110 u111 u112 u113 u114 u115 u116 u117 u118 u119 u120 u121 u122 u123 u124 u125 u126 u127 u128 u129 u130 u131 : Value) (W : World), After w0 N M R (k + 1) W → K ⟨#[s0, s1, s2, .pointer (some ⟨N, 0, none⟩), .pointer (some ⟨R, 0, none⟩), s5, .pointer (some ⟨g6, 0, none⟩), u7, u8, u9, u10, u11, u12, s13, s14, s15, s16, s17, s18, s19, s20, s21, s22, s23, s24, s25, s26, s27, s28, s29, s30, s31, u32, u33, u34, u35, u36, u37, u38, u39, u40, u41, u42, u43, u44, u45, u46, u47, u48, u49, u50, u51, u52, u53, u54, u55, u56, u57, u58, u59, u60, u61, u62, u63, u64, u65, u66, u67, u68, u69, u70, u71, u72, u73, u74, u75, u76, u77, u78, u79, u80, u81, u82, u83, u84, u85, u86, u87, u88, u89, u90, u91, u92, u93, u94, u95, u96, u97, u98, u99, u100, u101, u102, u103, u104, u105, u106, u107, u108, u109, u110, u111, u112, u113, u114, u115, u116, u117, u118, u119, u120, u121, u122, u123, u124, u125, u126, u127, u128, u129, u130, u131, s132, s133, s134, s135, s136, s137, s138, s139, s140, s141, s142, s143, s144, s145, s146, s147, s148, s149, s150, s151, s152, s153, s154, s155, s156, s157, s158, s159, s160, s161, s162, s163, s164, s165, s166, s167, s168, s169, s170, s171, s172, s173, s174, s175, s176, s177, s178, s179, s180], []⟩ W) :
    Code.wp Try.prog sw7 (Exit.then K (fun _ _ _ => False)) ⟨#[s0, s1, s2, .pointer (some ⟨N, 0, none⟩), .pointer (some ⟨R, 0, none⟩), s5, .pointer (some ⟨g6, 0, none⟩), s7, s8, s9, s10, s11, s12, s13, s14, s15, s16, s17, s18, s19, s20, s21, s22, s23, s24, s25, s26, s27, s28, s29, s30, s31, s32, s33, s34, s35, s36, s37, s38, s39, s40, s41, s42, s43, s44, s45, s46, s47, s48, s49, s50, s51, s52, s53, s54, s55, s56, s57, s58, s59, s60, s61, s62, s63, s64, s65, s66, s67, s68, s69, s70, s71, s72, s73, s74, s75, s76, s77, s78, s79, s80, s81, s82, s83, s84, s85, s86, s87, s88, s89, s90, s91, s92, s93, s94, s95, s96, s97, s98, s99, s100, s101, s102, s103, s104, s105, s106, s107, s108, s109, s110, s111, s112, s113, s114, s115, s116, s117, s118, s119, s120, s121, s122, s123, s124, s125, s126, s127, s128, s129, s130, s131, s132, s133, s134, s135, s136, s137, s138, s139, s140, s141, s142, s143, s144, s145, s146, s147, s148, s149, s150, s151, s152, s153, s154, s155, s156, s157, s158, s159, s160, s161, s162, s163, s164, s165, s166, s167, s168, s169, s170, s171, s172, s173, s174, s175, s176, s177, s178, s179, s180], []⟩ w := by
  have hBd := hB.below ((Below.refl w.heap.size w).drew)
  have hbd := hb.drew
  have h6d := blk_drew h6
  have HX := Lib.hid (And.intro hBd (And.intro hm (And.intro hbd (And.intro hcs (And.intro hk h6d)))))
  have q6 := blk_cell h6
  have q6d := blk_cell h6d
  have HI := Lib.hid (And.intro hat hkk)
  have HL := Lib.hid hlt
  clear hat hkk hlt
  clear hB hBd hm hb hbd hcs hk h6 h6d hC hl2 hp wi wj
  conv => arg 2; whnf
  go_wp2
  go_region_law (first
    | (go_simp; refine (copy_full HX.out.1.net i kk HI.out.2 HI.out.1 HL.out).mono ?_; rintro e w1 ⟨rfl, hb1⟩; have q61 := blk_cell (blk_below HX.out.2.2.2.2.2 hb1); have HE := Lib.hid (And.intro (HX.out.1.below hb1) (below_step HX.out.2.2.1 hb1)); clear hb1)
    | (go_simp; refine (ref_copy_full HE.out.1.ref i kk HI.out.2 HI.out.1 HL.out).mono ?_; rintro e w2 ⟨rfl, hb1⟩; have HF := Lib.hid (And.intro (HE.out.1.below hb1) (below_step HE.out.2 hb1)); clear hb1))
  all_goals
    go_wp2
    exact ⟨_, _, _, _, _, _, _, HF.out.1, Nat.le_succ_of_le HX.out.2.1, Nat.le_succ_of_le HX.out.2.2.2.1, HF.out.2⟩

end Go.Proofs.Ytalaghkpbdaonaa

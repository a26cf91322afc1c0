/- NetPlays: the switch, and the walk. No conditions. -/
import Derived.Test.YtalaghkpbdaonaaPlC
import Derived.Test.YtalaghkpbdaonaaPlBD
import Derived.Test.YtalaghkpbdaonaaPlE
import Derived.Test.YtalaghkpbdaonaaPlT
import Derived.Test.YtalaghkpbdaonaaNetG
namespace Go.Proofs.Ytalaghkpbdaonaa
open Go Go.RowKit H Go.Proofs.YtalaghkpbdaonaaW.PrintWords Strict

theorem After.below {w0 w w' : World} {N M R k : Nat} (h : After w0 N M R k w) (hb : Below w.heap.size w w') : After w0 N M R k w' := by
  obtain ⟨v, lv, cv, ps, cs, D, m, hB, hm, hcs, h0⟩ := h
  exact ⟨v, lv, cv, ps, cs, D, m, hB.below hb, hm, hcs, below_step h0 hb⟩

theorem wp_thenF {c : Code} {K : Act → World → Prop} {Q : Exit → Act → World → Prop} {a : Act} {w : World} (h : Code.wp Try.prog c (Exit.then K (fun _ _ _ => False)) a w) : Code.wp Try.prog c (Exit.then K Q) a w :=
  Code.wp_mono (fun e a w h => by cases e <;> first | exact h | exact (h : False).elim) h

theorem wp_normal {c : Code} {Q : Exit → Act → World → Prop} {a : Act} {w : World} (h : Code.wp Try.prog c (Exit.then (fun a w => Q .normal a w) (fun _ _ _ => False)) a w) : Code.wp Try.prog c Q a w :=
  Code.wp_mono (fun e a w h => by cases e <;> first | exact h | exact (h : False).elim) h

set_option maxRecDepth 1000000 in
set_option maxHeartbeats 8000000 in
theorem sw_all {w0 w : World} {N M R g6 k c2 : Nat} {kd i j : Int} {p : S28} {A2 : Option Addr} (hA : After w0 N M R k w) (hk : k < 2199023255552)
    (h6 : w.heap[g6]? = some (.cells #[.int .i64 kd, .int .i64 i, .int .i64 j, .int .i64 p.f0, .int .i64 p.f1, .slice A2 p.f2.length c2] 49 (0, 0))) (hC : (Kd.int .u8).C w0 A2 p.f2.length p.f2) (hl2 : p.f2.length ≤ c2) (hp : Fine28 p) (wi : (Lit.int .i64 i).wf = true) (wj : (Lit.int .i64 j).wf = true)
    {K : Act → World → Prop} {s0 s1 s2 s5 s7 s8 s9 s10 s11 s12 s13 s14 s15 s16 s17 s18 s19 s20 s21 s22 s23 s24 s25 s26 s27 s28 s29 s30 s31 s32 s33 s34 s35 s36 s37 s38 s39 s40 s41 s42 s43 s44 s45 s46 s47 s48 s49 s50 s51 s52 s53 s54 s55 s56 s57 s58 s59 s60 s61 s62 s63 s64 s65 s66 s67 s68 s69 s70 s71 s72 s73 s74 s75 s76 s77 s78 s79 s80 s81 s82 s83 s84 s85 s86 s87 s88 s89 s90 s91 s92 s93 s94 s95 s96 s97 s98 s99 s100 s101 s102 s103 s104 s105 s106 s107 s108 s109 s110 s111 s112 s113 s114 s115 s116 s117 s118 s119 s120 s121 s122 s123 s124 s125 s126 s127 s128 s129 s130 s131 s132 s133 s134 s135 s136 s137 s138 s139 s140 s141 s142 s143 s144 s145 s146 s147 s148 s149 s150 s151 s152 s153 s154 s155 s156 s157 s158 s159 s160 s161 s162 s163 s164 s165 s166 s167 s168 s169 s170 s171 s172 s173 s174 s175 s176 s177 s178 s179 s180 : Value}
    (hK : ∀ (u7 u8 u9 u10 u11 u12 u32 u33 u34 u35 u36 u37 u38 u39 u40 u41 u42 u43 u44 u45 u46 u47 u48 u49 u50 u51 u52 u53 u54 u55 u56 u57 u58 u59 u60 u61 u62 u63 u64 u65 u66 u67 u68 u69 u70 u71 u72 u73 u74 u75 u76 u77 u78 u79 u80 u81 u82 u83 u84 u85 u86 u87 u88 u89 u90 u91 u92 u93 u94 u95 u96 u97 u98 u99 u100 u101 u102 u103 u104 u105 u106 u107 u108 u109 u110 u111 u112 u113 u114 u115 u116 u117 u118 u119 u120 u121 u122 u123 u124 u125 u126 u127 u128 u129 u130 u131 : Value) (W : World), After w0 N M R (k + 1) W → K ⟨#[s0, s1, s2, .pointer (some ⟨N, 0, none⟩), .pointer (some ⟨R, 0, none⟩), s5, .pointer (some ⟨g6, 0, none⟩), u7, u8, u9, u10, u11, u12, s13, s14, s15, s16, s17, s18, s19, s20, s21, s22, s23, s24, s25, s26, s27, s28, s29, s30, s31, u32, u33, u34, u35, u36, u37, u38, u39, u40, u41, u42, u43, u44, u45, u46, u47, u48, u49, u50, u51, u52, u53, u54, u55, u56, u57, u58, u59, u60, u61, u62, u63, u64, u65, u66, u67, u68, u69, u70, u71, u72, u73, u74, u75, u76, u77, u78, u79, u80, u81, u82, u83, u84, u85, u86, u87, u88, u89, u90, u91, u92, u93, u94, u95, u96, u97, u98, u99, u100, u101, u102, u103, u104, u105, u106, u107, u108, u109, u110, u111, u112, u113, u114, u115, u116, u117, u118, u119, u120, u121, u122, u123, u124, u125, u126, u127, u128, u129, u130, u131, s132, s133, s134, s135, s136, s137, s138, s139, s140, s141, s142, s143, s144, s145, s146, s147, s148, s149, s150, s151, s152, s153, s154, s155, s156, s157, s158, s159, s160, s161, s162, s163, s164, s165, s166, s167, s168, s169, s170, s171, s172, s173, s174, s175, s176, s177, s178, s179, s180], []⟩ W) :
    Code.wp Try.prog sw7 (Exit.then K (fun _ _ _ => False)) ⟨#[s0, s1, s2, .pointer (some ⟨N, 0, none⟩), .pointer (some ⟨R, 0, none⟩), s5, .pointer (some ⟨g6, 0, none⟩), s7, s8, s9, s10, s11, s12, s13, s14, s15, s16, s17, s18, s19, s20, s21, s22, s23, s24, s25, s26, s27, s28, s29, s30, s31, s32, s33, s34, s35, s36, s37, s38, s39, s40, s41, s42, s43, s44, s45, s46, s47, s48, s49, s50, s51, s52, s53, s54, s55, s56, s57, s58, s59, s60, s61, s62, s63, s64, s65, s66, s67, s68, s69, s70, s71, s72, s73, s74, s75, s76, s77, s78, s79, s80, s81, s82, s83, s84, s85, s86, s87, s88, s89, s90, s91, s92, s93, s94, s95, s96, s97, s98, s99, s100, s101, s102, s103, s104, s105, s106, s107, s108, s109, s110, s111, s112, s113, s114, s115, s116, s117, s118, s119, s120, s121, s122, s123, s124, s125, s126, s127, s128, s129, s130, s131, s132, s133, s134, s135, s136, s137, s138, s139, s140, s141, s142, s143, s144, s145, s146, s147, s148, s149, s150, s151, s152, s153, s154, s155, s156, s157, s158, s159, s160, s161, s162, s163, s164, s165, s166, s167, s168, s169, s170, s171, s172, s173, s174, s175, s176, s177, s178, s179, s180], []⟩ w := by
  obtain ⟨v, lv, cv, ps, cs, D, m, hB, hm, hcs, hb⟩ := hA
  have hnil : ∀ {l : List S28}, ¬ l = [] → 0 < l.length := fun h => List.length_pos_iff.2 h
  by_cases e0 : kd = 0
  · subst e0
    rcases Nat.lt_or_ge ps.length 256 with h | h
    · exact sw_send hB hm hcs hk h6 hC hl2 hp wi wj hb h hK
    · exact sw_send_full hB hm hcs hk h6 hC hl2 hp wi wj hb (Nat.le_antisymm hB.len h) hK
  by_cases e1 : kd = 1
  · subst e1
    by_cases h : ps = []
    · exact sw_take_none hB hm hcs hk h6 hC hl2 hp wi wj hb h hK
    · obtain ⟨kk, hkk, hat⟩ := atF_nat ps.length i (hnil h)
      exact sw_take hB hm hcs hk h6 hC hl2 hp wi wj hb kk hkk hat hK
  by_cases e2 : kd = 2
  · subst e2
    by_cases h : ps = []
    · exact sw_drop_none hB hm hcs hk h6 hC hl2 hp wi wj hb h hK
    · obtain ⟨kk, hkk, hat⟩ := atF_nat ps.length i (hnil h)
      exact sw_drop hB hm hcs hk h6 hC hl2 hp wi wj hb kk hkk hat hK
  by_cases e3 : kd = 3
  · subst e3
    by_cases h : ps = []
    · exact sw_copy_none hB hm hcs hk h6 hC hl2 hp wi wj hb h hK
    · obtain ⟨kk, hkk, hat⟩ := atF_nat ps.length i (hnil h)
      rcases Nat.lt_or_ge ps.length 256 with h | h
      · exact sw_copy hB hm hcs hk h6 hC hl2 hp wi wj hb kk hkk hat h hK
      · exact sw_copy_full hB hm hcs hk h6 hC hl2 hp wi wj hb kk hkk hat (Nat.le_antisymm hB.len h) hK
  by_cases e4 : kd = 4
  · subst e4
    by_cases h : i = j
    · exact sw_same hB hm hcs hk h6 hC hl2 hp wi wj hb h.symm hK
    · exact sw_cut hB hm hcs hk h6 hC hl2 hp wi wj hb h hK
  · exact sw_heal hB hm hcs hk h6 hC hl2 hp wi wj hb (by simpa using e0) (by simpa using e1) (by simpa using e2) (by simpa using e3) (by simpa using e4) hK
end Go.Proofs.Ytalaghkpbdaonaa

namespace Go.Proofs.Ytalaghkpbdaonaa
open Go Go.RowKit H Go.Proofs.YtalaghkpbdaonaaW.PrintWords Strict

set_option maxRecDepth 1000000 in
set_option maxHeartbeats 8000000 in
theorem plays_calls {w0 : World} (A : Option Addr) (c : Nat) (l : List S49) (hl : l.length ≤ c) (hC : Kd.C k49 w0 A l.length l) (hg : ∀ p ∈ l, Fine49 p) (hz : l.length < 2199023255552) :
    Calls Try.prog 7 #[.slice A l.length c] w0 fun e w' => e = .returned (.bool true) ∧ Below w0.heap.size w0 w' := by
  have HC := Lib.hid (And.intro hC (And.intro hl (And.intro hg hz)))
  clear hC hl hg hz
  have hsw : sw7 = sw7 := rfl
  conv at hsw => lhs; whnf
  have htl : tl7 = tl7 := rfl
  conv at htl => lhs; whnf
  obtain ⟨sw, hw1⟩ : ∃ c, c = sw7 := ⟨_, rfl⟩
  obtain ⟨tl, hw2⟩ : ∃ c, c = tl7 := ⟨_, rfl⟩
  rw [← hw1] at hsw
  rw [← hw2] at htl
  have HS := Lib.hid hsw
  have HT := Lib.hid htl
  have HV := Lib.hid (And.intro hw1 hw2)
  clear hsw htl hw1 hw2
  go_enter Try.func7, Try.ntmps7
  go_wp2_with (first
    | (go_at_call 9; refine (new_calls _).mono ?_; rintro e w1 ⟨N, M, rfl, hN, hB⟩; have HN1 := Lib.hid (And.intro hN hB); clear hN hB)
    | (go_at_call 10; refine (awake_walk _).mono ?_; rintro e w2 ⟨rfl, hB⟩; have HN2 := Lib.hid hB; clear hB)
    | go_in)
  have HA : Hid (After w0 N M w1.heap.size 0 w2) := by
    have ha := alloc_below w1 (.cells #[.slice none 0 0, .slice none 0 0] 47)
    have hb := below_step (below_step HN1.out.2 ha) HN2.out
    have hs := HN1.out.2.size
    have hn := (HN1.out.1.below ha).below HN2.out
    exact ⟨.slice none 0 0, .slice none 0 0, .slice none 0 0, [], [], .map [], 0, ⟨hn, ⟨hs, blk_below (heap_alloc_new w1 _) HN2.out, ⟨[], World.ownsRow_nil _ _ _ _, Reps.none _ _⟩, World.ownsRow_nil _ _ _ _⟩, fun g hg => by simp [Value.ownBlock] at hg, Maps.isMap_empty, fun x y _ _ => rfl, by simp, fun p hp => by simp at hp⟩, Nat.le_refl _, Nat.le_refl _, hb⟩
  clear HN1 HN2
  go_loopw [28] (fun i wr => ∃ k : Nat, k ≤ l.length ∧ i = .int .i64 k ∧ After w0 N M w1.heap.size k wr) (fun i _ => l.length - (intOf i).toNat)
  case atStart => exact ⟨0, Nat.zero_le _, rfl, HA.out⟩
  case round =>
    obtain ⟨k, hk, rfl, hA⟩ := hrel
    clear HA
    rw [HS.out, HT.out]
    clear HS HT
    have hbw : Below w0.heap.size w0 wr := by obtain ⟨_, _, _, _, _, _, _, _, _, _, hb⟩ := hA; exact hb
    rcases Nat.lt_or_ge k l.length with hlt | hge
    case' inl =>
      have hx : l[k]? = some (rd49 l k) := by unfold rd49; rw [List.getD_eq_getElem?_getD, List.getElem?_eq_getElem hlt]; rfl
      have hfine := HC.out.2.2.1 _ (List.mem_of_getElem? hx)
      obtain ⟨ad, A2, c2, rfl, x0, x1, x2, x3, x4, x5, hl2, hC2⟩ := at_49 HC.out.1 k hlt
      generalize rd49 l k = q at *
      have hlx := fun {v : Value} (a : Addr) (h : w0.cell? a = some v) => (hbw.cell (World.block_lt_of_cell? w0 a h)).trans h
      replace x0 := hlx _ x0
      replace x1 := hlx _ x1
      replace x2 := hlx _ x2
      replace x3 := hlx _ x3
      replace x4 := hlx _ x4
      replace x5 := hlx _ x5
      have hd := eq_true (show (k : Int) < l.length by omega)
      have hjj : Hid (wrap64 ((k : Int) + 1) = ((k + 1 : Nat) : Int)) := by have := HC.out.2.2.2; show _ = _; unfold wrap64; omega
      have HR := Lib.hid (And.intro hA (And.intro hl2 (And.intro hC2 hfine)))
      have HLT := Lib.hid hlt
      have HX := Lib.hid hx
      have HB := Lib.hid hbw
      clear hA hl2 hC2 hfine hlx hx hbw
      go_wp2
      obtain ⟨hw1, hw2⟩ := HV.out
      clear HV
      subst hw1 hw2
      refine wp_thenF (sw_all (HR.out.1.below (alloc_below wr (.cells #[.int .i64 q.kd, .int .i64 q.i, .int .i64 q.j, .int .i64 q.p.f0, .int .i64 q.p.f1, .slice A2 q.p.f2.length c2] 49))) (by have := HC.out.2.2.2; omega) (heap_alloc_new wr (.cells #[.int .i64 q.kd, .int .i64 q.i, .int .i64 q.j, .int .i64 q.p.f0, .int .i64 q.p.f1, .slice A2 q.p.f2.length c2] 49)) HR.out.2.2.1 HR.out.2.1 HR.out.2.2.2.2.2.2 HR.out.2.2.2.2.1 HR.out.2.2.2.2.2.1 ?_)
      intro u7 u8 u9 u10 u11 u12 u32 u33 u34 u35 u36 u37 u38 u39 u40 u41 u42 u43 u44 u45 u46 u47 u48 u49 u50 u51 u52 u53 u54 u55 u56 u57 u58 u59 u60 u61 u62 u63 u64 u65 u66 u67 u68 u69 u70 u71 u72 u73 u74 u75 u76 u77 u78 u79 u80 u81 u82 u83 u84 u85 u86 u87 u88 u89 u90 u91 u92 u93 u94 u95 u96 u97 u98 u99 u100 u101 u102 u103 u104 u105 u106 u107 u108 u109 u110 u111 u112 u113 u114 u115 u116 u117 u118 u119 u120 u121 u122 u123 u124 u125 u126 u127 u128 u129 u130 u131 W hW
      have HW := Lib.hid hW
      clear hW x0 x1 x2 x3 x4 x5
      go_wp2
      refine wp_normal (tail_run HW.out ?_)
      intro u2 u13 u14 u15 u16 u132 u133 u134 u135 u136 u137 u138 u139 u140 u141 u142 u143 u144 u145 u146 u147 u148 u149 u150 u151 u152 u153 u154 u155 u156 u157 u158 u159 u160 u161 u162 u163 u164 u165 u166 u167 u168 u169 u170 u171 u172 u173 u174 u175 u176 u177 u178 u179 W2 hW2
      have HW2 := Lib.hid hW2
      clear hW2 HW
      go_wp2
      exact ⟨⟨k + 1, HLT.out, by rw [hjj.out], HW2.out⟩, by have := HLT.out; rw [hjj.out]; simp only [intOf]; omega⟩
    obtain rfl : k = l.length := by omega
    have hcd := eq_false (show ¬ (l.length : Int) < l.length by omega)
    have HB := Lib.hid hbw
    clear hbw hA hge hk HV
    go_wp2
    go_ret
    exact ⟨rfl, HB.out⟩
end Go.Proofs.Ytalaghkpbdaonaa

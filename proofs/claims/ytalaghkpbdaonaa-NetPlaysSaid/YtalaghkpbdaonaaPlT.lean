/- NetPlays: all packets are peeked. No conditions. -/
import Derived.Test.YtalaghkpbdaonaaPlM
import Derived.Test.YtalaghkpbdaonaaPlBD
namespace Go.Proofs.Ytalaghkpbdaonaa
open Go Go.RowKit H Go.Proofs.YtalaghkpbdaonaaW.PrintWords Strict

/-- The loop that peeks at all packets. -/
noncomputable def tlp7 : Code := seqR tl7

theorem cell_up {w W : World} (hb : Below w.heap.size w W) {a : Addr} {u : Value} (h : w.cell? a = some u) : W.cell? a = some u := (hb.cell (World.block_lt_of_cell? w a h)).trans h

theorem fresh_body {w w1 : World} {A : Option Addr} {c n : Nat} {xs : List Int} (hn : xs.length = n) (hR : (Kd.int .u8).R 5 w1 w.heap.size (fun _ => True) (.slice A n c) xs) : ∃ gb, w.heap.size ≤ gb ∧ (Kd.int .u8).R 5 w1 w.heap.size (fun k => k = gb) (.slice A n c) xs := by
  cases ho : (Value.slice A n c).ownBlock with
  | none => exact ⟨w.heap.size, Nat.le_refl _, Kd.R_reok rfl hR (fun k hk => by rw [ho] at hk; cases hk)⟩
  | some g => exact ⟨g, Kd.R_base hR g ho, Kd.R_reok rfl hR (fun k hk => by rw [ho] at hk; exact (Option.some.inj hk).symm)⟩

set_option maxRecDepth 1000000 in
set_option maxHeartbeats 8000000 in
theorem tlp_run {w0 w : World} {N M R k : Nat} (hA : After w0 N M R k w)
    {K : Act → World → Prop} {s0 s1 s2 s5 s6 s7 s8 s9 s10 s11 s12 s13 s14 s15 s16 s17 s18 s19 s20 s21 s22 s23 s24 s25 s26 s27 s28 s29 s30 s31 s32 s33 s34 s35 s36 s37 s38 s39 s40 s41 s42 s43 s44 s45 s46 s47 s48 s49 s50 s51 s52 s53 s54 s55 s56 s57 s58 s59 s60 s61 s62 s63 s64 s65 s66 s67 s68 s69 s70 s71 s72 s73 s74 s75 s76 s77 s78 s79 s80 s81 s82 s83 s84 s85 s86 s87 s88 s89 s90 s91 s92 s93 s94 s95 s96 s97 s98 s99 s100 s101 s102 s103 s104 s105 s106 s107 s108 s109 s110 s111 s112 s113 s114 s115 s116 s117 s118 s119 s120 s121 s122 s123 s124 s125 s126 s127 s128 s129 s130 s131 s132 s133 s134 s135 s136 s137 s138 s139 s140 s141 s142 s143 s144 s145 s146 s147 s148 s149 s150 s151 s152 s153 s154 s155 s156 s157 s158 s159 s160 s161 s162 s163 s164 s165 s166 s167 s168 s169 s170 s171 s172 s173 s174 s175 s176 s177 s178 s179 s180 : Value}
    (hK : ∀ (u2 u13 u14 u15 u16 u140 u141 u142 u143 u144 u145 u146 u147 u148 u149 u150 u151 u152 u153 u154 u155 u156 u157 u158 u159 u160 u161 u162 u163 u164 u165 u166 u167 u168 u169 u170 u171 u172 u173 u174 u175 u176 u177 u178 u179 : Value) (W : World), After w0 N M R k W → K ⟨#[s0, s1, u2, .pointer (some ⟨N, 0, none⟩), .pointer (some ⟨R, 0, none⟩), s5, s6, s7, s8, s9, s10, s11, s12, u13, u14, u15, u16, s17, s18, s19, s20, s21, s22, s23, s24, s25, s26, s27, s28, s29, s30, s31, s32, s33, s34, s35, s36, s37, s38, s39, s40, s41, s42, s43, s44, s45, s46, s47, s48, s49, s50, s51, s52, s53, s54, s55, s56, s57, s58, s59, s60, s61, s62, s63, s64, s65, s66, s67, s68, s69, s70, s71, s72, s73, s74, s75, s76, s77, s78, s79, s80, s81, s82, s83, s84, s85, s86, s87, s88, s89, s90, s91, s92, s93, s94, s95, s96, s97, s98, s99, s100, s101, s102, s103, s104, s105, s106, s107, s108, s109, s110, s111, s112, s113, s114, s115, s116, s117, s118, s119, s120, s121, s122, s123, s124, s125, s126, s127, s128, s129, s130, s131, s132, s133, s134, s135, s136, s137, s138, s139, u140, u141, u142, u143, u144, u145, u146, u147, u148, u149, u150, u151, u152, u153, u154, u155, u156, u157, u158, u159, u160, u161, u162, u163, u164, u165, u166, u167, u168, u169, u170, u171, u172, u173, u174, u175, u176, u177, u178, u179, s180], []⟩ W) :
    Code.wp Try.prog tlp7 (Exit.then K (fun _ _ _ => False)) ⟨#[s0, s1, s2, .pointer (some ⟨N, 0, none⟩), .pointer (some ⟨R, 0, none⟩), s5, s6, s7, s8, s9, s10, s11, s12, s13, s14, s15, s16, s17, s18, s19, s20, s21, s22, s23, s24, s25, s26, s27, s28, s29, s30, s31, s32, s33, s34, s35, s36, s37, s38, s39, s40, s41, s42, s43, s44, s45, s46, s47, s48, s49, s50, s51, s52, s53, s54, s55, s56, s57, s58, s59, s60, s61, s62, s63, s64, s65, s66, s67, s68, s69, s70, s71, s72, s73, s74, s75, s76, s77, s78, s79, s80, s81, s82, s83, s84, s85, s86, s87, s88, s89, s90, s91, s92, s93, s94, s95, s96, s97, s98, s99, s100, s101, s102, s103, s104, s105, s106, s107, s108, s109, s110, s111, s112, s113, s114, s115, s116, s117, s118, s119, s120, s121, s122, s123, s124, s125, s126, s127, s128, s129, s130, s131, s132, s133, s134, s135, s136, s137, s138, s139, s140, s141, s142, s143, s144, s145, s146, s147, s148, s149, s150, s151, s152, s153, s154, s155, s156, s157, s158, s159, s160, s161, s162, s163, s164, s165, s166, s167, s168, s169, s170, s171, s172, s173, s174, s175, s176, s177, s178, s179, s180], []⟩ w := by
  obtain ⟨v, lv, cv, ps, cs, D, m, hB, hm, hcs, hb⟩ := hA
  obtain ⟨A, c, rfl⟩ := hB.ref.form
  have HX := Lib.hid (And.intro hB (And.intro hm (And.intro hcs hb)))
  clear hB hm hcs hb
  have hpl : pl7 = pl7 := rfl
  conv at hpl => lhs; whnf
  conv => arg 2; whnf
  obtain ⟨pl, hw⟩ : ∃ c, c = pl7 := ⟨_, rfl⟩
  rw [← hw] at hpl
  have HPL := Lib.hid hpl
  clear hpl
  go_wp2
  go_loopw [13] (fun i wr => ∃ q : Nat, q ≤ ps.length ∧ i = .int .i64 q ∧ Below w.heap.size w wr) (fun i _ => ps.length - (intOf i).toNat)
  case atStart => exact ⟨0, Nat.zero_le _, rfl, Below.refl _ _⟩
  case round =>
    obtain ⟨n, hn, rfl, hbw⟩ := hrel
    rw [HPL.out]
    clear HPL
    have hBr := HX.out.1.below hbw
    have qr := blk_cell hBr.ref.cell
    rcases Nat.lt_or_ge n ps.length with hlt | hge
    case' inl =>
      obtain ⟨g, c', A2, c2, hlv, hnc, hR2, x0, x1, x2⟩ := HX.out.1.ref.elem n hlt
      injection hlv with hl1 _ hl3
      subst hl1 hl3
      have hfine := HX.out.1.fine _ (List.mem_of_getElem? (show ps[n]? = some (ps.getD n z28) by rw [List.getD_eq_getElem?_getD, List.getElem?_eq_getElem hlt]; rfl))
      have hat : atF ps.length n = n := by unfold atF; rw [if_neg (by omega)]; exact Int.emod_eq_of_lt (by omega) (by omega)
      have HP := Lib.hid (fun (w : World) (h : NetIn w w0.heap.size N M v ps D m) => peek_calls h (n : Int) n hlt hat HX.out.1.len (Nat.le_of_lt hfine.2.2))
      have hd := eq_true (show (n : Int) < ps.length by omega)
      have hjj : Hid (wrap64 ((n : Int) + 1) = ((n + 1 : Nat) : Int)) := by have := HX.out.1.len; show _ = _; unfold wrap64; omega
      generalize ps.getD n z28 = x at *
      have HR := Lib.hid (And.intro hbw (And.intro hBr (And.intro hR2 (And.intro hfine.2.2 (And.intro x0 (And.intro x1 x2))))))
      clear hBr hbw hR2 hfine hat x0 x1 x2
      go_wp2_with (first
        | (go_at_call 13; refine (HP.out _ HR.out.2.1.net).mono ?_; rintro e w1 ⟨A5, c5, rfl, hR, hb1⟩; have hba := below_step hb1 (alloc_below w1 (.cells #[.int .i64 x.f0, .int .i64 x.f1, .slice A5 x.f2.length c5] 28)); have hbd := below_step HR.out.1 hba; have qRd := blk_cell (blk_drew (HR.out.2.1.below hba).ref.cell); have z0 := cell_up hbd.drew HR.out.2.2.2.2.1; have z1 := cell_up hbd.drew HR.out.2.2.2.2.2.1; have z2 := cell_up hbd.drew HR.out.2.2.2.2.2.2; have h14 := heap_alloc_new w1 (.cells #[.int .i64 x.f0, .int .i64 x.f1, .slice A5 x.f2.length c5] 28); have q14d := blk_cell (blk_drew h14); have HSW := Lib.hid (show (w1.alloc (.cells #[.int .i64 x.f0, .int .i64 x.f1, .slice A5 x.f2.length c5] 28)).drew.cell? ⟨R, 0, none⟩ = some (.slice (some ⟨g, 0, none⟩) ps.length c) ∧ (w1.alloc (.cells #[.int .i64 x.f0, .int .i64 x.f1, .slice A5 x.f2.length c5] 28)).drew.cell? ⟨g, n * 3, none⟩ = some (.int .i64 x.f0) ∧ (w1.alloc (.cells #[.int .i64 x.f0, .int .i64 x.f1, .slice A5 x.f2.length c5] 28)).drew.cell? ⟨g, n * 3 + 1, none⟩ = some (.int .i64 x.f1) ∧ (w1.alloc (.cells #[.int .i64 x.f0, .int .i64 x.f1, .slice A5 x.f2.length c5] 28)).drew.cell? ⟨g, n * 3 + 2, none⟩ = some (.slice A2 x.f2.length c2) ∧ (w1.alloc (.cells #[.int .i64 x.f0, .int .i64 x.f1, .slice A5 x.f2.length c5] 28)).drew.cell? ⟨w1.heap.size, 0, none⟩ = some (.int .i64 x.f0) ∧ (w1.alloc (.cells #[.int .i64 x.f0, .int .i64 x.f1, .slice A5 x.f2.length c5] 28)).drew.cell? ⟨w1.heap.size, 1, none⟩ = some (.int .i64 x.f1) ∧ (w1.alloc (.cells #[.int .i64 x.f0, .int .i64 x.f1, .slice A5 x.f2.length c5] 28)).drew.cell? ⟨w1.heap.size, 2, none⟩ = some (.slice A5 x.f2.length c5) from ⟨qRd 0, z0, z1, z2, q14d 0, q14d 1, q14d 2⟩); have HE := Lib.hid (And.intro hba.drew (And.intro (blk_drew h14) (And.intro (Kd.R_drew (Kd.R_alloc hR (.cells #[.int .i64 x.f0, .int .i64 x.f1, .slice A5 x.f2.length c5] 28))) (Kd.R_below HR.out.2.2.1 hbd.drew)))); clear hR hb1 hba hbd h14 qr qRd z0 z1 z2 q14d)
        | go_in)
      go_region_held3 (fun w' => w'.cell? ⟨R, 0, none⟩ = some (.slice (some ⟨g, 0, none⟩) ps.length c) ∧ w'.cell? ⟨g, n * 3, none⟩ = some (.int .i64 x.f0) ∧ w'.cell? ⟨g, n * 3 + 1, none⟩ = some (.int .i64 x.f1) ∧ w'.cell? ⟨g, n * 3 + 2, none⟩ = some (.slice A2 x.f2.length c2) ∧ w'.cell? ⟨w1.heap.size, 0, none⟩ = some (.int .i64 x.f0) ∧ w'.cell? ⟨w1.heap.size, 1, none⟩ = some (.int .i64 x.f1) ∧ w'.cell? ⟨w1.heap.size, 2, none⟩ = some (.slice A5 x.f2.length c5)) (first | exact HSW.out | exact HSW2.out) (first | (go_at_call 15; refine (same15 x.f0 x.f1 A5 c5 A2 c2 x.f2 _ (Kd.R_reads' HE.out.2.2.1).2.2 (Kd.R_reads' HE.out.2.2.1).2.1 (Kd.R_reads' HE.out.2.2.2).2.2 (Kd.R_reads' HE.out.2.2.2).2.1 HR.out.2.2.2.1).mono ?_; rintro e w2 ⟨rfl, hb2⟩; have HF := Lib.hid (And.intro (below_step HE.out.1 hb2) (And.intro (blk_below HE.out.2.1 hb2) (Kd.R_below HE.out.2.2.1 hb2))); have HSW2 := Lib.hid (And.intro (cell_up hb2 HSW.out.1) (And.intro (cell_up hb2 HSW.out.2.1) (And.intro (cell_up hb2 HSW.out.2.2.1) (And.intro (cell_up hb2 HSW.out.2.2.2.1) (And.intro (cell_up hb2 HSW.out.2.2.2.2.1) (And.intro (cell_up hb2 HSW.out.2.2.2.2.2.1) (cell_up hb2 HSW.out.2.2.2.2.2.2))))))); clear hb2))
      go_wp2
      obtain ⟨gb, hgb, hRb⟩ := fresh_body rfl HF.out.2.2
      try subst hw
      refine pl_run HF.out.2.1 rfl HR.out.2.2.2.1 hRb HF.out.1 hgb ?_
      intro u16 u169 u170 u171 u172 u173 u174 u175 u176 u177 u178 u179 W hbW
      have HW := Lib.hid (below_step HR.out.1 hbW)
      clear hbW hRb hgb HF
      go_wp2
      exact ⟨⟨n + 1, hlt, by rw [hjj.out], HW.out⟩, by rw [hjj.out]; simp only [intOf]; omega⟩
    obtain rfl : n = ps.length := by omega
    have hcd := eq_false (show ¬ (ps.length : Int) < ps.length by omega)
    have HE : Hid (After w0 N M R k wr) := ⟨_, _, _, _, _, _, _, hBr, HX.out.2.1, HX.out.2.2.1, below_step HX.out.2.2.2 hbw⟩
    clear hBr hbw hn hge
    go_wp2
    exact HE.out

set_option maxRecDepth 1000000 in
set_option maxHeartbeats 8000000 in
theorem tail_run {w0 w : World} {N M R k : Nat} (hA : After w0 N M R k w)
    {K : Act → World → Prop} {s0 s1 s2 s5 s6 s7 s8 s9 s10 s11 s12 s13 s14 s15 s16 s17 s18 s19 s20 s21 s22 s23 s24 s25 s26 s27 s28 s29 s30 s31 s32 s33 s34 s35 s36 s37 s38 s39 s40 s41 s42 s43 s44 s45 s46 s47 s48 s49 s50 s51 s52 s53 s54 s55 s56 s57 s58 s59 s60 s61 s62 s63 s64 s65 s66 s67 s68 s69 s70 s71 s72 s73 s74 s75 s76 s77 s78 s79 s80 s81 s82 s83 s84 s85 s86 s87 s88 s89 s90 s91 s92 s93 s94 s95 s96 s97 s98 s99 s100 s101 s102 s103 s104 s105 s106 s107 s108 s109 s110 s111 s112 s113 s114 s115 s116 s117 s118 s119 s120 s121 s122 s123 s124 s125 s126 s127 s128 s129 s130 s131 s132 s133 s134 s135 s136 s137 s138 s139 s140 s141 s142 s143 s144 s145 s146 s147 s148 s149 s150 s151 s152 s153 s154 s155 s156 s157 s158 s159 s160 s161 s162 s163 s164 s165 s166 s167 s168 s169 s170 s171 s172 s173 s174 s175 s176 s177 s178 s179 s180 : Value}
    (hK : ∀ (u2 u13 u14 u15 u16 u132 u133 u134 u135 u136 u137 u138 u139 u140 u141 u142 u143 u144 u145 u146 u147 u148 u149 u150 u151 u152 u153 u154 u155 u156 u157 u158 u159 u160 u161 u162 u163 u164 u165 u166 u167 u168 u169 u170 u171 u172 u173 u174 u175 u176 u177 u178 u179 : Value) (W : World), After w0 N M R k W → K ⟨#[s0, s1, u2, .pointer (some ⟨N, 0, none⟩), .pointer (some ⟨R, 0, none⟩), s5, s6, s7, s8, s9, s10, s11, s12, u13, u14, u15, u16, s17, s18, s19, s20, s21, s22, s23, s24, s25, s26, s27, s28, s29, s30, s31, s32, s33, s34, s35, s36, s37, s38, s39, s40, s41, s42, s43, s44, s45, s46, s47, s48, s49, s50, s51, s52, s53, s54, s55, s56, s57, s58, s59, s60, s61, s62, s63, s64, s65, s66, s67, s68, s69, s70, s71, s72, s73, s74, s75, s76, s77, s78, s79, s80, s81, s82, s83, s84, s85, s86, s87, s88, s89, s90, s91, s92, s93, s94, s95, s96, s97, s98, s99, s100, s101, s102, s103, s104, s105, s106, s107, s108, s109, s110, s111, s112, s113, s114, s115, s116, s117, s118, s119, s120, s121, s122, s123, s124, s125, s126, s127, s128, s129, s130, s131, u132, u133, u134, u135, u136, u137, u138, u139, u140, u141, u142, u143, u144, u145, u146, u147, u148, u149, u150, u151, u152, u153, u154, u155, u156, u157, u158, u159, u160, u161, u162, u163, u164, u165, u166, u167, u168, u169, u170, u171, u172, u173, u174, u175, u176, u177, u178, u179, s180], []⟩ W) :
    Code.wp Try.prog tl7 (Exit.then K (fun _ _ _ => False)) ⟨#[s0, s1, s2, .pointer (some ⟨N, 0, none⟩), .pointer (some ⟨R, 0, none⟩), s5, s6, s7, s8, s9, s10, s11, s12, s13, s14, s15, s16, s17, s18, s19, s20, s21, s22, s23, s24, s25, s26, s27, s28, s29, s30, s31, s32, s33, s34, s35, s36, s37, s38, s39, s40, s41, s42, s43, s44, s45, s46, s47, s48, s49, s50, s51, s52, s53, s54, s55, s56, s57, s58, s59, s60, s61, s62, s63, s64, s65, s66, s67, s68, s69, s70, s71, s72, s73, s74, s75, s76, s77, s78, s79, s80, s81, s82, s83, s84, s85, s86, s87, s88, s89, s90, s91, s92, s93, s94, s95, s96, s97, s98, s99, s100, s101, s102, s103, s104, s105, s106, s107, s108, s109, s110, s111, s112, s113, s114, s115, s116, s117, s118, s119, s120, s121, s122, s123, s124, s125, s126, s127, s128, s129, s130, s131, s132, s133, s134, s135, s136, s137, s138, s139, s140, s141, s142, s143, s144, s145, s146, s147, s148, s149, s150, s151, s152, s153, s154, s155, s156, s157, s158, s159, s160, s161, s162, s163, s164, s165, s166, s167, s168, s169, s170, s171, s172, s173, s174, s175, s176, s177, s178, s179, s180], []⟩ w := by
  obtain ⟨v, lv, cv, ps, cs, D, m, hB, hm, hcs, hb⟩ := hA
  have hBd := hB.below ((Below.refl w.heap.size w).drew)
  obtain ⟨A, c, rfl⟩ := hB.ref.form
  have q := blk_cell hB.ref.cell
  have qd := blk_cell hBd.ref.cell
  have HX := Lib.hid (And.intro hBd (And.intro hm (And.intro hcs hb.drew)))
  clear hB hBd hm hcs hb
  have hpl : tlp7 = tlp7 := rfl
  conv at hpl => lhs; whnf
  conv => arg 2; whnf
  obtain ⟨pl, hw⟩ : ∃ c, c = tlp7 := ⟨_, rfl⟩
  rw [← hw] at hpl
  rw [hpl]
  clear hpl
  go_wp2
  go_region_law (first
    | (go_simp; refine (count_calls HX.out.1.net).mono ?_; rintro e w1 ⟨rfl, rfl⟩))
  all_goals
    go_wp2
    try subst hw
    refine tlp_run (k := k) ⟨_, _, _, _, _, _, _, HX.out.1, HX.out.2.1, HX.out.2.2.1, HX.out.2.2.2⟩ ?_
    intro u2 u13 u14 u15 u16 u140 u141 u142 u143 u144 u145 u146 u147 u148 u149 u150 u151 u152 u153 u154 u155 u156 u157 u158 u159 u160 u161 u162 u163 u164 u165 u166 u167 u168 u169 u170 u171 u172 u173 u174 u175 u176 u177 u178 u179 W hW
    exact hK _ _ _ _ _ _ _ _ _ _ _ _ _ _ _ _ _ _ _ _ _ _ _ _ _ _ _ _ _ _ _ _ _ _ _ _ _ _ _ _ _ _ _ _ _ _ _ _ _ _ _ _ _ W hW
end Go.Proofs.Ytalaghkpbdaonaa

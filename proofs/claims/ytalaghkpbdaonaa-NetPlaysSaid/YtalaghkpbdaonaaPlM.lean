/- NetPlays: its code in parts, and the loops that write. No conditions. -/
import Derived.Test.YtalaghkpbdaonaaBothM
import Derived.Test.YtalaghkpbdaonaaOpenO
namespace Go.Proofs.Ytalaghkpbdaonaa
open Go Go.RowKit H Go.Proofs.YtalaghkpbdaonaaW.PrintWords Strict

def seqL : Code → Code
  | .seq a _ => a
  | c => c
def seqR : Code → Code
  | .seq _ b => b
  | c => c
def blkC : Code → Code
  | .block _ c => c
  | c => c
def loopC : Code → Code
  | .loop c => c
  | c => c
def condL : Code → Code
  | .cond _ a _ => a
  | c => c

noncomputable def code7 : Code := Try.f7.body.getD .skip
/-- The body of the loop over the script. -/
noncomputable def round7 : Code := loopC (blkC (seqR (seqL (seqR (seqR (seqR code7))))))
noncomputable def swtl7 : Code := seqR (blkC (seqL (seqR (seqR round7))))
/-- The switch. -/
noncomputable def sw7 : Code := seqL swtl7
/-- What stands behind it. -/
noncomputable def tl7 : Code := seqR swtl7
/-- The loop that writes the packet that was sent. -/
noncomputable def wl7 : Code := seqR (seqR (condL (seqR (blkC (seqR sw7)))))

end Go.Proofs.Ytalaghkpbdaonaa

namespace Go.Proofs.Ytalaghkpbdaonaa
open Go Go.RowKit H Go.Proofs.YtalaghkpbdaonaaW.PrintWords Strict

/-- What the loop over a body keeps: all but the body. -/
def WriteRel (w0 w : World) (gb bb : Nat) (A : Option Addr) (n c : Nat) (i : Value) (wr : World) : Prop :=
  ∃ (j : Nat) (xs : List Int), j ≤ n ∧ i = .int .i64 j ∧ xs.length = n ∧ (Kd.int .u8).R 5 wr bb (fun k => k = gb) (.slice A n c) xs ∧ (∀ k, k < w.heap.size → k ≠ gb → wr.heap[k]? = w.heap[k]?) ∧ Below w0.heap.size w0 wr ∧ (n = 0 → wr = w)

theorem WriteRel.step {w0 w wr : World} {gb bb n c j : Nat} {xs : List Int} (u : Int) (hn : xs.length = n) (hj : j < n) (hz : n < 140737488355328) (hR : (Kd.int .u8).R 5 wr bb (fun k => k = gb) (.slice (some ⟨gb, 0, none⟩) n c) xs) (hk : ∀ k, k < w.heap.size → k ≠ gb → wr.heap[k]? = w.heap[k]?) (hB : Below w0.heap.size w0 wr) (hgb : w0.heap.size ≤ gb) :
    WriteRel w0 w gb bb (some ⟨gb, 0, none⟩) n c (.int .i64 (wrap64 ((j : Int) + 1))) (wr.setCell ⟨gb, j, none⟩ (.int .u8 u)) ∧ n - (intOf (.int .i64 (wrap64 ((j : Int) + 1)))).toNat < n - (intOf (.int .i64 (j : Int))).toNat := by
  have e : wrap64 ((j : Int) + 1) = ((j + 1 : Nat) : Int) := by unfold wrap64; omega
  rw [e]
  subst hn
  have hp := (Kd.R_put (xs := xs) hR (j : Int) u).1
  rw [Int.toNat_natCast] at hp
  refine ⟨⟨j + 1, _, hj, rfl, by rw [List.length_set], hp, fun k h1 h2 => ?_, hB.setCell hgb _, fun e => by omega⟩, by simp only [intOf]; omega⟩
  rw [Below.heap_setCell _ _ _ _ h2]
  exact hk k h1 h2

set_option maxRecDepth 1000000 in
set_option maxHeartbeats 8000000 in
theorem wl_run {w0 w : World} {base N M R gb g7 bb c n m : Nat} {f0 f1 : Int} {A : Option Addr} {v lv cv : Value} {ps : List S28} {cs : List (Int × Int)} {D : DataW Unit} {xs : List Int} (hB : Both w base N M R v lv cv ps cs D m) (hF : Free w base gb v ps) (hRF : RefFree w base gb lv ps)
    (h7 : w.heap[g7]? = some (.cells #[.int .i64 f0, .int .i64 f1, .slice A n c] 28 (0, 0))) (hn : xs.length = n) (hz : n < 140737488355328) (hR : (Kd.int .u8).R 5 w bb (fun k => k = gb) (.slice A n c) xs) (hb : Below w0.heap.size w0 w) (hgb : w0.heap.size ≤ gb)
    {Q : Exit → Act → World → Prop} {s0 s1 s2 s3 s4 s5 s6 s8 s9 s10 s11 s12 s13 s14 s15 s16 s17 s18 s19 s20 s21 s22 s23 s24 s25 s26 s27 s28 s29 s30 s31 s32 s33 s34 s35 s36 s37 s38 s39 s40 s41 s42 s43 s44 s45 s46 s47 s48 s49 s50 s51 s52 s53 s54 s55 s56 s57 s58 s59 s60 s61 s62 s63 s64 s65 s66 s67 s68 s69 s70 s71 s72 s73 s74 s75 s76 s77 s78 s79 s80 s81 s82 s83 s84 s85 s86 s87 s88 s89 s90 s91 s92 s93 s94 s95 s96 s97 s98 s99 s100 s101 s102 s103 s104 s105 s106 s107 s108 s109 s110 s111 s112 s113 s114 s115 s116 s117 s118 s119 s120 s121 s122 s123 s124 s125 s126 s127 s128 s129 s130 s131 s132 s133 s134 s135 s136 s137 s138 s139 s140 s141 s142 s143 s144 s145 s146 s147 s148 s149 s150 s151 s152 s153 s154 s155 s156 s157 s158 s159 s160 s161 s162 s163 s164 s165 s166 s167 s168 s169 s170 s171 s172 s173 s174 s175 s176 s177 s178 s179 s180 : Value}
    (hK : ∀ (u8 u60 u61 u62 u63 u64 u65 u66 u67 u68 u69 u70 : Value) (W : World), Both W base N M R v lv cv ps cs D m → Below w0.heap.size w0 W → Q .normal ⟨#[s0, s1, s2, s3, s4, s5, s6, .pointer (some ⟨g7, 0, none⟩), u8, s9, s10, s11, s12, s13, s14, s15, s16, s17, s18, s19, s20, s21, s22, s23, s24, s25, s26, s27, s28, s29, s30, s31, s32, s33, s34, s35, s36, s37, s38, s39, s40, s41, s42, s43, s44, s45, s46, s47, s48, s49, s50, s51, s52, s53, s54, s55, s56, s57, s58, s59, u60, u61, u62, u63, u64, u65, u66, u67, u68, u69, u70, s71, s72, s73, s74, s75, s76, s77, s78, s79, s80, s81, s82, s83, s84, s85, s86, s87, s88, s89, s90, s91, s92, s93, s94, s95, s96, s97, s98, s99, s100, s101, s102, s103, s104, s105, s106, s107, s108, s109, s110, s111, s112, s113, s114, s115, s116, s117, s118, s119, s120, s121, s122, s123, s124, s125, s126, s127, s128, s129, s130, s131, s132, s133, s134, s135, s136, s137, s138, s139, s140, s141, s142, s143, s144, s145, s146, s147, s148, s149, s150, s151, s152, s153, s154, s155, s156, s157, s158, s159, s160, s161, s162, s163, s164, s165, s166, s167, s168, s169, s170, s171, s172, s173, s174, s175, s176, s177, s178, s179, s180], []⟩ W) :
    Code.wp Try.prog wl7 Q ⟨#[s0, s1, s2, s3, s4, s5, s6, .pointer (some ⟨g7, 0, none⟩), s8, s9, s10, s11, s12, s13, s14, s15, s16, s17, s18, s19, s20, s21, s22, s23, s24, s25, s26, s27, s28, s29, s30, s31, s32, s33, s34, s35, s36, s37, s38, s39, s40, s41, s42, s43, s44, s45, s46, s47, s48, s49, s50, s51, s52, s53, s54, s55, s56, s57, s58, s59, s60, s61, s62, s63, s64, s65, s66, s67, s68, s69, s70, s71, s72, s73, s74, s75, s76, s77, s78, s79, s80, s81, s82, s83, s84, s85, s86, s87, s88, s89, s90, s91, s92, s93, s94, s95, s96, s97, s98, s99, s100, s101, s102, s103, s104, s105, s106, s107, s108, s109, s110, s111, s112, s113, s114, s115, s116, s117, s118, s119, s120, s121, s122, s123, s124, s125, s126, s127, s128, s129, s130, s131, s132, s133, s134, s135, s136, s137, s138, s139, s140, s141, s142, s143, s144, s145, s146, s147, s148, s149, s150, s151, s152, s153, s154, s155, s156, s157, s158, s159, s160, s161, s162, s163, s164, s165, s166, s167, s168, s169, s170, s171, s172, s173, s174, s175, s176, s177, s178, s179, s180], []⟩ w := by
  have HX := Lib.hid (And.intro hB (And.intro hF (And.intro hRF (And.intro h7 (And.intro hR (And.intro hb (And.intro hgb (And.intro hn hz))))))))
  have q7 := blk_cell h7
  clear hB hF hRF h7 hR hb hgb hn hz
  conv => arg 2; whnf
  go_wp2
  go_loopw [63] (fun i wr => WriteRel w0 w gb bb A n c i wr) (fun i _ => n - (intOf i).toNat)
  case atStart => exact ⟨0, xs, Nat.zero_le _, rfl, HX.out.2.2.2.2.2.2.2.1, HX.out.2.2.2.2.1, fun _ _ _ => rfl, HX.out.2.2.2.2.2.1, fun _ => rfl⟩
  case round =>
    obtain ⟨j, ys, hj, rfl, hn, hR, hk, hB, h0⟩ := hrel
    have hz := HX.out.2.2.2.2.2.2.2.2
    rcases Nat.lt_or_ge j n with hlt | hge
    · obtain ⟨g, cap, he, _, _, cells0, hc0⟩ := Kd.R_form HX.out.2.2.2.2.1 (by have := HX.out.2.2.2.2.2.2.2.1; omega)
      injection he with he1 _ he3
      subst he1 he3
      obtain rfl : g = gb := hR.1 g rfl
      obtain ⟨x0, f0'⟩ := Kd.R_cell (0 : Int) (by rw [hn]; exact hR) (j : Int) (by omega) (by omega)
      rw [Int.toNat_natCast] at x0 f0'
      have q := blk_cell ((hk g7 (blk_lt HX.out.2.2.2.1) (ty_ne HX.out.2.2.2.1 hc0 (by decide))).trans HX.out.2.2.2.1)
      have HE := Lib.hid (WriteRel.step 1 hn hlt hz hR hk hB HX.out.2.2.2.2.2.2.1)
      have hd := eq_true (show (j : Int) < n by omega)
      clear hR hk hB h0 hc0 hn hj hz q7
      go_wp2
      exact HE.out
    · obtain rfl : j = n := by omega
      have hd := eq_false (show ¬ (j : Int) < j by omega)
      have HE : Hid (Both wr base N M R v lv cv ps cs D m ∧ Below w0.heap.size w0 wr) := by
        refine ⟨?_, hB⟩
        rcases Nat.eq_zero_or_pos j with e | e
        · rw [h0 e]
          exact HX.out.1
        · obtain ⟨g, cap, he, _, _, cells0, hc0⟩ := Kd.R_form HX.out.2.2.2.2.1 (by have := HX.out.2.2.2.2.2.2.2.1; omega)
          injection he with he1 _ he3
          subst he1 he3
          obtain rfl : g = gb := hR.1 g rfl
          exact HX.out.1.write HX.out.2.1 HX.out.2.2.1 hc0 hk
      clear hR hk hB h0 hn hj hz q7 hge
      go_wp2
      exact hK _ _ _ _ _ _ _ _ _ _ _ _ _ HE.out.1 HE.out.2
end Go.Proofs.Ytalaghkpbdaonaa

namespace Go.Proofs.Ytalaghkpbdaonaa
open Go Go.RowKit H Go.Proofs.YtalaghkpbdaonaaW.PrintWords Strict

/-- The loop that writes the packet that was peeked. -/
noncomputable def pl7 : Code := seqR (seqR (blkC (seqL (seqR (loopC (blkC (seqR (seqR tl7))))))))

set_option maxRecDepth 1000000 in
set_option maxHeartbeats 8000000 in
theorem pl_run {ws w : World} {gb g14 bb c n : Nat} {f0 f1 : Int} {A : Option Addr} {xs : List Int}
    (h14 : w.heap[g14]? = some (.cells #[.int .i64 f0, .int .i64 f1, .slice A n c] 28 (0, 0))) (hn : xs.length = n) (hz : n < 140737488355328) (hR : (Kd.int .u8).R 5 w bb (fun k => k = gb) (.slice A n c) xs) (hb : Below ws.heap.size ws w) (hgb : ws.heap.size ≤ gb)
    {Q : Exit → Act → World → Prop} {s0 s1 s2 s3 s4 s5 s6 s7 s8 s9 s10 s11 s12 s13 s15 s16 s17 s18 s19 s20 s21 s22 s23 s24 s25 s26 s27 s28 s29 s30 s31 s32 s33 s34 s35 s36 s37 s38 s39 s40 s41 s42 s43 s44 s45 s46 s47 s48 s49 s50 s51 s52 s53 s54 s55 s56 s57 s58 s59 s60 s61 s62 s63 s64 s65 s66 s67 s68 s69 s70 s71 s72 s73 s74 s75 s76 s77 s78 s79 s80 s81 s82 s83 s84 s85 s86 s87 s88 s89 s90 s91 s92 s93 s94 s95 s96 s97 s98 s99 s100 s101 s102 s103 s104 s105 s106 s107 s108 s109 s110 s111 s112 s113 s114 s115 s116 s117 s118 s119 s120 s121 s122 s123 s124 s125 s126 s127 s128 s129 s130 s131 s132 s133 s134 s135 s136 s137 s138 s139 s140 s141 s142 s143 s144 s145 s146 s147 s148 s149 s150 s151 s152 s153 s154 s155 s156 s157 s158 s159 s160 s161 s162 s163 s164 s165 s166 s167 s168 s169 s170 s171 s172 s173 s174 s175 s176 s177 s178 s179 s180 : Value}
    (hK : ∀ (u16 u169 u170 u171 u172 u173 u174 u175 u176 u177 u178 u179 : Value) (W : World), Below ws.heap.size ws W → Q .normal ⟨#[s0, s1, s2, s3, s4, s5, s6, s7, s8, s9, s10, s11, s12, s13, .pointer (some ⟨g14, 0, none⟩), s15, u16, s17, s18, s19, s20, s21, s22, s23, s24, s25, s26, s27, s28, s29, s30, s31, s32, s33, s34, s35, s36, s37, s38, s39, s40, s41, s42, s43, s44, s45, s46, s47, s48, s49, s50, s51, s52, s53, s54, s55, s56, s57, s58, s59, s60, s61, s62, s63, s64, s65, s66, s67, s68, s69, s70, s71, s72, s73, s74, s75, s76, s77, s78, s79, s80, s81, s82, s83, s84, s85, s86, s87, s88, s89, s90, s91, s92, s93, s94, s95, s96, s97, s98, s99, s100, s101, s102, s103, s104, s105, s106, s107, s108, s109, s110, s111, s112, s113, s114, s115, s116, s117, s118, s119, s120, s121, s122, s123, s124, s125, s126, s127, s128, s129, s130, s131, s132, s133, s134, s135, s136, s137, s138, s139, s140, s141, s142, s143, s144, s145, s146, s147, s148, s149, s150, s151, s152, s153, s154, s155, s156, s157, s158, s159, s160, s161, s162, s163, s164, s165, s166, s167, s168, u169, u170, u171, u172, u173, u174, u175, u176, u177, u178, u179, s180], []⟩ W) :
    Code.wp Try.prog pl7 Q ⟨#[s0, s1, s2, s3, s4, s5, s6, s7, s8, s9, s10, s11, s12, s13, .pointer (some ⟨g14, 0, none⟩), s15, s16, s17, s18, s19, s20, s21, s22, s23, s24, s25, s26, s27, s28, s29, s30, s31, s32, s33, s34, s35, s36, s37, s38, s39, s40, s41, s42, s43, s44, s45, s46, s47, s48, s49, s50, s51, s52, s53, s54, s55, s56, s57, s58, s59, s60, s61, s62, s63, s64, s65, s66, s67, s68, s69, s70, s71, s72, s73, s74, s75, s76, s77, s78, s79, s80, s81, s82, s83, s84, s85, s86, s87, s88, s89, s90, s91, s92, s93, s94, s95, s96, s97, s98, s99, s100, s101, s102, s103, s104, s105, s106, s107, s108, s109, s110, s111, s112, s113, s114, s115, s116, s117, s118, s119, s120, s121, s122, s123, s124, s125, s126, s127, s128, s129, s130, s131, s132, s133, s134, s135, s136, s137, s138, s139, s140, s141, s142, s143, s144, s145, s146, s147, s148, s149, s150, s151, s152, s153, s154, s155, s156, s157, s158, s159, s160, s161, s162, s163, s164, s165, s166, s167, s168, s169, s170, s171, s172, s173, s174, s175, s176, s177, s178, s179, s180], []⟩ w := by
  have HX := Lib.hid (And.intro h14 (And.intro hR (And.intro hb (And.intro hgb (And.intro hn hz)))))
  have q7 := blk_cell h14
  clear h14 hR hb hgb hn hz
  conv => arg 2; whnf
  go_wp2
  go_loopw [172] (fun i wr => WriteRel ws w gb bb A n c i wr) (fun i _ => n - (intOf i).toNat)
  case atStart => exact ⟨0, xs, Nat.zero_le _, rfl, HX.out.2.2.2.2.1, HX.out.2.1, fun _ _ _ => rfl, HX.out.2.2.1, fun _ => rfl⟩
  case round =>
    obtain ⟨j, ys, hj, rfl, hn, hR, hk, hB, h0⟩ := hrel
    have hz := HX.out.2.2.2.2.2
    rcases Nat.lt_or_ge j n with hlt | hge
    · obtain ⟨g, cap, he, _, _, cells0, hc0⟩ := Kd.R_form HX.out.2.1 (by have := HX.out.2.2.2.2.1; omega)
      injection he with he1 _ he3
      subst he1 he3
      obtain rfl : g = gb := hR.1 g rfl
      obtain ⟨x0, f0'⟩ := Kd.R_cell (0 : Int) (by rw [hn]; exact hR) (j : Int) (by omega) (by omega)
      rw [Int.toNat_natCast] at x0 f0'
      have q := blk_cell ((hk g14 (blk_lt HX.out.1) (ty_ne HX.out.1 hc0 (by decide))).trans HX.out.1)
      have HE := Lib.hid (WriteRel.step 2 hn hlt hz hR hk hB HX.out.2.2.2.1)
      have hd := eq_true (show (j : Int) < n by omega)
      clear hR hk hB h0 hc0 hn hj hz q7
      go_wp2
      exact HE.out
    · obtain rfl : j = n := by omega
      have hd := eq_false (show ¬ (j : Int) < j by omega)
      have HE := Lib.hid hB
      clear hR hk hB h0 hn hj hz q7 hge
      go_wp2
      exact HE.out
end Go.Proofs.Ytalaghkpbdaonaa

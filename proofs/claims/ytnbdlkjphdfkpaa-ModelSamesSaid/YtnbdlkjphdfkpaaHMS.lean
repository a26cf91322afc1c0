/- slices.EqualFunc over values, and model.Same: what they compute. No conditions. -/
import Derived.Test.YtnbdlkjphdfkpaaH26
import Derived.Test.YtnbdlkjphdfkpaaP3
namespace Go.Proofs.Ytnbdlkjphdfkpaa
open Go Go.RowKit H Go.Proofs.YtnbdlkjphdfkpaaW.PrintWords Go.Proofs.YtnbdlkjphdfkpaaW.PrintMore

theorem eq26_loop (a b : List Int) (he : a.length = b.length) (hn : a.length ≤ 9223372036854775807) (d : Nat) : ∀ i : Nat, i + d = a.length → Ev (fun k => slices_Equal_byte_byte.l0 k a b a.length i) (a.drop i == b.drop i) := by
  induction d with
  | zero =>
    intro i hi
    refine Ev.step (f := fun _ => some (a.drop i == b.drop i)) (fun k => ?_) (Ev.now _)
    simp only [slices_Equal_byte_byte.l0]
    rw [if_neg (by omega), List.drop_eq_nil_of_le (by omega), List.drop_eq_nil_of_le (by omega)]
    rfl
  | succ d ih =>
    intro i hi
    have ha : i < a.length := by omega
    have hb : i < b.length := by omega
    rw [List.drop_eq_getElem_cons ha, List.drop_eq_getElem_cons hb]
    by_cases hab : a[i] = b[i]
    · have e : (a[i] :: a.drop (i + 1) == b[i] :: b.drop (i + 1)) = (a.drop (i + 1) == b.drop (i + 1)) := by show (a[i] == b[i] && (a.drop (i + 1) == b.drop (i + 1))) = _; rw [beq_iff_eq.mpr hab, Bool.true_and]
      rw [e]
      refine Ev.step (fun k => ?_) (ih (i + 1) (by omega))
      simp only [slices_Equal_byte_byte.l0]
      first
        | rw [if_pos (by omega), if_pos (by omega), if_pos (by omega), if_pos (by omega), rd_at ha, rd_at hb, if_pos hab, wrap_next ha hn]
        | rw [if_pos (by omega), if_pos (by omega), if_pos (by omega), rd_at ha, rd_at hb, if_pos hab, wrap_next ha hn]
    · have e : (a[i] :: a.drop (i + 1) == b[i] :: b.drop (i + 1)) = false := by show (a[i] == b[i] && (a.drop (i + 1) == b.drop (i + 1))) = _; rw [beq_eq_false_iff_ne.mpr hab, Bool.false_and]
      rw [e]
      refine Ev.step (f := fun _ => some false) (fun k => ?_) (Ev.now _)
      simp only [slices_Equal_byte_byte.l0]
      first
        | rw [if_pos (by omega), if_pos (by omega), if_pos (by omega), if_pos (by omega), rd_at ha, rd_at hb, if_neg hab]
        | rw [if_pos (by omega), if_pos (by omega), if_pos (by omega), rd_at ha, rd_at hb, if_neg hab]

theorem eq26_ev (a b : List Int) (hn : a.length ≤ 9223372036854775807) : ∃ k, slices_Equal_byte_byte.f k a b = some (a == b) := by
  by_cases he : a.length = b.length
  · refine Ev.rounds (Ev.congr (fun k => ?_) (eq26_loop a b he hn a.length 0 (by omega)))
    unfold slices_Equal_byte_byte.f
    rw [if_pos (by omega)]
    rfl
  · refine ⟨0, ?_⟩
    unfold slices_Equal_byte_byte.f
    rw [if_neg (by omega)]
    have : (a == b) = false := by
      rw [beq_eq_false_iff_ne]
      intro e
      exact he (by rw [e])
    rw [this]

theorem take_next {α : Type} [BEq α] [LawfulBEq α] (a b : List α) (k : Nat) (ha : k < a.length) (hb : k < b.length) (h : a.take k = b.take k) (hk : a[k] = b[k]) : a.take (k + 1) = b.take (k + 1) := by
  rw [List.take_succ_eq_append_getElem ha, List.take_succ_eq_append_getElem hb, h, hk]

set_option maxRecDepth 100000 in
set_option maxHeartbeats 4000000 in
theorem equalFunc_walk (a b : List (List Int)) (A1 A2 : Option Addr) (c1 c2 : Nat) (w0 : World) (hr1 : Kd.C (Kd.slice 5 (Kd.int .u8)) w0 A1 a.length a) (hc1 : a.length ≤ c1) (hr2 : Kd.C (Kd.slice 5 (Kd.int .u8)) w0 A2 b.length b) (hc2 : b.length ≤ c2)
    (hn : a.length ≤ 5864062014805) (hin : ∀ v ∈ a, v.length < 140737488355328) :
    Calls Try.prog 25 #[.slice A1 a.length c1, .slice A2 b.length c2, .func (.func 26) #[] #[]] w0 fun e w' => e = .returned (.bool (a == b)) ∧ Below w0.heap.size w0 w' := by
  have HC1 := Lib.hid hr1
  have HC2 := Lib.hid hr2
  have HI := Lib.hid hin
  clear hr1 hr2 hin
  by_cases he : a.length = b.length
  · have hd : (a.length : Int) = b.length := by omega
    have hd1 : ((a.length : Int) != (b.length : Int)) = false := bne_eq_false_iff_eq.mpr hd
    have hd2 : ((a.length : Int) == (b.length : Int)) = true := beq_iff_eq.mpr hd
    have HE := Lib.hid he
    clear he hd
    go_enter Try.func25, Try.ntmps25
    go_wp2
    clear hd1 hd2
    go_loopw [17] (fun i wr => ∃ k : Nat, k ≤ a.length ∧ i = .int .i64 k ∧ a.take k = b.take k ∧ Below w0.heap.size w0 wr) (fun i _ => a.length - (intOf i).toNat)
    case atStart => exact ⟨0, Nat.zero_le _, rfl, rfl, Below.refl _ _⟩
    case round =>
      obtain ⟨k, hk, rfl, htk, hB⟩ := hrel
      by_cases hlt : k < a.length
      · have hlb : k < b.length := by have := HE.out; omega
        obtain ⟨ad1, A3, c3, rfl, x1, hl1, hi1⟩ := at_L1 HC1.out (k : Int) (by omega) (by omega)
        obtain ⟨ad2, A4, c4, rfl, x2, hl2, hi2⟩ := at_L1 HC2.out (k : Int) (by omega) (by omega)
        rw [rdL1_at hlt] at x1 hl1 hi1
        rw [rdL1_at hlb] at x2 hl2 hi2
        rw [Int.toNat_natCast] at x1 x2
        have hnx := Lib.hid (fun h => take_next a b k hlt hlb htk h)
        have hnn := Lib.hid (fun (h : ¬ a[k] = b[k]) (e : a = b) => h (by subst e; rfl))
        obtain ⟨kf, hkf⟩ := eq26_ev a[k] b[k] (by have := HI.out _ (List.getElem_mem hlt); omega)
        replace x1 := (hB.cell (World.block_lt_of_cell? w0 _ x1)).trans x1
        replace x2 := (hB.cell (World.block_lt_of_cell? w0 _ x2)).trans x2
        generalize a[k] = u at *
        generalize b[k] = v at *
        clear htk
        by_cases huv : u = v
        · have hf : (u == v) = true := beq_iff_eq.mpr huv
          rw [hf] at hkf
          have hnx2 := Lib.hid (hnx.out huv)
          clear huv hf hnx hnn
          go_wp2_with (first | (go_at_call 26; refine (slices_Equal_byte_byte.calls kf A3 c3 u A4 c4 v true _ (Kd.C_below hi1 hB) hl1 (Kd.C_below hi2 hB) hl2 hkf).mono ?_; rintro e w2 ⟨rfl, hdr⟩) | go_in)
          exact ⟨⟨k + 1, hlt, by first | rfl | go_num, hnx2.out, hB.trans (hdr.below.mono hB.size)⟩, by simp [intOf]; omega⟩
        · have hf : (u == v) = false := beq_eq_false_iff_ne.mpr huv
          rw [hf] at hkf
          have hab : (a == b) = false := beq_eq_false_iff_ne.mpr (hnn.out huv)
          clear hf hnn hnx huv
          go_wp2_with (first | (go_at_call 26; refine (slices_Equal_byte_byte.calls kf A3 c3 u A4 c4 v false _ (Kd.C_below hi1 hB) hl1 (Kd.C_below hi2 hB) hl2 hkf).mono ?_; rintro e w2 ⟨rfl, hdr⟩) | go_in)
          go_ret
          exact ⟨by rw [hab]; rfl, hB.trans (hdr.below.mono hB.size)⟩
      · obtain rfl : k = a.length := by omega
        have hab : (a == b) = true := beq_iff_eq.mpr (by have h1 := HE.out; rw [List.take_length, h1, List.take_length] at htk; exact htk)
        clear hlt hk
        go_wp2
        go_ret
        exact ⟨by rw [hab]; rfl, hB⟩
  · have hf : (a == b) = false := by
      rw [beq_eq_false_iff_ne]
      intro e
      exact he (by rw [e])
    have hd0 : ¬ (a.length : Int) = b.length := by omega
    have hd1 : ((a.length : Int) != (b.length : Int)) = true := bne_iff_ne.mpr hd0
    have hd2 : ((a.length : Int) == (b.length : Int)) = false := beq_eq_false_iff_ne.mpr hd0
    go_enter Try.func25, Try.ntmps25
    go_wp2
    go_ret
    exact ⟨by rw [hf]; rfl, Below.refl _ _⟩
end Go.Proofs.Ytnbdlkjphdfkpaa

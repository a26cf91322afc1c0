/- EpochsLeft: for every input it returns true, and the input reads as it did. No conditions. -/
import Derived.Test.YthiepdldliiakaaNest
import Derived.Test.YthiepdldliiakaaTail
import Derived.Test.YthiepdldliiakaaEnds
import Derived.Test.YthiepdldliiakaaCuts
import Derived.Test.YthiepdldliiakaaRise
import Derived.Maps.OwnIn
import Derived.WalkLawsBesides
import Derived.Sort.LoopGhostIn
import Derived.Outline
namespace Go.Proofs.Ythiepdldliiakaa
open Go Go.RowKit Go.Shelf

attribute [local go_sem] Oper.semAt_some

/-- A box with a row of its own: the epochs that have come. -/
def OneRow (n₀ : Nat) (W : World) (B : Nat) (pre : List (Int × Int)) : Prop :=
  ∃ v, Boxed W B 26 v ∧ W.ownsRow n₀ 3 1 v pre.length (pre.map fun x => .int .i64 x.1)

theorem onerow_own (n₀ B : Nat) : Own (fun pre W => OneRow n₀ W B pre) := by
  rintro s X Y row ⟨v, h, r⟩ hg hrow
  exact ⟨v, box_kept h hg hrow, row_kept r hg hrow⟩

/-- The outer loop has been left: by its break, or at pairs that the cache does not hold. -/
def Brk (W : World) (stop : Int) (xs : List (Int × Int)) (c : Code) (pre : List (Int × Int)) (W2 : World) : Prop :=
  ((c = .exit 4 ∧ (pre.length : Int) - 1 = stop) ∧ Boxed W2 W.heap.size 3 (.int .i64 stop) ∧ Below W.heap.size W W2) ∨ ¬ pre <+: xs

theorem brk_own {B : Nat} (W : World) (stop : Int) (xs : List (Int × Int)) (hB : W.heap.size ≤ B) (c : Code) : OwnFrom B (Brk W stop xs c) := by
  rintro s X Y row (⟨h1, h2, h3⟩ | h) hg hrow
  · exact .inl ⟨h1, box_kept h2 hg (fun r e => (hrow r e).2), ownFrom_below (β := Unit) (Nat.le_refl _) hB () X Y row h3 hg hrow⟩
  · exact .inr h

set_option maxRecDepth 100000 in
set_option maxHeartbeats 4000000 in
theorem left_walk (A : Option Addr) (c : Nat) (os : List OpD) (stop : Int) (w0 : World) (hos : IsOps w0 A os) (h24 : os.length * 24 ≤ 140737488351232) (hs0 : 0 ≤ stop) (hs1 : stop ≤ 255) :
    CallsIn Fence.wide 9 Try.prog 7 #[.slice A os.length c, .int .u8 stop] w0 fun e w' => e = .returned (.bool true) ∧ Below w0.heap.size w0 w' := by
  refine callsIn_of_wp_marks Try.func7 rfl trivial ?_ rfl
  simp only [Try.ntmps7, List.size_toArray, List.length_cons, List.length_nil, Nat.reduceAdd, Nat.reduceSub, Array.replicate_succ, Array.replicate_zero, List.push_toArray, List.append_toArray, List.nil_append, List.cons_append]
  have HO := Lib.hid hos
  clear hos
  obtain ⟨i0, hi, hz0, hz1, hz2⟩ := info_parts info3
  have b3 := Boxed.new w0 5 (.int .u8 stop)
  have b4 := Boxed.new (w0.alloc (.cells #[.int .u8 stop] 5)) 4 (.bool false)
  rw [World.size_alloc] at b4
  have b3' := b3.alloc (.cells #[.bool false] 4)
  have hbw : Below w0.heap.size w0 ((w0.alloc (.cells #[.int .u8 stop] 5)).alloc (.cells #[.bool false] 4)) := ((Below.refl _ _).alloc (Nat.le_refl _) _).alloc (by simp) _
  have hsz : ((w0.alloc (.cells #[.int .u8 stop] 5)).alloc (.cells #[.bool false] 4)).heap.size = w0.heap.size + 1 + 1 := by simp
  have HZ := Lib.hid hsz
  clear hsz b3
  gi_wp2_with (first | (refine ⟨trivial, ?_⟩; gi_at_call 9; refine (callsIn_wide.2 (new_at _)).mono ?_; rintro e w1 ⟨g, rfl, hc1, hf1, hg1⟩) | (refine ⟨trivial, ?_⟩; gi_at_call 10; refine (callsIn_wide.2 (awake_calls _)).mono ?_; rintro e w2 ⟨rfl, hf2⟩; have b5 : Boxed w2 w1.heap.size 23 _ := hf2.heap (Boxed.new w1 23 (.pointer (some ⟨g, 0, none⟩))) (fun x => x); have c5 := b5.cell))
  have hr2 : Ran ((w0.alloc (.cells #[.int .u8 stop] 5)).alloc (.cells #[.bool false] 4)) w2 g (.slice none 0 0) (assigns [] (os.take 0)) := ⟨hc1.fr (((Fr.refl (fun _ => False) w1).alloc _).trans hf2) (fun x => x) (fun _ _ x => x), (hf1.alloc _).trans hf2, hg1, by intro k hk; cases hk⟩
  have hB5 := hf1.size
  rw [HZ.out] at hB5
  generalize (w0.alloc (.cells #[.int .u8 stop] 5)).alloc (.cells #[.bool false] 4) = W1 at *
  generalize w1.heap.size = B5 at *
  clear hc1 hf2 hf1 hg1
  gi_loopw [24] (fun i wr => ∃ (k : Nat) (v : Value), k ≤ os.length ∧ i = .int .i64 k ∧ Ran W1 wr g v (assigns [] (os.take k)) ∧ Boxed wr B5 23 (.pointer (some ⟨g, 0, none⟩))) (fun i _ => os.length - (intOf i).toNat)
  case atStart => exact ⟨0, _, Nat.zero_le _, rfl, hr2, b5⟩
  case round =>
    obtain ⟨k, v, hk, rfl, hr, hb5⟩ := hrel
    clear hr2 b5 c5
    by_cases hlt : k < os.length
    · obtain ⟨ad, rfl, hop⟩ := HO.out k _ (List.getElem?_eq_getElem hlt)
      obtain ⟨k0, k1, k2, k3⟩ := (hop.below hbw).below hr.fr.box
      have hlen : (assigns [] (os.take k)).length < 8796093022200 := by
        have h1 := assigns_len [] (os.take k)
        rw [List.length_take] at h1
        simp only [List.length_nil] at h1
        omega
      have HT := Lib.hid (assigns_take os k _ (List.getElem?_eq_getElem hlt))
      generalize os[k] = o at *
      have hb5a := (hb5.alloc (.cells #[.int .i64 o.kind, .int .i64 o.epoch, .int .i64 o.at_] 31)).cell
      have c5 := hb5.cell
      gi_wp2_with (refine ⟨trivial, ?_⟩; gi_at_call 11; refine (callsIn_wide.2 (assign_calls g v _ _ _ _ (hr.alloc _).cache hlen)).mono ?_; rintro e w3 ⟨rfl, v3, hc3, hm3⟩)
      have hb53 : Boxed w3 B5 23 _ := hm3.keep (hr.alloc _).cache (hb5.alloc _) (by decide) (by decide)
      go_roundw
      case rel => exact ⟨k + 1, v3, by omega, by go_num, by rw [HT.out]; exact (hr.alloc _).moved hc3 hm3, hb53⟩
      case measure => simp [intOf]; omega
    · obtain rfl : k = os.length := by omega
      rw [List.take_length] at hr
      have hrise : Rise (assigns [] os) := rise_assigns rise_nil os (fun o ho => by
        obtain ⟨i, hi', rfl⟩ := List.getElem_of_mem ho
        obtain ⟨_, _, hop⟩ := HO.out i _ (List.getElem?_eq_getElem hi')
        exact hop.b1)
      have hlen := assigns_len [] os
      simp only [List.length_nil] at hlen
      generalize assigns [] os = xs at hr hrise hlen
      have HRx := Lib.hid hrise
      have c5 := hb5.cell
      have c5a := (hb5.alloc (.cells #[.slice none 0 0] 26)).cell
      have b35 : Boxed wr w0.heap.size 5 (.int .u8 stop) := hr.fr.heap b3' (fun x => x)
      have b45 : Boxed wr (w0.heap.size + 1) 4 (.bool false) := hr.fr.heap b4 (fun x => x)
      have hbase : Below w0.heap.size w0 wr := hbw.trans (hr.fr.box.mono (by rw [HZ.out]; omega))
      clear hlt hk hrise b3' b4 hbw
      gi_wp2_with (refine ⟨trivial, ?_⟩; gi_at_call 18; refine (all_in _ _ trivial rfl _ _).mono ?_; rintro e w' ⟨rfl, rfl⟩)
      have b8 := Boxed.new wr 26 (.slice none 0 0)
      have b9 := Boxed.new (wr.alloc (.cells #[.slice none 0 0] 26)) 23 (.pointer (some ⟨g, 0, none⟩))
      rw [World.size_alloc] at b9
      have hheld : Held wr.heap.size wr (some ⟨g, 0, none⟩) xs := .inr ⟨g, v, rfl, hr.cache, lt_of_block hr.cache.1, fun k hk => (hr.cache.2.lt k hk).2⟩
      refine rangeFunc_asg rfl (by decide) (gf := 21) (lb := #[.pointer (some ⟨wr.heap.size + 1, 0, none⟩)]) rfl trivial (enters_of Try.func21 (by kernel_rfl) rfl)
        (all_stops Fence.wide _ trivial rfl (by decide) (wr.heap.size + 1) wr.heap.size _ xs _ (by simp) (by simp; omega) b9.cell (hheld.below (by repeat (first | exact Below.refl _ _ | (refine Below.alloc ?_ (by simp <;> omega) _))))) (by simp; omega) (Below.refl _ _) (fun _ => rfl)
        (fun pre W => OneRow wr.heap.size W wr.heap.size pre ∧ Below wr.heap.size wr W) (fun _ _ _ => False)
        ?hI (fun _ _ _ _ _ h _ _ => h) ?h0 (asg1 9 37) ?hasg ?body ?done ?stop
      case hI => exact OwnFrom.and (Own.from (onerow_own _ _) _) (ownFrom_below (Nat.le_refl _) (by simp; omega))
      case h0 => exact ⟨⟨_, b8.alloc _, World.ownsRow_nil _ _ _ _⟩, by repeat (first | exact Below.refl _ _ | (refine Below.alloc ?_ (by simp <;> omega) _))⟩
      case hasg =>
        intro l a' W K hK
        gi_wp2
        exact hK
      case stop =>
        rintro D c pre W _ _ h _
        exact h.elim
      case body =>
        rintro l pre x W ⟨⟨v8, h8, r8⟩, hB⟩ hlt
        have hc8 := h8.cell
        have hz' := hB.size
        simp only [roundAct, asg1, encs]
        gi_wp2_with (gi_at_builtin; refine wpListIn_append_own_at _ rfl (.tmp 39) (.tmp 41) 26 rfl wr.heap.size 3 i0 (.int .i64 0) 1 8 Try.underlying26 hi hz0 hz1 hz2 rfl (by decide) _ _ _ rfl (r8.alloc _) ⟨W.heap.size, 0, none⟩ 1 1 [.int .i64 x.1] rfl rfl (cell_one_new _ _ _) (by simp [Value.oneCell']) (by unfold maxLen; omega) (by omega) (by simp; omega) ?_; intro v' w1 hown' hgrow _ _; obtain ⟨q1, q2, q3, q4, q5⟩ := h8.appended (by decide) r8 (by omega) (by omega) hown' hgrow; obtain ⟨g', c', rfl⟩ := ownsRow_succ hown'; have p1 := q1.cell; have p2 := q1.frozen)
        exact ⟨q4.from _, q5, ⟨_, q2, by simpa using q3⟩, hB.trans q5⟩
      case done =>
        rintro D ws W hD rfl ⟨⟨v8, h8, r8⟩, hB⟩ hK
        have hc : IsCache W g v ws := hr.cache.below hB (lt_of_block hr.cache.1) (fun k hk => (hr.cache.2.lt k hk).2)
        have hb5W : Boxed W B5 23 (.pointer (some ⟨g, 0, none⟩)) := (hB.block _ hb5.lt).trans hb5
        have hb3W : Boxed W w0.heap.size 5 (.int .u8 stop) := (hB.block _ b35.lt).trans b35
        have hb4W : Boxed W (w0.heap.size + 1) 4 (.bool false) := (hB.block _ b45.lt).trans b45
        have hBw := hbase.trans (hB.mono hbase.size)
        have hzW : D < W.heap.size := (Array.getElem?_eq_some_iff.1 hK).1
        clear hheld b8 b9 hb5 b35 b45 c5 c5a hbase
        have c5 := hb5W.cell
        have c5a := (hb5W.alloc (.cells #[.int .i64 0] 3)).cell
        gi_wp2_with (refine ⟨trivial, ?_⟩; gi_at_call 18; refine (all_in _ _ trivial rfl _ _).mono ?_; rintro e w' ⟨rfl, rfl⟩)
        have bn := Boxed.new W 3 (.int .i64 0)
        have bp := Boxed.new (W.alloc (.cells #[.int .i64 0] 3)) 23 (.pointer (some ⟨g, 0, none⟩))
        rw [World.size_alloc] at bp
        have hheld : Held W.heap.size W (some ⟨g, 0, none⟩) ws := .inr ⟨g, v, rfl, hc, lt_of_block hc.1, fun k hk => (hc.2.lt k hk).2⟩
        have fin : ∀ (D2 : Nat) (W2 : World), ((W.alloc (.cells #[.int .i64 0] 3)).alloc (.cells #[.pointer (some ⟨g, 0, none⟩)] 23)).heap.size ≤ D2 → Below W.heap.size W W2 → W2.heap[D2]? = some (.deferred (some [])) → Boxed W2 (w0.heap.size + 1) 4 (.bool false) →
            ∀ {tmps : Array Value}, tmps[4]? = some (.pointer (some ⟨w0.heap.size + 1, 0, none⟩)) → LeavesInM Fence.wide 9 Try.prog Try.f7 tmps (fun e w' => e = .returned (.bool true) ∧ Below w0.heap.size w0 w') [mark D2, mark D] .returning (W2.setCell ⟨w0.heap.size + 1, 0, none⟩ (.bool true)) := by
          intro D2 W2 hD2 hB2 hK2 h42 tmps ht
          have hwD : w0.heap.size ≤ D := by have := hBw.size; have := hr.fr.size; rw [HZ.out] at this; simp at hD; omega
          refine leave_all (w0 := w0) (b := w0.heap.size + 1) (t := 4) (u := .bool true) (v := .bool true) (fun W hb hB => ⟨?_, rfl, hB⟩) [D2, D] _ ⟨by simp at hD2 ⊢; omega, ?_⟩ (h42.set _) ((hBw.trans (hB2.mono hBw.size)).setCell (p := ⟨w0.heap.size + 1, 0, none⟩) (by simp) _)
          · have := hb.cell
            simp [results, Try.f7, go_sem, this, ht]
          · intro E hE
            rcases List.mem_cons.1 hE with rfl | hE
            · exact ⟨by have := hBw.size; simp at hD2; omega, (KeepsOthers.setCell W2 ⟨w0.heap.size + 1, 0, none⟩ (.bool true)).same _ _ hK2 rfl⟩
            · obtain rfl : E = D := by simpa using hE
              exact ⟨hwD, (KeepsOthers.setCell W2 ⟨w0.heap.size + 1, 0, none⟩ (.bool true)).same _ _ ((hB2.block _ hzW).trans hK) rfl⟩
        refine rangeFunc_asgH rfl (by decide) (gf := 21) (lb := #[.pointer (some ⟨W.heap.size + 1, 0, none⟩)]) rfl trivial (enters_of Try.func21 (by kernel_rfl) rfl)
          (all_stops Fence.wide _ trivial rfl (by decide) (W.heap.size + 1) W.heap.size _ ws _ (by simp) (by simp; omega) bp.cell (hheld.below (by repeat (first | exact Below.refl _ _ | (refine Below.alloc ?_ (by simp <;> omega) _))))) (by simp; omega) (Below.refl _ _) (fun _ => rfl)
          (fun pre W2 => ((pre.length : Int) ≤ stop ∧ Boxed W2 W.heap.size 3 (.int .i64 pre.length)) ∧ Below W.heap.size W W2) (Brk W stop ws)
          ?hI2 (brk_own _ _ _ (by simp; omega)) ?h02 (asg1 11 45) ?hasg2 ?body2 ?done2 ?stop2
        case hI2 => exact OwnFrom.and (OwnFrom.and (ownFrom_pure _ _) (Own.from (boxed_own _ _ (fun pre : List (Int × Int) => Value.int .i64 pre.length)) _)) (ownFrom_below (Nat.le_refl _) (by simp; omega))
        case h02 => exact ⟨⟨hs0, bn.alloc _⟩, by repeat (first | exact Below.refl _ _ | (refine Below.alloc ?_ (by simp <;> omega) _))⟩
        case hasg2 =>
          intro l a' W K hK
          gi_wp2
          exact hK
        case stop2 =>
          rintro D2 c2 pre W2 hD2 hs h hK2
          rcases h with ⟨⟨rfl, hps⟩, hn2, hB2⟩ | h
          · obtain ⟨A8, c8, rfl, hc8a, hc8b⟩ := row_form r8
            have c3W := (hB2.cell (p := ⟨w0.heap.size, 0, none⟩) hb3W.lt).trans hb3W.cell
            have c8W := (hB2.cell (p := ⟨wr.heap.size, 0, none⟩) h8.lt).trans h8.cell
            have cnW := hn2.cell
            have h42 : Boxed W2 (w0.heap.size + 1) 4 (.bool false) := (hB2.block _ hb4W.lt).trans hb4W
            have d4 := h42.cell
            have f4 := h42.frozen
            have hpl := hs.length_le
            have hmin : stop ≤ ws.length := by omega
            gi_wp2
            exact fin D2 W2 hD2 hB2 hK2 h42 rfl
          · exact absurd hs h
        case done2 =>
          rintro D2 zs W2 hD2 rfl ⟨⟨hst, hn2⟩, hB2⟩ hK2
          obtain ⟨A8, c8, rfl, hc8a, hc8b⟩ := row_form r8
          have c3W := (hB2.cell (p := ⟨w0.heap.size, 0, none⟩) hb3W.lt).trans hb3W.cell
          have c8W := (hB2.cell (p := ⟨wr.heap.size, 0, none⟩) h8.lt).trans h8.cell
          have cnW := hn2.cell
          have h42 : Boxed W2 (w0.heap.size + 1) 4 (.bool false) := (hB2.block _ hb4W.lt).trans hb4W
          have d4 := h42.cell
          have f4 := h42.frozen
          gi_wp2
          exact fin D2 W2 hD2 hB2 hK2 h42 rfl
        case body2 =>
          rintro l pre ⟨xa, xb⟩ W2 hl ⟨rl, hrl⟩ ⟨⟨hst, hn2⟩, hB2⟩ hlt
          have c5W := (hB2.cell (p := ⟨B5, 0, none⟩) hb5W.lt).trans hb5W.cell
          have b52 : Boxed W2 B5 23 (.pointer (some ⟨g, 0, none⟩)) := (hB2.block _ hb5W.lt).trans hb5W
          have c3W := (hB2.cell (p := ⟨w0.heap.size, 0, none⟩) hb3W.lt).trans hb3W.cell
          have c8W := (hB2.cell (p := ⟨wr.heap.size, 0, none⟩) h8.lt).trans h8.cell
          have cnW := hn2.cell
          simp only [roundAct, asg1, encs, List.zip_toArray, List.zip_cons_cons, List.zip_nil_right, List.foldl_toArray, List.foldl_cons, List.foldl_nil, List.setIfInBounds_toArray, List.set_cons_succ, List.set_cons_zero, List.getElem?_toArray, List.getElem?_cons_succ, List.getElem?_cons_zero, Option.getD_some]
          by_cases e0 : stop ≤ pre.length
          · have e0' : decide (stop ≤ pre.length) = true := by simpa using e0
            gi_wp2
            have hps : (pre.length : Int) = stop := by omega
            exact ⟨KeepsFrom.refl _ _, .inl ⟨⟨rfl, by rw [List.length_append, List.length_singleton]; omega⟩, by rw [← hps]; exact hn2, hB2⟩⟩
          · have e0' : decide (stop ≤ pre.length) = false := by simpa using e0
            have c5X := (b52.alloc (.cells #[.int .i64 0] 3)).cell
            gi_wp2_with (refine ⟨trivial, ?_⟩; gi_at_call 18; refine (CallsIn.inRound l (all_in _ _ trivial rfl _ _)).mono ?_; rintro e w' ⟨rfl, rfl⟩)
            have hzW2 := hB2.size
            have bk := Boxed.new W2 3 (.int .i64 0)
            have bq := Boxed.new (W2.alloc (.cells #[.int .i64 0] 3)) 23 (.pointer (some ⟨g, 0, none⟩))
            rw [World.size_alloc] at bq
            have hrl' : ((W2.alloc (.cells #[.int .i64 0] 3)).alloc (.cells #[.pointer (some ⟨g, 0, none⟩)] 23)).heap[l]? = some (.loop rl) := (Below.heap_alloc _ _ l (by have := (Array.getElem?_eq_some_iff.1 hrl).1; simp; omega)).trans ((Below.heap_alloc _ _ l (Array.getElem?_eq_some_iff.1 hrl).1).trans hrl)
            have hbnd := mem_bound HRx.out hlt
            have hW2s : W.heap.size < W2.heap.size := hn2.lt
            have hWq : W.heap.size + 1 + 1 ≤ W2.heap.size := by have := (Array.getElem?_eq_some_iff.1 hrl).1; simp at hl; omega
            refine rangeFunc_asgN (l₀ := l) (r₀ := rl) rfl hrl' (by decide) (gf := 21) (lb := #[.pointer (some ⟨W2.heap.size + 1, 0, none⟩)]) rfl trivial (enters_of Try.func21 (by kernel_rfl) rfl)
              ((all_stops Fence.wide _ trivial rfl (by decide) (W2.heap.size + 1) W.heap.size _ ws _ (by simp) (by simp; omega) bq.cell (hheld.below (((hB2.alloc (by omega) _).alloc (by simp; omega) _)))).inRound l) (by simp; omega) (Below.refl _ _) (fun _ => rfl)
              (fun pre' W3 => (Boxed W3 W2.heap.size 3 (.int .i64 pre'.length) ∧ Boxed W3 W.heap.size 3 (.int .i64 pre.length)) ∧ (Below W.heap.size W2 W3 ∧ KeepsFrom (W.heap.size + 1 + 1) W2 W3)) (fun _ pre' _ => ¬ pre' <+: ws)
              ?hI3 (fun _ _ _ _ _ h _ _ => h) ?h03 (asg2 13 53 14 54) ?hasg3 ?body3 ?done3 ?stop3
            case hI3 => exact OwnFrom.and (OwnFrom.and (Own.from (boxed_own _ _ (fun pre' : List (Int × Int) => Value.int .i64 pre'.length)) _) (Own.from (boxed_own _ _ (fun _ : List (Int × Int) => Value.int .i64 pre.length)) _)) (OwnFrom.and (ownFrom_below hzW2 (by simp; omega)) (ownFrom_keepsFrom (by simp; omega)))
            case h03 => exact ⟨⟨bk.alloc _, (hn2.alloc _).alloc _⟩, ((Below.refl _ W2).alloc hzW2 _).alloc (by simp; omega) _, ((KeepsOthers.alloc _ _).trans (KeepsOthers.alloc _ _)).from _⟩
            case hasg3 =>
              intro l' a' W' K hK
              gi_wp2
              exact hK
            case stop3 =>
              rintro c3 pre3 W3 hs h
              exact absurd hs h
            case body3 =>
              rintro l3 pre3 ⟨ya, yb⟩ W3 ⟨⟨hk3, hn3⟩, hB3, hKF⟩ hlt3
              obtain ⟨g8, c8, rfl, hc8a, hc8b, hg8, x1⟩ := row_at r8 hlt3 (u := .int .i64 (ws.getD pre3.length (0, 0)).1) (by simp [List.getD, hlt3])
              have x1 := (hB3.cell (p := ⟨g8, _, none⟩) hg8).trans ((hB2.cell (p := ⟨g8, _, none⟩) hg8).trans x1)
              have d8 := (hB3.cell (p := ⟨wr.heap.size, 0, none⟩) h8.lt).trans c8W
              have h43 : Boxed W3 (w0.heap.size + 1) 4 (.bool false) := (hB3.block _ hb4W.lt).trans ((hB2.block _ hb4W.lt).trans hb4W)
              have d4 := h43.cell
              have f4 := h43.frozen
              have dk := hk3.cell
              have fk := hk3.frozen
              have hb3 := mem_bound HRx.out hlt3
              have HS := Lib.hid (fun hp : pre3 ++ [(ya, yb)] <+: ws => prefix_last hp)
              have hpn : (pre3 ++ [(ya, yb)]).length = pre3.length + 1 := by simp
              have HPN := Lib.hid hpn
              clear hpn
              generalize ws.getD pre3.length (0, 0) = z at x1 hb3 HS
              obtain ⟨za, zb⟩ := z
              dsimp only at x1 hb3
              obtain ⟨-, hz2', -, -⟩ := hb3
              have hlk : pre3.length < os.length := by omega
              simp only [roundAct, asg2, encs, List.zip_toArray, List.zip_cons_cons, List.zip_nil_right, List.foldl_toArray, List.foldl_cons, List.foldl_nil, List.setIfInBounds_toArray, List.set_cons_succ, List.set_cons_zero, List.getElem?_toArray, List.getElem?_cons_succ, List.getElem?_cons_zero, Option.getD_some]
              by_cases e1 : ya = za
              · subst e1
                by_cases e2 : yb < 0
                · have e2' : decide (yb < 0) = true := by simpa using e2
                  gi_wp2
                  exact ⟨(KeepsOthers.setCell W3 ⟨w0.heap.size + 1, 0, none⟩ (.bool false)).from _, fun hp => by have := congrArg Prod.snd (HS.out hp); dsimp only at this; omega⟩
                · have e2' : decide (yb < 0) = false := by simpa using e2
                  gi_wp2
                  refine ⟨(KeepsOthers.setCell W3 ⟨W2.heap.size, 0, none⟩ _).from _, (Below.refl _ W3).setCell (p := ⟨W2.heap.size, 0, none⟩) hzW2 _, ⟨?_, hn3.other (by omega) _⟩, hB3.setCell (p := ⟨W2.heap.size, 0, none⟩) hzW2 _, hKF.trans ((KeepsOthers.setCell W3 ⟨W2.heap.size, 0, none⟩ _).from _)⟩
                  rw [HPN.out]
                  exact hk3.set _
              · have e1' : (ya != za) = true := by simpa using e1
                gi_wp2
                exact ⟨(KeepsOthers.setCell W3 ⟨w0.heap.size + 1, 0, none⟩ (.bool false)).from _, fun hp => e1 (congrArg Prod.fst (HS.out hp))⟩
            case done3 =>
              rintro zs W3 rfl ⟨⟨hk3, hn3⟩, hB3, hKF⟩
              replace hKF : KeepsFrom ((W.alloc (.cells #[.int .i64 0] 3)).alloc (.cells #[.pointer (some ⟨g, 0, none⟩)] 23)).heap.size W2 W3 := by rw [World.size_alloc, World.size_alloc]; exact hKF
              obtain ⟨g8, c8, rfl, hc8a, hc8b, hg8, x1⟩ := row_at r8 hlt (u := .int .i64 (zs.getD pre.length (0, 0)).1) (by simp [List.getD, hlt])
              have x1 := (hB3.cell (p := ⟨g8, _, none⟩) hg8).trans ((hB2.cell (p := ⟨g8, _, none⟩) hg8).trans x1)
              have d8 := (hB3.cell (p := ⟨wr.heap.size, 0, none⟩) h8.lt).trans c8W
              have h43 : Boxed W3 (w0.heap.size + 1) 4 (.bool false) := (hB3.block _ hb4W.lt).trans ((hB2.block _ hb4W.lt).trans hb4W)
              have d4 := h43.cell
              have f4 := h43.frozen
              have dk := hk3.cell
              have dn := hn3.cell
              have fn := hn3.frozen
              have HS := Lib.hid (fun hp : pre ++ [(xa, xb)] <+: zs => prefix_last hp)
              have hpn : (pre ++ [(xa, xb)]).length = pre.length + 1 := by simp
              have HPN := Lib.hid hpn
              clear hpn hbnd
              generalize zs.getD pre.length (0, 0) = z at x1 HS
              obtain ⟨za, zb⟩ := z
              dsimp only at x1
              have hlk : pre.length < os.length := by omega
              by_cases e1 : xa = za
              · subst e1
                gi_wp2
                refine ⟨hKF.trans ((KeepsOthers.setCell W3 ⟨W.heap.size, 0, none⟩ _).from _), hB3.setCell (p := ⟨W.heap.size, 0, none⟩) (Nat.le_refl _) _, ⟨?_, ?_⟩, (hB2.trans hB3).setCell (p := ⟨W.heap.size, 0, none⟩) (Nat.le_refl _) _⟩
                · rw [HPN.out]
                  omega
                · rw [HPN.out]
                  exact hn3.set _
              · have e1' : (xa != za) = true := by simpa using e1
                gi_wp2
                exact ⟨hKF.trans ((KeepsOthers.setCell W3 ⟨w0.heap.size + 1, 0, none⟩ (.bool false)).from _), .inr fun hp => e1 (congrArg Prod.fst (HS.out hp))⟩

theorem left_calls {w0 : World} (A : Option Addr) (c : Nat) (os : List OpD) (_ : os.length ≤ c) (hos : IsOps w0 A os) (h24 : os.length * 24 ≤ 140737488351232) (stop : Int) (hw : (Lit.int .u8 stop).wf = true) :
    Calls Try.prog 7 #[.slice A os.length c, .int .u8 stop] w0 fun e w' => e = .returned (.bool true) ∧ Below w0.heap.size w0 w' := by
  have h := hw
  simp [Lit.wf, show IntKind.u8.min = 0 from rfl, show IntKind.u8.max = 255 from rfl] at h
  exact callsIn_wide.1 (left_walk A c os stop w0 hos h24 h.1 h.2)
end Go.Proofs.Ythiepdldliiakaa

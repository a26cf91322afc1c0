/- EpochsEnds: for every input it returns true, and the input reads as it did. No conditions. -/
import Derived.Test.YthiepdldliiakaaRange
import Derived.Test.YthiepdldliiakaaPlain
import Derived.Maps.OwnIn
import Derived.Sort.QuietTacIn
import Derived.Sort.BigQuietIn
import Derived.Outline
namespace Go.Proofs.Ythiepdldliiakaa
open Go Go.RowKit Go.Shelf

attribute [local go_sem] Oper.semAt_some

theorem info3 : (Try.prog.info? 3).map (fun i => (i.zero, i.size, i.bytes)) = some (some (.int .i64 0), 1, 8) := by kernel_rfl

/-- What stands behind k calls of a script. -/
structure Ran (w0 w : World) (g : Nat) (v : Value) (xs : List (Int × Int)) : Prop where
  cache : IsCache w g v xs
  fr : Fr (fun _ => False) w0 w
  hg : w0.heap.size ≤ g
  own : ∀ b, v.ownBlock = some b → w0.heap.size ≤ b

theorem Ran.alloc {w0 w : World} {g : Nat} {v : Value} {xs : List (Int × Int)} (h : Ran w0 w g v xs) (o : Obj) : Ran w0 (w.alloc o) g v xs :=
  ⟨h.cache.fr ((Fr.refl (fun _ => False) w).alloc o) (fun x => x) (fun _ _ x => x), h.fr.alloc o, h.hg, h.own⟩

theorem Ran.moved {w0 w w' : World} {g : Nat} {v v' : Value} {xs ys : List (Int × Int)} (h : Ran w0 w g v xs) (hc : IsCache w' g v' ys) (hm : Moved g v v' w w') : Ran w0 w' g v' ys :=
  ⟨hc, (hm.fr_new h.fr h.hg h.own).1, h.hg, (hm.fr_new h.fr h.hg h.own).2⟩

/-- Two boxes, each with a row of its own: the epochs that have come, and where they begin. -/
def TwoRows (n₀ : Nat) (W : World) (B8 B9 : Nat) (pre : List (Int × Int)) : Prop :=
  ∃ v8 v9, Boxed W B8 26 v8 ∧ Boxed W B9 26 v9 ∧ W.ownsRow n₀ 3 1 v8 pre.length (pre.map fun x => .int .i64 x.1) ∧ W.ownsRow n₀ 3 1 v9 pre.length (pre.map fun x => .int .i64 x.2) ∧ ∀ k, v8.ownBlock = some k → v9.ownBlock ≠ some k

theorem tworows_own (n₀ B8 B9 : Nat) : Own (fun pre W => TwoRows n₀ W B8 B9 pre) := by
  rintro s X Y row ⟨v8, v9, h8, h9, r8, r9, hd⟩ hg hrow
  exact ⟨v8, v9, box_kept h8 hg hrow, box_kept h9 hg hrow, row_kept r8 hg hrow, row_kept r9 hg hrow, hd⟩

/-- A push onto one of two rows, each in a box of its own. -/
theorem push_row {W w1 : World} {n₀ Ba Bb k k' : Nat} {va vb v' : Value} {xs ys : List Value} {u : Value} {tmp : Obj} (ha : Boxed W Ba 26 va) (hb : Boxed W Bb 26 vb) (ra : W.ownsRow n₀ 3 1 va k xs) (rb : W.ownsRow n₀ 3 1 vb k' ys)
    (hd : ∀ j, va.ownBlock = some j → vb.ownBlock ≠ some j) (hne : Ba ≠ Bb) (hn : n₀ ≤ W.heap.size) (hBa : n₀ ≤ Ba) (hown : w1.ownsRow n₀ 3 1 v' (k + 1) (xs ++ [u])) (hg : (W.alloc tmp).grownBy w1 va.ownBlock)
    (hat : v'.ownBlock = va.ownBlock ∨ v'.ownBlock = some (W.alloc tmp).heap.size) :
    Boxed (w1.setCell ⟨Ba, 0, none⟩ v') Ba 26 v' ∧ Boxed (w1.setCell ⟨Ba, 0, none⟩ v') Bb 26 vb ∧ (w1.setCell ⟨Ba, 0, none⟩ v').ownsRow n₀ 3 1 v' (k + 1) (xs ++ [u]) ∧ (w1.setCell ⟨Ba, 0, none⟩ v').ownsRow n₀ 3 1 vb k' ys ∧
      (∀ j, v'.ownBlock = some j → vb.ownBlock ≠ some j) ∧ KeepsOthers W (w1.setCell ⟨Ba, 0, none⟩ v') ∧ Below n₀ W (w1.setCell ⟨Ba, 0, none⟩ v') ∧ Boxed w1 Ba 26 va := by
  obtain ⟨q1, q2, q3, q4, q5⟩ := ha.appended (by decide) ra hn hBa hown hg
  have hb1 : Boxed w1 Bb 26 vb := (hb.alloc tmp).kept hg (hb.not_row (by decide) ra)
  have rb1 : w1.ownsRow n₀ 3 1 vb k' ys := (rb.alloc tmp).kept hg (by
    cases hv : vb.ownBlock with
    | none => exact .inl rfl
    | some j => exact .inr (fun e => hd j e.symm hv))
  refine ⟨q2, hb1.other (Ne.symm hne) _, q3, ?_, ?_, q4, q5, q1⟩
  · exact rb1.kept (grownBy_setCell' w1 Ba v') (.inr (fun e => q1.not_row (by decide) rb1 e.symm))
  · intro j hj e
    rcases hat with h | h
    · exact hd j (by rw [← h]; exact hj) e
    · rw [h] at hj
      have := (rb.lt j e).2
      injection hj with hj
      simp at hj
      omega

set_option maxRecDepth 100000 in
set_option maxHeartbeats 2000000 in
theorem ends_walk (A : Option Addr) (c : Nat) (os : List OpD) (en : Int) (w0 : World) (hos : IsOps w0 A os) (h24 : os.length * 24 ≤ 140737488351232) :
    CallsIn Fence.wide 5 Try.prog 5 #[.slice A os.length c, .int .i64 en] w0 fun e w' => e = .returned (.bool true) ∧ Below w0.heap.size w0 w' := by
  refine callsIn_of_wp_marks Try.func5 rfl trivial ?_ rfl
  simp only [Try.ntmps5, List.size_toArray, List.length_cons, List.length_nil, Nat.reduceAdd, Nat.reduceSub, Array.replicate_succ, Array.replicate_zero, List.push_toArray, List.append_toArray, List.nil_append, List.cons_append]
  obtain ⟨i0, hi, hz0, hz1, hz2⟩ := info_parts info3
  have HO := Lib.hid hos
  clear hos
  gi_wp2_with (refine ⟨trivial, ?_⟩; gi_at_call 9; refine (callsIn_wide.2 (new_at _)).mono ?_; rintro e w1 ⟨g, rfl, hc1, hf1, hg1⟩)
  gi_wp2_with (refine ⟨trivial, ?_⟩; gi_at_call 10; refine (callsIn_wide.2 (awake_calls _)).mono ?_; rintro e w2 ⟨rfl, hf2⟩)
  have hr2 : Ran w0 w2 g (.slice none 0 0) (assigns [] (os.take 0)) := ⟨hc1.fr hf2 (fun x => x) (fun _ _ x => x), hf1.trans hf2, hg1, by intro k hk; cases hk⟩
  gi_loopw [32] (fun i wr => ∃ (k : Nat) (v : Value), k ≤ os.length ∧ i = .int .i64 k ∧ Ran w0 wr g v (assigns [] (os.take k))) (fun i _ => os.length - (intOf i).toNat)
  case atStart => exact ⟨0, _, Nat.zero_le _, rfl, hr2⟩
  case round =>
    obtain ⟨k, v, hk, rfl, hr⟩ := hrel
    clear hr2 hc1 hf2
    by_cases hlt : k < os.length
    · obtain ⟨ad, rfl, hop⟩ := HO.out k _ (List.getElem?_eq_getElem hlt)
      have hop' := hop.below hr.fr.box
      obtain ⟨k0, k1, k2, k3⟩ := hop'
      have hlen : (assigns [] (os.take k)).length < 8796093022200 := by
        have h1 := assigns_len [] (os.take k)
        rw [List.length_take] at h1
        simp only [List.length_nil] at h1
        omega
      have HT := Lib.hid (assigns_take os k _ (List.getElem?_eq_getElem hlt))
      generalize os[k] = o at *
      gi_wp2_with (refine ⟨trivial, ?_⟩; gi_at_call 11; refine (callsIn_wide.2 (assign_calls g v _ _ _ _ (hr.alloc _).cache hlen)).mono ?_; rintro e w3 ⟨rfl, v3, hc3, hm3⟩)
      go_roundw
      case rel => exact ⟨k + 1, v3, by omega, by go_num, by rw [HT.out]; exact (hr.alloc _).moved hc3 hm3⟩
      case measure => simp [intOf]; omega
    · obtain rfl : k = os.length := by omega
      rw [List.take_length] at hr
      generalize hxs : assigns [] os = xs at hr
      have HX := Lib.hid hxs
      clear hxs hlt hk
      gi_wp2_with (refine ⟨trivial, ?_⟩; gi_at_call 18; refine (all_in _ _ trivial rfl _ _).mono ?_; rintro e w' ⟨rfl, rfl⟩)
      have hz := hr.fr.size
      have b8 := Boxed.new wr 26 (.slice none 0 0)
      have b9 := Boxed.new (wr.alloc (.cells #[.slice none 0 0] 26)) 26 (.slice none 0 0)
      have b10 := Boxed.new ((wr.alloc (.cells #[.slice none 0 0] 26)).alloc (.cells #[.slice none 0 0] 26)) 23 (.pointer (some ⟨g, 0, none⟩))
      rw [World.size_alloc] at b9 b10
      rw [World.size_alloc] at b10
      have hheld : Held wr.heap.size wr (some ⟨g, 0, none⟩) xs := .inr ⟨g, v, rfl, hr.cache, lt_of_block hr.cache.1, fun k hk => (hr.cache.2.lt k hk).2⟩
      refine rangeFunc_asg rfl (by decide) (gf := 21) (lb := #[.pointer (some ⟨wr.heap.size + 1 + 1, 0, none⟩)]) rfl trivial (enters_of Try.func21 (by kernel_rfl) rfl)
        (all_stops Fence.wide _ trivial rfl (by decide) (wr.heap.size + 1 + 1) wr.heap.size _ xs _ (by simp) (by simp; omega) b10.cell (hheld.below (by repeat (first | exact Below.refl _ _ | (refine Below.alloc ?_ (by simp <;> omega) _))))) (by simp; omega) (Below.refl _ _) (fun _ => rfl)
        (fun pre W => TwoRows wr.heap.size W (wr.heap.size) (wr.heap.size + 1) pre ∧ Below wr.heap.size wr W) (fun _ _ _ => False)
        ?hI (fun _ _ _ _ _ h _ _ => h) ?h0 (asg2 10 45 11 46) ?hasg ?body ?done ?stop
      case hI => exact OwnFrom.and (Own.from (tworows_own _ _ _) _) (ownFrom_below (Nat.le_refl _) (by simp; omega))
      case h0 => exact ⟨⟨_, _, (b8.alloc _).alloc _, b9.alloc _, World.ownsRow_nil _ _ _ _, World.ownsRow_nil _ _ _ _, by intro k hk; cases hk⟩, by repeat (first | exact Below.refl _ _ | (refine Below.alloc ?_ (by simp <;> omega) _))⟩
      case hasg =>
        intro l a' W K hK
        gi_wp2
        exact hK
      case body =>
        rintro l pre x W ⟨⟨v8, v9, h8, h9, r8, r9, hd⟩, hB⟩ hlt
        have hlen : pre.length + 1 ≤ 8796093022200 := by
          have h1 := assigns_len [] os
          rw [HX.out] at h1
          simp only [List.length_nil] at h1
          omega
        have hc8 := h8.cell
        have hc9 := h9.cell
        have hz' := hB.size
        simp only [roundAct, asg2, encs]
        gi_wp2_with (first | (gi_at_builtin; refine wpListIn_append_own_at _ rfl (.tmp 47) (.tmp 49) 26 rfl wr.heap.size 3 i0 (.int .i64 0) 1 8 Try.underlying26 hi hz0 hz1 hz2 rfl (by decide) _ _ _ rfl (r8.alloc _) ⟨W.heap.size, 0, none⟩ 1 1 [.int .i64 x.1] rfl rfl (cell_one_new _ _ _) (by simp [Value.oneCell']) (by unfold maxLen; omega) (by omega) (by simp; omega) ?_; intro v' w1 hown' hgrow _ hat; obtain ⟨h8', h9', r8', r9', hd', hk1, hb1, hold⟩ := push_row h8 h9 r8 r9 hd (by omega) (by omega) (by omega) hown' hgrow hat; obtain ⟨g', c', rfl⟩ := ownsRow_succ hown'; have q1 := hold.cell; have q2 := hold.frozen; clear hc8 hc9; have hc9 := h9'.cell) | (gi_at_builtin; refine wpListIn_append_own_at _ rfl (.tmp 51) (.tmp 53) 26 rfl wr.heap.size 3 i0 (.int .i64 0) 1 8 Try.underlying26 hi hz0 hz1 hz2 rfl (by decide) _ _ _ rfl (r9'.alloc _) ⟨w1.heap.size, 0, none⟩ 1 1 [.int .i64 x.2] rfl rfl (cell_one_set _ _ _ _ _) (by simp [Value.oneCell']) (by unfold maxLen; omega) (by omega) (by have := hb1.size; simp at this ⊢; omega) ?_; intro v'' w1 hown'' hgrow2 _ hat2; obtain ⟨h9'', h8'', r9'', r8'', hd'', hk2, hb2, hold2⟩ := push_row h9' h8' r9' r8' (fun k e e' => hd' k e' e) (by omega) (by have := hb1.size; omega) (by omega) hown'' hgrow2 hat2; obtain ⟨g'', c'', rfl⟩ := ownsRow_succ hown''; have q1 := hold2.cell; have q2 := hold2.frozen))
        exact ⟨(hk1.trans hk2).from _, hb1.trans hb2, ⟨_, _, h8'', h9'', by simpa using r8'', by simpa using r9'', fun k e e' => hd'' k e' e⟩, hB.trans (hb1.trans hb2)⟩
      case stop =>
        rintro D c pre W _ _ h _
        exact h.elim
      case done =>
        rintro D ys W hD rfl ⟨⟨v8, v9, h8, h9, r8, r9, hd⟩, hB⟩ hK
        have hrise : Rise ys := by rw [← HX.out]; exact rise_assigns rise_nil os (fun o ho => by
          obtain ⟨i, hi', rfl⟩ := List.getElem_of_mem ho
          obtain ⟨_, _, hop⟩ := HO.out i _ (List.getElem?_eq_getElem hi')
          exact hop.b1)
        have HR := Lib.hid hrise
        have hxl : ys.length < 8796093022200 := by
          have h1 := assigns_len [] os
          rw [HX.out] at h1
          simp only [List.length_nil] at h1
          omega
        have hc : IsCache W g v ys := hr.cache.below hB (lt_of_block hr.cache.1) (fun k hk => (hr.cache.2.lt k hk).2)
        have hc8 := h8.cell
        have hc9 := h9.cell
        have hBw := hr.fr.box.trans (hB.mono hz)
        clear hrise hheld b8 b9 b10 hd
        rcases row_cases r8 with ⟨rfl, hn0⟩ | ⟨g8, c8, rfl, hn8, hm8, hl8⟩
        · obtain rfl : ys = [] := List.eq_nil_of_length_eq_zero hn0
          clear hn0
          gi_wp2
          gi_loopw [12] (fun i wr' => i = .int .i64 0 ∧ wr' = W) (fun _ _ => 0)
          case atStart => exact ⟨rfl, rfl⟩
          case round =>
            obtain ⟨rfl, rfl⟩ := hrel
            gi_wp2_with (refine ⟨trivial, ?_⟩; gi_at_call 15; refine (callsIn_wide.2 (end_some g v [] _ _ _ hc (0, 0, false) rfl)).mono ?_; rintro e w' ⟨rfl, rfl⟩)
            exact leave_one hK (results_tmp rfl _ _ _) ⟨rfl, put_below hBw (by simp at hD; omega) hK⟩
        · unfold maxLen at hm8
          gi_wp2
          gi_loopw [12] (fun i wr' => ∃ k m : Nat, k ≤ ys.length ∧ i = .int .i64 k ∧ wr' = W.drewN m) (fun i _ => ys.length - (intOf i).toNat)
          case atStart => exact ⟨0, 0, Nat.zero_le _, rfl, rfl⟩
          case round =>
            obtain ⟨k, m, hk, rfl, rfl⟩ := hrel
            have hcm : ∀ m, IsCache (W.drewN m) g v ys := fun _ => hc
            by_cases hlt : k < ys.length
            · have x1 := row_cell r8 (j := k) (u := .int .i64 (ys.getD k (0, 0)).1) (by simp [List.getD, hlt])
              have hb1 := mem_bound HR.out hlt
              by_cases hlt2 : k + 1 < ys.length
              · obtain ⟨g9, c9, rfl, hn9, hm9⟩ : ∃ g9 c9, v9 = .slice (some ⟨g9, 0, none⟩) ys.length c9 ∧ ys.length ≤ c9 ∧ c9 ≤ 9223372036854775807 := by
                  rcases row_cases r9 with ⟨_, hn0⟩ | ⟨g9, c9, rfl, h1, h2, h3⟩
                  · omega
                  · unfold maxLen at h2; exact ⟨g9, c9, rfl, h1, by omega⟩
                have y1 := row_cell r8 (j := k + 1) (u := .int .i64 (ys.getD (k + 1) (0, 0)).1) (by simp [List.getD, hlt2])
                have y2 := row_cell r9 (j := k + 1) (u := .int .i64 (ys.getD (k + 1) (0, 0)).2) (by simp [List.getD, hlt2])
                have hb2 := mem_bound HR.out hlt2
                have hp := pair_lt HR.out (Nat.lt_succ_self k) hlt2
                have he1 := endTo_at HR.out (ys.getD k (0, 0)).1 en k hlt (Int.le_refl _) (fun _ => hp.1)
                have he2 := fun h2 => endTo_at HR.out ((ys.getD k (0, 0)).1 + 1) en k hlt (by omega) (fun _ => h2)
                rw [if_pos hlt2] at he1 he2
                generalize (ys.getD k (0, 0)).1 = a at x1 hb1 hp he1 he2
                generalize (ys.getD (k + 1) (0, 0)).1 = b at y1 hb2 hp he2
                generalize (ys.getD (k + 1) (0, 0)).2 = b' at y2 he1 he2
                have HE1 := Lib.hid he1
                have HE2 := Lib.hid he2
                clear he1 he2
                obtain ⟨hb1a, _, hb1b, _⟩ := hb1
                obtain ⟨_, _, hb2b, _⟩ := hb2
                obtain ⟨hp1, _⟩ := hp
                have hwr : IntKind.i64.wrap (a + 1) = a + 1 := IntWalk.i64_in _ (by omega)
                by_cases h2 : a + 1 < b
                · gi_wp2_with (refine ⟨trivial, ?_⟩; gi_at_call 15; refine (callsIn_wide.2 (end_some g v ys a en _ (hcm _) _ HE1.out)).mono ?_; rintro e w' ⟨rfl, rfl⟩)
                  have q1 : IntKind.i64.wrap ((k : Int) + 1) = (k : Int) + 1 := IntWalk.i64_in _ (by omega)
                  have q2 : (0 : Int) ≤ (k : Int) + 1 := by omega
                  have q3 : ((k : Int) + 1).toNat = k + 1 := by omega
                  gi_big_quiet_th (fail)
                  clear q1 q2 q3
                  gi_wp2_with (refine ⟨trivial, ?_⟩; gi_at_call 15; refine (callsIn_wide.2 (end_some g v ys (a + 1) en _ (hcm _) _ (HE2.out h2))).mono ?_; rintro e w' ⟨rfl, rfl⟩)
                  go_roundw
                  case rel => exact ⟨k + 1, _, by omega, by go_num, rfl⟩
                  case measure => simp [intOf]; omega
                · gi_wp2_with (refine ⟨trivial, ?_⟩; gi_at_call 15; refine (callsIn_wide.2 (end_some g v ys a en _ (hcm _) _ HE1.out)).mono ?_; rintro e w' ⟨rfl, rfl⟩)
                  have q1 : IntKind.i64.wrap ((k : Int) + 1) = (k : Int) + 1 := IntWalk.i64_in _ (by omega)
                  have q2 : (0 : Int) ≤ (k : Int) + 1 := by omega
                  have q3 : ((k : Int) + 1).toNat = k + 1 := by omega
                  gi_big_quiet_th (fail)
                  clear q1 q2 q3
                  gi_wp2
                  go_roundw
                  case rel => exact ⟨k + 1, _, by omega, by go_num, rfl⟩
                  case measure => simp [intOf]; omega
              · have he1 := endTo_at HR.out (ys.getD k (0, 0)).1 en k hlt (Int.le_refl _) (fun h => absurd h hlt2)
                rw [if_neg hlt2] at he1
                generalize (ys.getD k (0, 0)).1 = a at x1 hb1 he1
                have HE1 := Lib.hid he1
                clear he1 hb1
                gi_wp2_with (refine ⟨trivial, ?_⟩; gi_at_call 15; refine (callsIn_wide.2 (end_some g v ys a en _ (hcm _) _ HE1.out)).mono ?_; rintro e w' ⟨rfl, rfl⟩)
                have hdn : decide ((k : Int) + 1 < ys.length) = false := by simp; omega
                have q1 : IntKind.i64.wrap ((k : Int) + 1) = (k : Int) + 1 := IntWalk.i64_in _ (by omega)
                have q2 : (0 : Int) ≤ (k : Int) + 1 := by omega
                have q3 : ((k : Int) + 1).toNat = k + 1 := by omega
                gi_big_quiet_th (fail)
                clear q1 q2 q3
                gi_wp2
                go_roundw
                case rel => exact ⟨k + 1, _, by omega, by go_num, rfl⟩
                case measure => simp [intOf]; omega
            · obtain rfl : k = ys.length := by omega
              by_cases hpos : 0 < ys.length
              · have x1 := row_cell r8 (j := 0) (u := .int .i64 (ys.getD 0 (0, 0)).1) (by simp [List.getD, hpos])
                have hb1 := mem_bound HR.out hpos
                have he1 := endTo_none HR.out ((ys.getD 0 (0, 0)).1 - 1) en (fun _ => by omega)
                generalize (ys.getD 0 (0, 0)).1 = a at x1 hb1 he1
                have HE1 := Lib.hid he1
                clear he1
                obtain ⟨hb1a, _, hb1b, _⟩ := hb1
                gi_wp2_with (refine ⟨trivial, ?_⟩; gi_at_call 15; refine (callsIn_wide.2 (end_some g v ys (a - 1) en _ (hcm _) _ HE1.out)).mono ?_; rintro e w' ⟨rfl, rfl⟩)
                exact leave_one hK (results_tmp rfl _ _ _) ⟨rfl, put_below (below_drewN hBw _) (by simp at hD; omega) hK⟩
              · have he1 := endTo_none HR.out en en (fun h => absurd h hpos)
                have HE1 := Lib.hid he1
                clear he1
                gi_wp2_with (refine ⟨trivial, ?_⟩; gi_at_call 15; refine (callsIn_wide.2 (end_some g v ys en en _ (hcm _) _ HE1.out)).mono ?_; rintro e w' ⟨rfl, rfl⟩)
                exact leave_one hK (results_tmp rfl _ _ _) ⟨rfl, put_below (below_drewN hBw _) (by simp at hD; omega) hK⟩

theorem ends_calls {w0 : World} (A : Option Addr) (c : Nat) (os : List OpD) (_ : os.length ≤ c) (hos : IsOps w0 A os) (h24 : os.length * 24 ≤ 140737488351232) (en : Int) (_ : (Lit.int .i64 en).wf = true) :
    Calls Try.prog 5 #[.slice A os.length c, .int .i64 en] w0 fun e w' => e = .returned (.bool true) ∧ Below w0.heap.size w0 w' := callsIn_wide.1 (ends_walk A c os en w0 hos h24)

end Go.Proofs.Ythiepdldliiakaa

/- EpochsCuts: for every input it returns true, and the input reads as it did. No conditions. -/
import Derived.Test.YthiepdldliiakaaTwo
import Derived.Test.YthiepdldliiakaaTail
import Derived.WalkLawsBesides
import Derived.Outline
namespace Go.Proofs.Ythiepdldliiakaa
open Go Go.RowKit Go.Shelf

attribute [local go_sem] Oper.semAt_some

/-- The greatest offset that was assigned; -1: none. -/
def lastAt (os : List OpD) : Int := os.foldl (fun m o => max m o.at_) (-1)

theorem lastAt_take (os : List OpD) (k : Nat) (o : OpD) (h : os[k]? = some o) : lastAt (os.take (k + 1)) = max (lastAt (os.take k)) o.at_ := by
  rw [List.take_add_one, h]
  simp [lastAt]

theorem assign_below (xs : List (Int × Int)) (e a m : Int) (h : ∀ x ∈ xs, x.2 ≤ m) : ∀ x ∈ (assign xs e a).2, x.2 ≤ max m a := by
  intro x hx
  have h1 : ∀ x ∈ xs, x.2 ≤ max m a := fun x hx => Int.le_trans (h x hx) (Int.le_max_left _ _)
  unfold assign at hx
  split at hx
  · exact h1 x hx
  · split at hx
    · split at hx <;> exact h1 x hx
    · rcases List.mem_append.1 hx with hx | hx
      · exact h1 x (List.mem_of_mem_take hx)
      · have : x = (e, a) := by simpa using hx
        subst this
        exact Int.le_max_right _ _

theorem lastAt_bound (os : List OpD) (k : Nat) : -1 ≤ lastAt (os.take k) ∧ ∀ x ∈ assigns [] (os.take k), x.2 ≤ lastAt (os.take k) := by
  induction k with
  | zero => exact ⟨Int.le_refl _, fun x hx => by simp [assigns] at hx⟩
  | succ k ih =>
    by_cases hk : k < os.length
    · rw [lastAt_take os k _ (List.getElem?_eq_getElem hk), assigns_take os k _ (List.getElem?_eq_getElem hk)]
      exact ⟨Int.le_trans ih.1 (Int.le_max_left _ _), assign_below _ _ _ _ ih.2⟩
    · rw [List.take_of_length_le (by omega)]
      rwa [List.take_of_length_le (by omega)] at ih

theorem cut_all {xs : List (Int × Int)} (a : Int) (h : ∀ x ∈ xs, x.2 < a) : cut xs a = xs := by
  have hc : cutTo xs a xs.length = xs.length := by
    cases hn : xs.length with
    | zero => rfl
    | succ n =>
      rw [cutTo, if_neg]
      have hl : n < xs.length := by omega
      have := h _ (List.getElem_mem hl)
      simp only [List.getD, List.getElem?_eq_getElem hl, Option.getD_some]
      omega
  unfold cut
  rw [hc, List.take_length]

theorem cutTo_ge (xs : List (Int × Int)) (a : Int) (k : Nat) (h : cutTo xs a k < k) : a ≤ (xs.getD (cutTo xs a k) (0, 0)).2 := by
  induction k with
  | zero => omega
  | succ k ih =>
    rw [cutTo] at h ⊢
    split
    · rename_i hle
      rw [if_pos hle] at h
      have hl := cutTo_le xs a k
      rcases Nat.lt_or_ge (cutTo xs a k) k with h1 | h1
      · exact ih h1
      · rw [show cutTo xs a k = k by omega]; exact hle
    · rename_i hgt
      rw [if_neg hgt] at h
      omega

theorem prefix_last {xs pre : List (Int × Int)} {x : Int × Int} : pre ++ [x] <+: xs → x = xs.getD pre.length (0, 0) := by
  rintro ⟨t, rfl⟩
  simp [List.getD]

/-- One loop variable that is assigned. -/
def asg1 (d1 s1 : Nat) (a : Act) : Act := { tmps := a.tmps.setIfInBounds d1 (a.tmps[s1]?.getD undef), defers := a.defers }

set_option maxRecDepth 100000 in
set_option maxHeartbeats 4000000 in
theorem cuts_walk (A : Option Addr) (c : Nat) (os : List OpD) (at_ : Int) (w0 : World) (hos : IsOps w0 A os) (h24 : os.length * 24 ≤ 140737488351232) :
    CallsIn Fence.wide 5 Try.prog 6 #[.slice A os.length c, .int .i64 at_] w0 fun e w' => e = .returned (.bool true) ∧ Below w0.heap.size w0 w' := by
  refine callsIn_of_wp_marks Try.func6 rfl trivial ?_ rfl
  simp only [Try.ntmps6, List.size_toArray, List.length_cons, List.length_nil, Nat.reduceAdd, Nat.reduceSub, Array.replicate_succ, Array.replicate_zero, List.push_toArray, List.append_toArray, List.nil_append, List.cons_append]
  have hrise : ∀ k, Rise (assigns [] (os.take k)) := fun k => rise_assigns rise_nil _ (fun o ho => by
    obtain ⟨i, hi', rfl⟩ := List.getElem_of_mem (List.mem_of_mem_take ho)
    obtain ⟨_, _, hop⟩ := hos i _ (List.getElem?_eq_getElem hi')
    exact hop.b1)
  have HR := Lib.hid hrise
  have HO := Lib.hid hos
  clear hos hrise
  have b3 := Boxed.new w0 3 (.int .i64 at_)
  have b4 := Boxed.new (w0.alloc (.cells #[.int .i64 at_] 3)) 4 (.bool false)
  rw [World.size_alloc] at b4
  have b3' := b3.alloc (.cells #[.bool false] 4)
  have hbw : Below w0.heap.size w0 ((w0.alloc (.cells #[.int .i64 at_] 3)).alloc (.cells #[.bool false] 4)) := ((Below.refl _ _).alloc (Nat.le_refl _) _).alloc (by simp) _
  have hsz : ((w0.alloc (.cells #[.int .i64 at_] 3)).alloc (.cells #[.bool false] 4)).heap.size = w0.heap.size + 1 + 1 := by simp
  have HZ := Lib.hid hsz
  clear hsz b3
  gi_wp2_with (first | (refine ⟨trivial, ?_⟩; gi_at_call 9; refine (callsIn_wide.2 (new_at _)).mono ?_; rintro e w1 ⟨g, rfl, hc1, hf1, hg1⟩) | (refine ⟨trivial, ?_⟩; gi_at_call 10; refine (callsIn_wide.2 (awake_calls _)).mono ?_; rintro e w2 ⟨rfl, hf2⟩))
  have h1 : Two ((w0.alloc (.cells #[.int .i64 at_] 3)).alloc (.cells #[.bool false] 4)) ((w1.alloc (.cells #[.slice none 0 0, .slice none 0 0] 28)).alloc (.cells #[.pointer (some ⟨w1.heap.size, 0, none⟩)] 25)) g (.slice none 0 0) [] w1.heap.size (.slice none 0 0) (.slice none 0 0) [] :=
    (show Two _ (w1.alloc (.cells #[.slice none 0 0, .slice none 0 0] 28)) g (.slice none 0 0) [] w1.heap.size (.slice none 0 0) (.slice none 0 0) [] from
      ⟨hc1.fr ((Fr.refl (fun _ => False) w1).alloc _) (fun x => x) (fun _ _ x => x), new_ref w1, hf1.alloc _, hg1, fun k hk => (by cases hk), hf1.size, fun k hk => (by rcases hk with hk | hk <;> cases hk)⟩).alloc _
  have h2 := h1.step hf2
  have b6 : Boxed w2 (w1.heap.size + 1) 25 (.pointer (some ⟨w1.heap.size, 0, none⟩)) := by
    have := Boxed.new (w1.alloc (.cells #[.slice none 0 0, .slice none 0 0] 28)) 25 (.pointer (some ⟨w1.heap.size, 0, none⟩))
    rw [World.size_alloc] at this
    exact hf2.heap this (fun x => x)
  have hgr := hf1.size
  rw [HZ.out] at hgr
  have hg2 := hg1
  rw [HZ.out] at hg2
  generalize hW1 : (w0.alloc (.cells #[.int .i64 at_] 3)).alloc (.cells #[.bool false] 4) = W1 at *
  clear hW1
  generalize w1.heap.size + 1 = B6 at *
  generalize w1.heap.size = gr at *
  clear h1 hc1 hf1 hg1 hf2
  gi_loopw [7, 24] (fun m i wr => ∃ (k : Nat) (v va vb : Value), k ≤ os.length ∧ i = .int .i64 k ∧ m = .int .i64 (lastAt (os.take k)) ∧ Two W1 wr g v (assigns [] (os.take k)) gr va vb (assigns [] (os.take k)) ∧ Boxed wr B6 25 (.pointer (some ⟨gr, 0, none⟩))) (fun _ i _ => os.length - (intOf i).toNat)
  case atStart => exact ⟨0, _, _, _, Nat.zero_le _, rfl, rfl, h2, b6⟩
  case round =>
    obtain ⟨k, v, va, vb, hk, rfl, rfl, hr, hb6⟩ := hrel
    clear h2 b6
    have hc6 := hb6.cell
    have hbnd := lastAt_bound os k
    have hlen := assigns_len [] (os.take k)
    rw [List.length_take] at hlen
    simp only [List.length_nil] at hlen
    by_cases hlt : k < os.length
    · obtain ⟨ad, rfl, hop⟩ := HO.out k _ (List.getElem?_eq_getElem hlt)
      obtain ⟨k0, k1, k2, k3⟩ := (hop.below hbw).below hr.fr.box
      have HT := Lib.hid (assigns_take os k _ (List.getElem?_eq_getElem hlt))
      have HL := Lib.hid (lastAt_take os k _ (List.getElem?_eq_getElem hlt))
      have HRk := Lib.hid (HR.out k)
      generalize os[k] = o at *
      generalize assigns [] (os.take k) = xs at *
      generalize lastAt (os.take k) = m at *
      have hxl : xs.length < 8796093022200 := by omega
      have hra := hr.alloc (.cells #[.int .i64 o.kind, .int .i64 o.epoch, .int .i64 o.at_] 31)
      have HR2 := Lib.hid hra
      have HA := Lib.hid (heap_alloc_new wr (.cells #[.int .i64 o.kind, .int .i64 o.epoch, .int .i64 o.at_] 31))
      have hx : ∀ w' : World, w'.heap[wr.heap.size]? = some (.cells #[.int .i64 o.kind, .int .i64 o.epoch, .int .i64 o.at_] 31 (0, 0)) → w'.cell? ⟨wr.heap.size, 1, none⟩ = some (.int .i64 o.epoch) ∧ w'.cell? ⟨wr.heap.size, 2, none⟩ = some (.int .i64 o.at_) := by
        intro w' h
        simp [World.cell?, h]
      have HX := Lib.hid hx
      have H6 := Lib.hid (hb6.alloc (.cells #[.int .i64 o.kind, .int .i64 o.epoch, .int .i64 o.at_] 31))
      clear hra hx hbnd
      gi_wp2_with (first | (refine ⟨trivial, ?_⟩; gi_at_call 11; refine (callsIn_wide.2 (assign_calls g v _ _ _ _ HR2.out.c hxl)).mono ?_; rintro e w3 ⟨rfl, v3, hc3, hm3⟩; have ha3 := hm3.keep HR2.out.c HA.out (by decide) (by decide); obtain ⟨cx1, cx2⟩ := HX.out _ ha3; have hb63 : Boxed w3 B6 25 _ := hm3.keep HR2.out.c H6.out (by decide) (by decide); have cb63 := hb63.cell) | (refine ⟨trivial, ?_⟩; gi_at_call 12; refine (callsIn_wide.2 (rassign_rise gr va vb _ _ _ _ (HR2.out.moved hc3 hm3).r hxl HRk.out)).mono ?_; rintro e w4 ⟨rfl, va4, vb4, hr4, hm4⟩; have h4 := (HR2.out.moved hc3 hm3).moved2 hr4 hm4; have ha4 := hm4.keep (HR2.out.moved hc3 hm3).r ha3 (by decide) (by decide); obtain ⟨cy1, cy2⟩ := HX.out _ ha4; have hb64 : Boxed w4 B6 25 _ := hm4.keep (HR2.out.moved hc3 hm3).r hb63 (by decide) (by decide)))
      refine ⟨⟨k + 1, v3, va4, vb4, hlt, by go_num, ?_, ?_, hb64⟩, by simp [intOf]; omega⟩
      · rw [HL.out]
        congr 1
        omega
      · rw [HT.out]
        exact h4
    · obtain rfl : k = os.length := by omega
      have hRx := HR.out os.length
      rw [List.take_length] at hr hbnd hRx hlen ⊢
      generalize assigns [] os = xs at *
      generalize lastAt os = m at *
      have hxl : xs.length < 8796093022200 := by omega
      obtain ⟨hm1, hmx⟩ := hbnd
      have hcx : cut xs (m + 1) = xs := cut_all _ (fun x hx => by have := hmx x hx; omega)
      have HCX := Lib.hid hcx
      have HRx := Lib.hid hRx
      clear hcx hmx hRx hlen hlt hk
      have cut1 : Calls Try.prog 13 #[.pointer (some ⟨g, 0, none⟩), .int .i64 (m + 1)] wr fun e w' => e = .returned (.tuple #[]) ∧ ∃ v', IsCache w' g v' xs ∧ Moved g v v' wr w' := by
        have := cut_calls g v xs (m + 1) wr hr.c
        refine this.mono ?_
        rintro e w' ⟨rfl, v', h1, h2⟩
        rw [HCX.out] at h1
        exact ⟨rfl, v', h1, h2⟩
      have HC := Lib.hid cut1
      clear cut1
      have H17 := Lib.hid b3'
      by_cases hmm : m < 4611686018427387904
      case' pos => gi_wp2_with (refine ⟨trivial, ?_⟩; gi_at_call 13; refine (callsIn_wide.2 HC.out).mono ?_; rintro e w3 ⟨rfl, v3, hc3, hm3⟩; clear HC; have hb63 : Boxed w3 B6 25 _ := hm3.keep hr.c hb6 (by decide) (by decide); have cb63 := hb63.cell; have h3 := hr.moved hc3 hm3)
      case' neg =>
        clear HC
        have h3 := hr
        have hb63 := hb6
        have cb63 := hc6
        clear hr hb6 hc6
        obtain ⟨w3, rfl⟩ : ∃ w3 : World, w3 = wr := ⟨_, rfl⟩
        obtain ⟨v3, rfl⟩ : ∃ v3 : Value, v3 = v := ⟨_, rfl⟩
        gi_wp2_with fail
      all_goals
        clear hmm
        gi_wp2_with (first | (refine ⟨trivial, ?_⟩; gi_at_call 17; refine (callsIn_wide.2 (same_calls g gr v3 va vb xs _ h3.c h3.r)).mono ?_; rintro e w4 ⟨rfl, hf4⟩; have h4 := h3.step hf4; have b34 : Boxed w4 w0.heap.size 3 _ := h4.fr.heap H17.out (fun x => x); have c34 := b34.cell) | (refine ⟨trivial, ?_⟩; gi_at_call 13; refine (callsIn_wide.2 (cut_calls g v3 xs at_ _ h4.c)).mono ?_; rintro e w5 ⟨rfl, v5, hc5, hm5⟩; have h5 := h4.moved hc5 hm5) | (refine ⟨trivial, ?_⟩; gi_at_call 18; refine (all_in _ _ trivial rfl _ _).mono ?_; rintro e w' ⟨rfl, rfl⟩))
        have b35 : Boxed w5 w0.heap.size 3 (.int .i64 at_) := h5.fr.heap H17.out (fun x => x)
        have b45 : Boxed w5 (w0.heap.size + 1) 4 (.bool false) := h5.fr.heap b4 (fun x => x)
        have b65 : Boxed w5 B6 25 (.pointer (some ⟨gr, 0, none⟩)) := hm5.keep h4.c (hf4.heap hb63 (fun x => x)) (by decide) (by decide)
        have b10 := Boxed.new w5 3 (.int .i64 0)
        have b11 := Boxed.new (w5.alloc (.cells #[.int .i64 0] 3)) 23 (.pointer (some ⟨g, 0, none⟩))
        rw [World.size_alloc] at b11
        have hheld : Held w5.heap.size w5 (some ⟨g, 0, none⟩) (cut xs at_) := .inr ⟨g, v5, rfl, hc5, lt_of_block hc5.1, fun k hk => (hc5.2.lt k hk).2⟩
        have hgl := lt_of_block h5.r.blk
        have hzl : (cut xs at_).length = cutTo xs at_ xs.length := by
          unfold cut; rw [List.length_take]; have := cutTo_le xs at_ xs.length; omega
        have hzx : (cut xs at_).length ≤ xs.length := by rw [hzl]; exact cutTo_le _ _ _
        have hzy : ∀ k, k < (cut xs at_).length → (cut xs at_).getD k (0, 0) = xs.getD k (0, 0) ∧ (xs.getD k (0, 0)).2 < at_ := by
          intro k hk
          have h1 : (cut xs at_).getD k (0, 0) = xs.getD k (0, 0) := by
            rw [hzl] at hk
            have h3 := cutTo_le xs at_ xs.length
            simp [cut, List.getD, hk, List.getElem?_take]
          refine ⟨h1, ?_⟩
          rw [← h1]
          have hmem : (cut xs at_).getD k (0, 0) ∈ cut xs at_ := by
            simp only [List.getD, List.getElem?_eq_getElem hk, Option.getD_some]
            exact List.getElem_mem hk
          rw [← keep_eq HRx.out at_] at hmem ⊢
          have := (List.mem_filter.1 hmem).2
          simpa using this
        have HZY := Lib.hid hzy
        have HZL := Lib.hid hzl
        have hbase : Below w0.heap.size w0 w5 := hbw.trans (h5.fr.box.mono (by rw [HZ.out]; omega))
        clear hzy hzl
        refine rangeFunc_asg rfl (by decide) (gf := 21) (lb := #[.pointer (some ⟨w5.heap.size + 1, 0, none⟩)]) rfl trivial (enters_of Try.func21 (by kernel_rfl) rfl)
          (all_stops Fence.wide _ trivial rfl (by decide) (w5.heap.size + 1) w5.heap.size _ (cut xs at_) _ (by simp) (by simp; omega) b11.cell (hheld.below (by repeat (first | exact Below.refl _ _ | (refine Below.alloc ?_ (by simp <;> omega) _))))) (by simp; omega) (Below.refl _ _) (fun _ => rfl)
          (fun pre W => Boxed W w5.heap.size 3 (.int .i64 pre.length) ∧ Below w5.heap.size w5 W) (fun _ pre _ => ¬ pre <+: cut xs at_)
          ?hI (fun _ _ _ _ _ h _ _ => h) ?h0 (asg1 12 61) ?hasg ?body ?done ?stop
        case hI => exact OwnFrom.and (Own.from (boxed_own _ _ (fun pre : List (Int × Int) => Value.int .i64 pre.length)) _) (ownFrom_below (Nat.le_refl _) (by simp; omega))
        case h0 => exact ⟨b10.alloc _, by repeat (first | exact Below.refl _ _ | (refine Below.alloc ?_ (by simp <;> omega) _))⟩
        case hasg =>
          intro l a' W K hK
          gi_wp2
          exact hK
        case stop =>
          rintro D c pre W _ hs h _
          exact absurd hs h
        case body =>
          rintro l pre x W ⟨hn, hB⟩ hlt
          have hcn := hn.cell
          have hfn := hn.frozen
          have hc3 := (hB.cell (p := ⟨w0.heap.size, 0, none⟩) b35.lt).trans b35.cell
          have hB4 : Boxed W (w0.heap.size + 1) 4 (.bool false) := (hB.block _ b45.lt).trans b45
          have hc4 := hB4.cell
          have hf4' := hB4.frozen
          have hc6' := (hB.cell (p := ⟨B6, 0, none⟩) b65.lt).trans b65.cell
          have f1 := (hB.cell (p := ⟨gr, 1, none⟩) hgl).trans (cell_of_two1 h5.r.blk)
          obtain ⟨rb, cb, rfl, hcb, hcmb, hrbl, x1⟩ := row_at h5.r.rb (k := pre.length) (by omega) (snds_get xs _ (by omega))
          have x1 := (hB.cell (p := ⟨rb, _, none⟩) hrbl).trans x1
          obtain ⟨hy1, hy2⟩ := HZY.out _ hlt
          have hsn : pre ++ [x] <+: cut xs at_ → x = xs.getD pre.length (0, 0) := fun hp => by rw [← hy1]; exact prefix_last hp
          obtain ⟨xa, xb⟩ := x
          clear hy1
          generalize xs.getD pre.length (0, 0) = y at x1 hsn hy2
          obtain ⟨ya, yb⟩ := y
          dsimp only at x1 hy2
          have HS := Lib.hid hsn
          have hlx : pre.length < xs.length := by omega
          clear hsn hlt hheld
          have hpn : (pre ++ [(xa, xb)]).length = pre.length + 1 := by simp
          have HPN := Lib.hid hpn
          clear hpn
          simp only [roundAct, asg1, encs, List.zip_toArray, List.zip_cons_cons, List.zip_nil_right, List.foldl_toArray, List.foldl_cons, List.foldl_nil, List.setIfInBounds_toArray, List.set_cons_succ, List.set_cons_zero, List.getElem?_toArray, List.getElem?_cons_succ, List.getElem?_cons_zero, Option.getD_some]
          by_cases e0 : at_ ≤ xb
          · have e0' : decide (at_ ≤ xb) = true := by simpa using e0
            gi_wp2
            refine quiet_round rfl (by kernel_rfl) (by kernel_rfl) (by kernel_rfl) ?_
            repeat (gi_big_quiet_step (fail))
            refine wpQuietIn_nil ?_
            rintro _ ⟨nq, rfl⟩
            gi_wp2
            exact ⟨(keeps_drewN W nq).from _, fun hp => by
              have := congrArg Prod.snd (HS.out hp)
              dsimp only at this
              omega⟩
          · have e0' : decide (at_ ≤ xb) = false := by simpa using e0
            by_cases e2 : xb = yb
            · subst e2
              gi_wp2
              refine quiet_round rfl (by kernel_rfl) (by kernel_rfl) (by kernel_rfl) ?_
              repeat (gi_big_quiet_step (fail))
              refine wpQuietIn_nil ?_
              rintro _ ⟨nq, rfl⟩
              gi_wp2
              exact ⟨(keeps_drewN W nq).from _, (below_drewN (Below.refl _ W) nq).setCell (p := ⟨w5.heap.size, 0, none⟩) (by simp) _, by
                rw [HPN.out]
                exact (box_drewN hn nq).set _, (below_drewN hB nq).setCell (p := ⟨w5.heap.size, 0, none⟩) (by simp) _⟩
            · have e2' : (xb != yb) = true := by simpa using e2
              gi_wp2
              refine quiet_round rfl (by kernel_rfl) (by kernel_rfl) (by kernel_rfl) ?_
              repeat (gi_big_quiet_step (fail))
              refine wpQuietIn_nil ?_
              rintro _ ⟨nq, rfl⟩
              gi_wp2
              exact ⟨(keeps_drewN W nq).from _, fun hp => e2 (congrArg Prod.snd (HS.out hp))⟩
        case done =>
          rintro D ys W hD rfl ⟨hn, hB⟩ hK
          have hcn := hn.cell
          have hc3 := (hB.cell (p := ⟨w0.heap.size, 0, none⟩) b35.lt).trans b35.cell
          have hB4 : Boxed W (w0.heap.size + 1) 4 (.bool false) := (hB.block _ b45.lt).trans b45
          have hc4 := hB4.cell
          have hf4' := hB4.frozen
          have hc6' := (hB.cell (p := ⟨B6, 0, none⟩) b65.lt).trans b65.cell
          have f1 := (hB.cell (p := ⟨gr, 1, none⟩) hgl).trans (cell_of_two1 h5.r.blk)
          have htl := cutTo_le xs at_ xs.length
          have hge := cutTo_ge xs at_ xs.length
          rw [← HZL.out] at htl hge
          have HTL := Lib.hid htl
          have HGE := Lib.hid hge
          clear htl hge
          gi_wp2
          by_cases hz : (cut xs at_).length = xs.length
          · obtain ⟨Ab, cb, rfl, hcb, hcmb⟩ := row_form h5.r.rb
            rw [hz] at hcn
            refine tail_quiet 18 (by kernel_rfl) (by kernel_rfl) ?_
            simp only [List.take_succ_cons, List.take_zero, List.drop_succ_cons, List.drop_zero]
            repeat (gi_big_quiet_step (fail))
            refine wpQuietIn_nil ?_
            go_wp2
            gi_wp2
            have kK5 : ((W.setCell ⟨w0.heap.size + 1, 0, none⟩ (.bool true)).drew).heap[D]? = some (.deferred (some [])) := (KeepsOthers.setCell W ⟨w0.heap.size + 1, 0, none⟩ (.bool true)).same D _ hK rfl
            have k4d : Boxed ((W.setCell ⟨w0.heap.size + 1, 0, none⟩ (.bool true)).drew) (w0.heap.size + 1) 4 (.bool true) := hB4.set (.bool true)
            have hc5 : (((W.setCell ⟨w0.heap.size + 1, 0, none⟩ (.bool true)).drew).putObj D (.deferred none)).cell? ⟨w0.heap.size + 1, 0, none⟩ = some (.bool true) := cell_kept k4d.cell (grownBy_putObj' _ D (.deferred none)) (fun r e => by cases e; exact ⟨_, kK5, rfl⟩)
            refine leave_one kK5 (v := .bool true) ?_ ⟨rfl, put_below (((hbase.trans (hB.mono hbase.size)).setCell (p := ⟨w0.heap.size + 1, 0, none⟩) (by simp) _).drew) (by have := hbase.size; simp at hD; omega) kK5⟩
            simp [results, Try.f6, go_sem, hc5]
          · obtain ⟨rb, cb, rfl, hcb, hcmb, hrbl, x1⟩ := row_at h5.r.rb (k := (cut xs at_).length) (by have := HTL.out; omega) (snds_get xs _ (by have := HTL.out; omega))
            have x1 := (hB.cell (p := ⟨rb, _, none⟩) hrbl).trans x1
            have hge := HGE.out (by have := HTL.out; omega)
            generalize xs.getD (cut xs at_).length (0, 0) = y at x1 hge
            obtain ⟨ya, yb⟩ := y
            dsimp only at x1 hge
            have hz1 : (((cut xs at_).length : Int) == xs.length) = false := by simpa using fun e => hz (by omega)
            have hge1 : decide (at_ ≤ yb) = true := by simpa using hge
            refine tail_quiet 18 (by kernel_rfl) (by kernel_rfl) ?_
            simp only [List.take_succ_cons, List.take_zero, List.drop_succ_cons, List.drop_zero]
            repeat (gi_big_quiet_step (fail))
            refine wpQuietIn_nil ?_
            go_wp2
            gi_wp2
            have kK5 : ((W.setCell ⟨w0.heap.size + 1, 0, none⟩ (.bool true)).drew).heap[D]? = some (.deferred (some [])) := (KeepsOthers.setCell W ⟨w0.heap.size + 1, 0, none⟩ (.bool true)).same D _ hK rfl
            have k4d : Boxed ((W.setCell ⟨w0.heap.size + 1, 0, none⟩ (.bool true)).drew) (w0.heap.size + 1) 4 (.bool true) := hB4.set (.bool true)
            have hc5 : (((W.setCell ⟨w0.heap.size + 1, 0, none⟩ (.bool true)).drew).putObj D (.deferred none)).cell? ⟨w0.heap.size + 1, 0, none⟩ = some (.bool true) := cell_kept k4d.cell (grownBy_putObj' _ D (.deferred none)) (fun r e => by cases e; exact ⟨_, kK5, rfl⟩)
            refine leave_one kK5 (v := .bool true) ?_ ⟨rfl, put_below (((hbase.trans (hB.mono hbase.size)).setCell (p := ⟨w0.heap.size + 1, 0, none⟩) (by simp) _).drew) (by have := hbase.size; simp at hD; omega) kK5⟩
            simp [results, Try.f6, go_sem, hc5]

theorem cuts_calls {w0 : World} (A : Option Addr) (c : Nat) (os : List OpD) (_ : os.length ≤ c) (hos : IsOps w0 A os) (h24 : os.length * 24 ≤ 140737488351232) (at_ : Int) (_ : (Lit.int .i64 at_).wf = true) :
    Calls Try.prog 6 #[.slice A os.length c, .int .i64 at_] w0 fun e w' => e = .returned (.bool true) ∧ Below w0.heap.size w0 w' := callsIn_wide.1 (cuts_walk A c os at_ w0 hos h24)
end Go.Proofs.Ythiepdldliiakaa

/- EpochsRise: for every input it returns true, and the input reads as it did. No conditions. -/
import Derived.Test.YthiepdldliiakaaTwo
import Derived.Test.YthiepdldliiakaaTail
import Derived.WalkLawsBesides
import Derived.Sort.LoopGhostIn
import Derived.Outline
namespace Go.Proofs.Ythiepdldliiakaa
open Go Go.RowKit Go.Shelf

attribute [local go_sem] Oper.semAt_some

/-- A cache, new since w0. -/
structure One (w0 w : World) (g : Nat) (v : Value) (xs : List (Int × Int)) : Prop where
  c : IsCache w g v xs
  fr : Fr (fun _ => False) w0 w
  hg : w0.heap.size ≤ g
  hv : ∀ k, v.ownBlock = some k → w0.heap.size ≤ k

section
variable {w0 w w' : World} {g : Nat} {v v' : Value} {xs xs' : List (Int × Int)}

theorem One.step (h : One w0 w g v xs) (hf : Fr (fun _ => False) w w') : One w0 w' g v xs :=
  ⟨h.c.fr hf (fun x => x) (fun _ _ x => x), h.fr.trans hf, h.hg, h.hv⟩

theorem One.alloc (h : One w0 w g v xs) (o : Obj) : One w0 (w.alloc o) g v xs := h.step ((Fr.refl _ _).alloc o)

theorem One.moved (h : One w0 w g v xs) (hc : IsCache w' g v' xs') (hm : Moved g v v' w w') : One w0 w' g v' xs' := by
  obtain ⟨f1, f2⟩ := hm.fr_new h.fr h.hg h.hv
  exact ⟨hc, f1, h.hg, f2⟩
end

/-- What a range over a function leaves to be taken over. -/
def mark (D : Nat) : Deferred := { target := .collected D, args := #[] }

/-- The marks that are there, each open, none twice. -/
def Marks (B : Nat) (Ds : List Nat) (w : World) : Prop := Ds.Nodup ∧ ∀ D ∈ Ds, B ≤ D ∧ w.heap[D]? = some (.deferred (some []))

theorem Marks.lt {B : Nat} {Ds : List Nat} {w : World} (h : Marks B Ds w) : ∀ D ∈ Ds, D < w.heap.size := fun D hD => (Array.getElem?_eq_some_iff.1 (h.2 D hD).2).1

theorem Marks.below {B K : Nat} {Ds : List Nat} {w w' : World} (h : Marks B Ds w) (hb : Below K w w') (hK : ∀ D ∈ Ds, D < K) : Marks B Ds w' :=
  ⟨h.1, fun D hD => ⟨(h.2 D hD).1, (hb.block _ (hK D hD)).trans (h.2 D hD).2⟩⟩

theorem Marks.fr {B : Nat} {Ds : List Nat} {w w' : World} (h : Marks B Ds w) (hf : Fr (fun _ => False) w w') : Marks B Ds w' :=
  ⟨h.1, fun D hD => ⟨(h.2 D hD).1, hf.heap (h.2 D hD).2 (fun x => x)⟩⟩

theorem Marks.moved {B : Nat} {Ds : List Nat} {w w' : World} {g : Nat} {v v' : Value} {xs : List (Int × Int)} (h : Marks B Ds w) (hc : IsCache w g v xs) (hm : Moved g v v' w w') : Marks B Ds w' :=
  ⟨h.1, fun D hD => ⟨(h.2 D hD).1, hm.fr.heap (h.2 D hD).2 (fun hs => by
    rcases hs with rfl | hs
    · have := hc.1; rw [(h.2 _ hD).2] at this; cases this
    · obtain ⟨_, ho⟩ := own_type hc.2 hs
      rw [(h.2 D hD).2] at ho; cases ho)⟩⟩

theorem Marks.cons {B : Nat} {Ds : List Nat} {w : World} {D : Nat} (h : Marks B Ds w) (hB : B ≤ D) (hlt : ∀ E ∈ Ds, E < D) (hK : w.heap[D]? = some (.deferred (some []))) : Marks B (D :: Ds) w :=
  ⟨List.nodup_cons.2 ⟨fun hm => Nat.lt_irrefl _ (hlt D hm), h.1⟩, fun E hE => by
    rcases List.mem_cons.1 hE with rfl | hE
    · exact ⟨hB, hK⟩
    · exact h.2 E hE⟩

theorem leave_all {F : Fence} {n : Nat} {P : Program} {fn : Func} {tmps : Array Value} {R : Ending → World → Prop} {w0 : World} {b t : Nat} {u v : Value}
    (hres : ∀ W, Boxed W b t u → Below w0.heap.size w0 W → (results fn tmps).run P W = .ok v W ∧ R (.returned v) W) :
    ∀ (Ds : List Nat) (W : World), Marks w0.heap.size Ds W → Boxed W b t u → Below w0.heap.size w0 W → LeavesInM F n P fn tmps R (Ds.map mark) .returning W := by
  intro Ds
  induction Ds with
  | nil =>
    intro W hm hb hB
    exact ⟨v, hres W hb hB⟩
  | cons D Ds ih =>
    intro W hm hb hB
    have hK := (hm.2 D (List.mem_cons_self)).2
    have hne := (List.nodup_cons.1 hm.1).1
    refine ⟨by simp, .inl ⟨D, _, rfl, run_takeDeferred hK, ih _ ⟨(List.nodup_cons.1 hm.1).2, fun E hE => ⟨(hm.2 E (List.mem_cons_of_mem _ hE)).1, ?_⟩⟩ ?_ (put_below hB (hm.2 D (List.mem_cons_self)).1 hK)⟩⟩
    · rw [World.putObj_heap_other (by rintro rfl; exact hne hE)]
      exact (hm.2 E (List.mem_cons_of_mem _ hE)).2
    · exact box_kept hb (grownBy_putObj' _ D (.deferred none)) (fun r e => by cases e; exact ⟨_, hK, rfl⟩)

/-- The last epoch that came up; -1: none. -/
def wasOf (pre : List (Int × Int)) : Int := (pre.getLast?.map Prod.fst).getD (-1)
/-- Where it begins. -/
def fromOf (pre : List (Int × Int)) : Int := (pre.getLast?.map Prod.snd).getD (-1)

theorem wasOf_snoc (pre : List (Int × Int)) (x : Int × Int) : wasOf (pre ++ [x]) = x.1 := by simp [wasOf]
theorem fromOf_snoc (pre : List (Int × Int)) (x : Int × Int) : fromOf (pre ++ [x]) = x.2 := by simp [fromOf]

theorem rise_next {ys pre : List (Int × Int)} {x : Int × Int} (h : Rise ys) (hp : pre ++ [x] <+: ys) : wasOf pre < x.1 ∧ fromOf pre < x.2 := by
  obtain ⟨t, rfl⟩ := hp
  have hx := h.2 x (by simp)
  rcases List.eq_nil_or_concat pre with rfl | ⟨qs, y, rfl⟩
  · simp only [wasOf, fromOf, List.getLast?_nil, Option.map_none, Option.getD_none]
    omega
  · rw [List.concat_eq_append, wasOf_snoc, fromOf_snoc]
    have := h.1
    simp only [List.concat_eq_append, List.append_assoc, List.pairwise_append] at this
    exact this.2.1.2.2 y (by simp) x (by simp)

theorem lastOf_was {ys : List (Int × Int)} (h : ys ≠ []) : lastOf ys = (wasOf ys, fromOf ys, true) := by
  rcases List.eq_nil_or_concat ys with rfl | ⟨qs, y, rfl⟩
  · exact absurd rfl h
  · rw [List.concat_eq_append, wasOf_snoc, fromOf_snoc]
    simp [lastOf]

theorem last_was {g : Nat} {v : Value} {xs : List (Int × Int)} (w : World) (h : IsCache w g v xs) (hne : xs ≠ []) :
    Calls Try.prog 19 #[.pointer (some ⟨g, 0, none⟩)] w fun en w' => en = .returned (.tuple #[.int .i64 (wasOf xs), .int .i64 (fromOf xs), .bool true]) ∧ Fr (fun _ => False) w w' := by
  have := last_calls g v xs w h
  rwa [lastOf_was hne] at this

theorem last_empty {g : Nat} {v : Value} (w : World) (h : IsCache w g v []) :
    Calls Try.prog 19 #[.pointer (some ⟨g, 0, none⟩)] w fun en w' => en = .returned (.tuple #[.int .i64 0, .int .i64 0, .bool false]) ∧ Fr (fun _ => False) w w' := last_calls g v [] w h

set_option maxRecDepth 100000 in
set_option maxHeartbeats 4000000 in
theorem rise_walk (A : Option Addr) (c : Nat) (os : List OpD) (w0 : World) (hos : IsOps w0 A os) (h24 : os.length * 24 ≤ 140737488351232) :
    CallsIn Fence.wide 5 Try.prog 4 #[.slice A os.length c] w0 fun e w' => e = .returned (.bool true) ∧ Below w0.heap.size w0 w' := by
  refine callsIn_of_wp_marks Try.func4 rfl trivial ?_ rfl
  simp only [Try.ntmps4, List.size_toArray, List.length_cons, List.length_nil, Nat.reduceAdd, Nat.reduceSub, Array.replicate_succ, Array.replicate_zero, List.push_toArray, List.append_toArray, List.nil_append, List.cons_append]
  have hrise := fun k => plays_rise os (fun o ho => by
    obtain ⟨i, hi', rfl⟩ := List.getElem_of_mem ho
    obtain ⟨_, _, hop⟩ := hos i _ (List.getElem?_eq_getElem hi')
    exact hop.b1) k
  have HR := Lib.hid hrise
  have HO := Lib.hid hos
  clear hos hrise
  have b2 := Boxed.new w0 4 (.bool false)
  have hbw : Below w0.heap.size w0 (w0.alloc (.cells #[.bool false] 4)) := (Below.refl _ _).alloc (Nat.le_refl _) _
  have hsz : (w0.alloc (.cells #[.bool false] 4)).heap.size = w0.heap.size + 1 := by simp
  have HZ := Lib.hid hsz
  clear hsz
  gi_wp2_with (first | (refine ⟨trivial, ?_⟩; gi_at_call 9; refine (callsIn_wide.2 (new_at _)).mono ?_; rintro e w1 ⟨g, rfl, hc1, hf1, hg1⟩) | (refine ⟨trivial, ?_⟩; gi_at_call 10; refine (callsIn_wide.2 (awake_calls _)).mono ?_; rintro e w2 ⟨rfl, hf2⟩))
  have h1 : One (w0.alloc (.cells #[.bool false] 4)) w1 g (.slice none 0 0) [] := ⟨hc1, hf1, hg1, fun k hk => (by cases hk)⟩
  have h2 := h1.step hf2
  generalize hW1 : w0.alloc (.cells #[.bool false] 4) = W1 at *
  clear hW1 h1 hc1 hf1 hg1 hf2
  refine wpIn_loop_ghost (fun n a w => ∃ (k : Nat) (v : Value) (Ds : List Nat) (u1 u4 u5 u6 u7 u8 u9 u10 u11 u12 u13 u14 u15 u16 u17 u18 u19 u20 u23 u24 u25 u26 u27 u28 u29 u30 u31 u32 u33 u34 u35 u36 u37 u38 u39 u40 u41 u42 u43 u44 u45 u46 u47 u48 u49 u50 u51 u52 u53 u54 u55 u56 u57 u58 u59 u60 u61 u62 u63 u64 u65 u66 u67 u68 u69 u70 u71 u72 u73 u74 u75 u76 u77 u78 u79 : Value), a = { tmps := #[.slice A os.length c, u1, .pointer (some ⟨w0.heap.size, 0, none⟩), .pointer (some ⟨g, 0, none⟩), u4, u5, u6, u7, u8, u9, u10, u11, u12, u13, u14, u15, u16, u17, u18, u19, u20, .slice A os.length c, .int .i64 os.length, u23, u24, u25, u26, u27, u28, u29, u30, u31, u32, u33, u34, u35, u36, u37, u38, u39, u40, u41, u42, u43, u44, u45, u46, u47, u48, u49, u50, u51, u52, u53, u54, u55, u56, u57, u58, u59, u60, u61, u62, u63, u64, u65, u66, u67, u68, u69, u70, u71, u72, u73, u74, u75, u76, u77, u78, u79], defers := Ds.map mark } ∧ u23 = .int .i64 k ∧ n = os.length - k ∧ k ≤ os.length ∧ One W1 w g v (plays (os.take k)) ∧ Marks w0.heap.size Ds w) _ ⟨0, _, [], _, _, _, _, _, _, _, _, _, _, _, _, _, _, _, _, _, _, _, _, _, _, _, _, _, _, _, _, _, _, _, _, _, _, _, _, _, _, _, _, _, _, _, _, _, _, _, _, _, _, _, _, _, _, _, _, _, _, _, _, _, _, _, _, _, _, _, _, _, _, _, _, _, _, _, rfl, rfl, rfl, Nat.zero_le _, h2, List.nodup_nil, fun D hD => by cases hD⟩ ?_
  clear h2
  rintro n a w ⟨k, v, Ds, u1, u4, u5, u6, u7, u8, u9, u10, u11, u12, u13, u14, u15, u16, u17, u18, u19, u20, u23, u24, u25, u26, u27, u28, u29, u30, u31, u32, u33, u34, u35, u36, u37, u38, u39, u40, u41, u42, u43, u44, u45, u46, u47, u48, u49, u50, u51, u52, u53, u54, u55, u56, u57, u58, u59, u60, u61, u62, u63, u64, u65, u66, u67, u68, u69, u70, u71, u72, u73, u74, u75, u76, u77, u78, u79, rfl, rfl, rfl, hk, hr, hM⟩
  by_cases hlt : k < os.length
  · obtain ⟨ad, rfl, hop⟩ := HO.out k _ (List.getElem?_eq_getElem hlt)
    obtain ⟨k0, k1, k2, k3⟩ := (hop.below hbw).below hr.fr.box
    have hlen := plays_len os k
    have HT := Lib.hid (plays_take os k _ (List.getElem?_eq_getElem hlt))
    have HRk := Lib.hid (HR.out (k + 1))
    have hlen1 := plays_len os (k + 1)
    generalize os[k] = o at *
    generalize plays (os.take k) = xs at *
    generalize hys : plays (os.take (k + 1)) = ys at *
    have HYS := Lib.hid hys
    clear hys
    have hxl : xs.length < 8796093022200 := by omega
    have hra := hr.alloc (.cells #[.int .i64 o.kind, .int .i64 o.epoch, .int .i64 o.at_] 31)
    have hMa := hM.fr ((Fr.refl _ w).alloc (.cells #[.int .i64 o.kind, .int .i64 o.epoch, .int .i64 o.at_] 31))
    have HR2 := Lib.hid hra
    have HM2 := Lib.hid hMa
    clear hra hMa
    by_cases h0 : o.kind = 0
    case' pos =>
      have hb0 : (o.kind == 0) = true := by simpa using h0
      have hY : ys = (assign xs o.epoch o.at_).2 := by rw [HT.out]; unfold playStep; rw [if_pos h0]
      have HY := Lib.hid hY
      clear h0 hY
      gi_wp2_with (first | (refine ⟨trivial, ?_⟩; gi_at_call 11; refine (callsIn_wide.2 (assign_calls g v _ _ _ _ HR2.out.c hxl)).mono ?_; rintro e w3 ⟨rfl, v3, hc3, hm3⟩; have h3 := HR2.out.moved hc3 hm3; rw [← HY.out] at h3; have hM3 := HM2.out.moved HR2.out.c hm3; clear hc3 hm3 HY HR2 HM2) | (refine ⟨trivial, ?_⟩; gi_at_call 18; refine (all_in _ _ trivial rfl _ _).mono ?_; rintro e w' ⟨rfl, rfl⟩))
    case' neg =>
      have hb0 : (o.kind == 0) = false := by simpa using h0
      have hY : ys = cut xs o.at_ := by rw [HT.out]; unfold playStep; rw [if_neg h0]
      have HY := Lib.hid hY
      clear h0 hY
      gi_wp2_with (first | (refine ⟨trivial, ?_⟩; gi_at_call 13; refine (callsIn_wide.2 (cut_calls g v _ _ _ HR2.out.c)).mono ?_; rintro e w3 ⟨rfl, v3, hc3, hm3⟩; have h3 := HR2.out.moved hc3 hm3; rw [← HY.out] at h3; have hM3 := HM2.out.moved HR2.out.c hm3; clear hc3 hm3 HY HR2 HM2) | (refine ⟨trivial, ?_⟩; gi_at_call 18; refine (all_in _ _ trivial rfl _ _).mono ?_; rintro e w' ⟨rfl, rfl⟩))
    all_goals
      have b23 : Boxed w3 w0.heap.size 4 (.bool false) := h3.fr.heap b2 (fun x => x)
      have b6 := Boxed.new w3 3 (.int .i64 (-1))
      have b7 := Boxed.new (w3.alloc (.cells #[.int .i64 (-1)] 3)) 3 (.int .i64 (-1))
      have b8 := Boxed.new ((w3.alloc (.cells #[.int .i64 (-1)] 3)).alloc (.cells #[.int .i64 (-1)] 3)) 3 (.int .i64 0)
      have b9 := Boxed.new (((w3.alloc (.cells #[.int .i64 (-1)] 3)).alloc (.cells #[.int .i64 (-1)] 3)).alloc (.cells #[.int .i64 0] 3)) 23 (.pointer (some ⟨g, 0, none⟩))
      simp only [World.size_alloc] at b7 b8 b9
      have hheld : Held w3.heap.size w3 (some ⟨g, 0, none⟩) ys := .inr ⟨g, v3, rfl, h3.c, lt_of_block h3.c.1, fun k hk => (h3.c.2.lt k hk).2⟩
      have hbase : Below w0.heap.size w0 w3 := hbw.trans (h3.fr.box.mono (by rw [HZ.out]; omega))
      refine rangeFunc_asg rfl (by decide) (gf := 21) (lb := #[.pointer (some ⟨w3.heap.size + 1 + 1 + 1, 0, none⟩)]) rfl trivial (enters_of Try.func21 (by kernel_rfl) rfl)
        (all_stops Fence.wide _ trivial rfl (by decide) (w3.heap.size + 1 + 1 + 1) w3.heap.size _ ys _ (by simp) (by simp; omega) b9.cell (hheld.below (by repeat (first | exact Below.refl _ _ | (refine Below.alloc ?_ (by simp <;> omega) _))))) (by simp; omega) (Below.refl _ _) (fun _ => rfl)
        (fun pre W => (Boxed W w3.heap.size 3 (.int .i64 (wasOf pre)) ∧ Boxed W (w3.heap.size + 1) 3 (.int .i64 (fromOf pre)) ∧ Boxed W (w3.heap.size + 1 + 1) 3 (.int .i64 pre.length)) ∧ Below w3.heap.size w3 W) (fun _ pre _ => ¬ pre <+: ys)
        ?hI (fun _ _ _ _ _ h _ _ => h) ?h0 (asg2 9 42 10 43) ?hasg ?body ?done ?stop
      case hI => exact OwnFrom.and (Own.from (fun pre X Y row h hg hrow => ⟨box_kept h.1 hg hrow, box_kept h.2.1 hg hrow, box_kept h.2.2 hg hrow⟩) _) (ownFrom_below (Nat.le_refl _) (by simp; omega))
      case h0 => exact ⟨⟨((b6.alloc _).alloc _).alloc _, (b7.alloc _).alloc _, b8.alloc _⟩, by repeat (first | exact Below.refl _ _ | (refine Below.alloc ?_ (by simp <;> omega) _))⟩
      case hasg =>
        intro l a' W K hK
        gi_wp2
        exact hK
      case stop =>
        rintro D c pre W _ hs h _
        exact absurd hs h
      case body =>
        rintro l pre ⟨xa, xb⟩ W ⟨⟨hn6, hn7, hn8⟩, hB⟩ hlt8
        have hc6 := hn6.cell
        have hc7 := hn7.cell
        have hc8 := hn8.cell
        have hf6 := hn6.frozen
        have hf7 := hn7.frozen
        have hf8 := hn8.frozen
        have hB4 : Boxed W w0.heap.size 4 (.bool false) := (hB.block _ b23.lt).trans b23
        have hc4 := hB4.cell
        have hf4 := hB4.frozen
        have HS := Lib.hid (fun hp : pre ++ [(xa, xb)] <+: ys => rise_next HRk.out hp)
        have hpn : (pre ++ [(xa, xb)]).length = pre.length + 1 := by simp
        have HPN := Lib.hid hpn
        have HWN := Lib.hid (wasOf_snoc pre (xa, xb))
        have HFN := Lib.hid (fromOf_snoc pre (xa, xb))
        clear hpn hheld
        generalize wasOf pre = wa at *
        generalize fromOf pre = fa at *
        simp only [roundAct, asg2, encs, List.zip_toArray, List.zip_cons_cons, List.zip_nil_right, List.foldl_toArray, List.foldl_cons, List.foldl_nil, List.setIfInBounds_toArray, List.set_cons_succ, List.set_cons_zero, List.getElem?_toArray, List.getElem?_cons_succ, List.getElem?_cons_zero, Option.getD_some]
        by_cases e0 : xa ≤ wa
        · have e0' : decide (xa ≤ wa) = true := by simpa using e0
          gi_wp2
          exact ⟨(KeepsOthers.setCell W ⟨w0.heap.size, 0, none⟩ (.bool false)).from _, fun hp => by have := (HS.out hp).1; omega⟩
        · have e0' : decide (xa ≤ wa) = false := by simpa using e0
          by_cases e1 : xb ≤ fa
          · have e1' : decide (xb ≤ fa) = true := by simpa using e1
            gi_wp2
            exact ⟨(KeepsOthers.setCell W ⟨w0.heap.size, 0, none⟩ (.bool false)).from _, fun hp => by have := (HS.out hp).2; omega⟩
          · have e1' : decide (xb ≤ fa) = false := by simpa using e1
            gi_wp2
            refine ⟨((KeepsOthers.setCell W ⟨w3.heap.size, 0, none⟩ _).trans ((KeepsOthers.setCell _ ⟨w3.heap.size + 1, 0, none⟩ _).trans (KeepsOthers.setCell _ ⟨w3.heap.size + 1 + 1, 0, none⟩ _))).from _, (((Below.refl _ W).setCell (p := ⟨w3.heap.size, 0, none⟩) (by simp) _).setCell (p := ⟨w3.heap.size + 1, 0, none⟩) (by simp) _).setCell (p := ⟨w3.heap.size + 1 + 1, 0, none⟩) (by simp; omega) _, ⟨?_, ?_, ?_⟩, ((hB.setCell (p := ⟨w3.heap.size, 0, none⟩) (by simp) _).setCell (p := ⟨w3.heap.size + 1, 0, none⟩) (by simp) _).setCell (p := ⟨w3.heap.size + 1 + 1, 0, none⟩) (by simp; omega) _⟩
            · rw [HWN.out]
              exact ((hn6.set _).other (by omega) _).other (by omega) _
            · rw [HFN.out]
              exact ((hn7.other (by omega) _).set _).other (by omega) _
            · rw [HPN.out]
              exact ((hn8.other (by omega) _).other (by omega) _).set _
      case done =>
        rintro D ws W hD rfl ⟨⟨hn6, hn7, hn8⟩, hB⟩ hK
        have hc6 := hn6.cell
        have hc7 := hn7.cell
        have hc8 := hn8.cell
        have hcW : IsCache W g v3 ws := h3.c.below hB (lt_of_block h3.c.1) (fun k hk => (h3.c.2.lt k hk).2)
        have fin : ∀ w4, Fr (fun _ => False) W w4 → One W1 w4 g v3 ws ∧ Marks w0.heap.size (D :: Ds) w4 := by
          intro w4 hf4
          refine ⟨⟨hcW.fr hf4 (fun x => x) (fun _ _ x => x), Fr.of_below (((h3.fr.box).trans (hB.mono h3.fr.size)).trans (hf4.box.mono (Nat.le_trans h3.fr.size hB.size))), h3.hg, h3.hv⟩, ?_⟩
          refine Marks.fr (Marks.cons (hM3.below hB hM3.lt) ?_ ?_ hK) hf4
          · have := hbase.size; simp at hD; omega
          · intro E hE
            have := hM3.lt E hE
            simp at hD
            omega
        clear b6 b7 b8 b9 hheld
        by_cases hne : ws = []
        · subst hne
          have hc8 : W.cell? ⟨w3.heap.size + 1 + 1, 0, none⟩ = some (.int .i64 0) := hc8
          gi_wp2_with (refine ⟨trivial, ?_⟩; gi_at_call 19; refine (callsIn_wide.2 (last_empty _ hcW)).mono ?_; rintro e w4 ⟨rfl, hf4⟩; have g6 := (hf4.box.cell (p := ⟨w3.heap.size, 0, none⟩) hn6.lt).trans hc6; have g7 := (hf4.box.cell (p := ⟨w3.heap.size + 1, 0, none⟩) hn7.lt).trans hc7; have g8 := (hf4.box.cell (p := ⟨w3.heap.size + 1 + 1, 0, none⟩) hn8.lt).trans hc8)
          obtain ⟨f1, f2⟩ := fin w4 hf4
          refine ⟨_, ?_, k + 1, v3, D :: Ds, _, _, _, _, _, _, _, _, _, _, _, _, _, _, _, _, _, _, _, _, _, _, _, _, _, _, _, _, _, _, _, _, _, _, _, _, _, _, _, _, _, _, _, _, _, _, _, _, _, _, _, _, _, _, _, _, _, _, _, _, _, _, _, _, _, _, _, _, _, _, _, _, _, _, _, rfl, ?_, rfl, hlt, ?_, f2⟩
          · omega
          · rfl
          · rw [HYS.out]; exact f1
        · have hc0 : 0 < ws.length := List.length_pos_iff.2 hne
          gi_wp2_with (refine ⟨trivial, ?_⟩; gi_at_call 19; refine (callsIn_wide.2 (last_was _ hcW hne)).mono ?_; rintro e w4 ⟨rfl, hf4⟩; have g6 := (hf4.box.cell (p := ⟨w3.heap.size, 0, none⟩) hn6.lt).trans hc6; have g7 := (hf4.box.cell (p := ⟨w3.heap.size + 1, 0, none⟩) hn7.lt).trans hc7; have g8 := (hf4.box.cell (p := ⟨w3.heap.size + 1 + 1, 0, none⟩) hn8.lt).trans hc8)
          obtain ⟨f1, f2⟩ := fin w4 hf4
          refine ⟨_, ?_, k + 1, v3, D :: Ds, _, _, _, _, _, _, _, _, _, _, _, _, _, _, _, _, _, _, _, _, _, _, _, _, _, _, _, _, _, _, _, _, _, _, _, _, _, _, _, _, _, _, _, _, _, _, _, _, _, _, _, _, _, _, _, _, _, _, _, _, _, _, _, _, _, _, _, _, _, _, _, _, _, _, _, rfl, ?_, rfl, hlt, ?_, f2⟩
          · omega
          · rfl
          · rw [HYS.out]; exact f1
  · obtain rfl : k = os.length := by omega
    clear hlt hk
    have b2w : Boxed w w0.heap.size 4 (.bool false) := hr.fr.heap b2 (fun x => x)
    have c2w := b2w.cell
    have f2w := b2w.frozen
    have hBw := hbw.trans (hr.fr.box.mono (by rw [HZ.out]; omega))
    gi_wp2
    refine leave_all (w0 := w0) (b := w0.heap.size) (t := 4) (u := .bool true) (v := .bool true) (fun W hb hB => ⟨?_, rfl, hB⟩) Ds _ ?_ (b2w.set _) (hBw.setCell (p := ⟨w0.heap.size, 0, none⟩) (by simp) _)
    · have := hb.cell
      simp [results, Try.f4, go_sem, this]
    · exact ⟨hM.1, fun D hD => ⟨(hM.2 D hD).1, (KeepsOthers.setCell w ⟨w0.heap.size, 0, none⟩ (.bool true)).same D _ (hM.2 D hD).2 rfl⟩⟩

theorem rise_calls {w0 : World} (A : Option Addr) (c : Nat) (os : List OpD) (_ : os.length ≤ c) (hos : IsOps w0 A os) (h24 : os.length * 24 ≤ 140737488351232) :
    Calls Try.prog 4 #[.slice A os.length c] w0 fun e w' => e = .returned (.bool true) ∧ Below w0.heap.size w0 w' := callsIn_wide.1 (rise_walk A c os w0 hos h24)
end Go.Proofs.Ythiepdldliiakaa

/- The reference's Cache by contract: Cut, Last, End, Assign. No conditions. -/
import Derived.Test.YthiepdldliiakaaPlain
import Derived.Test.YthiepdldliiakaaRange
import Derived.RegionTactic
import Derived.BigQuiet
import Derived.Deep.QuietTactic
import Derived.Maps.AppendAt
import Derived.Outline
namespace Go.Proofs.Ythiepdldliiakaa
open Go Go.RowKit

def fsts (xs : List (Int × Int)) : List Value := xs.map fun x => .int .i64 x.1
def snds (xs : List (Int × Int)) : List Value := xs.map fun x => .int .i64 x.2

/-- The reference's cache at block g, its two slice values va, vb, reads as xs. -/
structure IsRef (w : World) (g : Nat) (va vb : Value) (xs : List (Int × Int)) : Prop where
  blk : w.heap[g]? = some (.cells #[va, vb] 28 (0, 0))
  ra : w.ownsRow 0 3 1 va xs.length (fsts xs)
  rb : w.ownsRow 0 3 1 vb xs.length (snds xs)
  ne : ∀ j, va.ownBlock = some j → vb.ownBlock ≠ some j

theorem row_form {w : World} {base : Nat} {e : TypeId} {size n : Nat} {v : Value} {xs : List Value} (h : w.ownsRow base e size v n xs) : ∃ A c, v = .slice A n c ∧ n ≤ c ∧ c ≤ 9223372036854775807 := by
  rcases row_cases h with ⟨rfl, rfl⟩ | ⟨r, c, rfl, h1, h2, _⟩
  · exact ⟨none, 0, rfl, Nat.le_refl _, by omega⟩
  · unfold maxLen at h2
    exact ⟨_, c, rfl, h1, by omega⟩

theorem row_base {w : World} {base base' : Nat} {e : TypeId} {size n : Nat} {v : Value} {xs : List Value} (h : w.ownsRow base e size v n xs) (hb : base' ≤ base) : w.ownsRow base' e size v n xs := by
  refine ⟨h.1, ?_⟩
  rcases h.2 with hn | ⟨r, cap, cur, rfl, h1, h2, rest⟩
  · exact .inl hn
  · exact .inr ⟨r, cap, cur, rfl, by omega, h2, rest⟩

theorem row_at {w : World} {base : Nat} {e : TypeId} {n : Nat} {v : Value} {xs : List Value} (h : w.ownsRow base e 1 v n xs) {k : Nat} (hk : k < n) {u : Value} (hu : xs[k]? = some u) :
    ∃ r c, v = .slice (some ⟨r, 0, none⟩) n c ∧ n ≤ c ∧ c ≤ 9223372036854775807 ∧ r < w.heap.size ∧ w.cell? ⟨r, k, none⟩ = some u := by
  rcases row_cases h with ⟨rfl, h0⟩ | ⟨r, c, rfl, h1, h2, h3⟩
  · omega
  · unfold maxLen at h2
    exact ⟨r, c, rfl, h1, by omega, h3, row_cell h hu⟩

theorem fsts_get (xs : List (Int × Int)) (k : Nat) (hk : k < xs.length) : (fsts xs)[k]? = some (.int .i64 (xs.getD k (0, 0)).1) := by simp [fsts, List.getD, hk]
theorem snds_get (xs : List (Int × Int)) (k : Nat) (hk : k < xs.length) : (snds xs)[k]? = some (.int .i64 (xs.getD k (0, 0)).2) := by simp [snds, List.getD, hk]
theorem fsts_len (xs : List (Int × Int)) : (fsts xs).length = xs.length := by simp [fsts]
theorem snds_len (xs : List (Int × Int)) : (snds xs).length = xs.length := by simp [snds]

theorem cell_of_two0 {w : World} {b : Nat} {v u : Value} {t : TypeId} (h : w.heap[b]? = some (.cells #[v, u] t (0, 0))) : w.cell? ⟨b, 0, none⟩ = some v := by simp [World.cell?, h]
theorem cell_of_two1 {w : World} {b : Nat} {v u : Value} {t : TypeId} (h : w.heap[b]? = some (.cells #[v, u] t (0, 0))) : w.cell? ⟨b, 1, none⟩ = some u := by simp [World.cell?, h]
theorem free_of_two {w : World} {b : Nat} {v u : Value} {t : TypeId} (h : w.heap[b]? = some (.cells #[v, u] t (0, 0))) (j : Nat) : w.frozen? ⟨b, j, none⟩ = false := by simp [World.frozen?, h]
theorem two_set0 {w : World} {b : Nat} {v u x : Value} {t : TypeId} (h : w.heap[b]? = some (.cells #[v, u] t (0, 0))) : (w.setCell ⟨b, 0, none⟩ x).heap[b]? = some (.cells #[x, u] t (0, 0)) := by
  have hlt := lt_of_block h
  have h' : w.heap[b] = .cells #[v, u] t (0, 0) := by simpa [Array.getElem?_eq_getElem hlt] using h
  show (w.heap.modify b _)[b]? = _
  rw [Array.getElem?_eq_getElem (by simpa using hlt), Array.getElem_modify_self, h']
  rfl
theorem two_set1 {w : World} {b : Nat} {v u x : Value} {t : TypeId} (h : w.heap[b]? = some (.cells #[v, u] t (0, 0))) : (w.setCell ⟨b, 1, none⟩ x).heap[b]? = some (.cells #[v, x] t (0, 0)) := by
  have hlt := lt_of_block h
  have h' : w.heap[b] = .cells #[v, u] t (0, 0) := by simpa [Array.getElem?_eq_getElem hlt] using h
  show (w.heap.modify b _)[b]? = _
  rw [Array.getElem?_eq_getElem (by simpa using hlt), Array.getElem_modify_self, h']
  rfl

/-- The reference's cache is written; its two rows are the elder ones or new. -/
structure Moved2 (g : Nat) (va vb va' vb' : Value) (w w' : World) : Prop where
  fr : Fr (fun k => k = g ∨ va.ownBlock = some k ∨ vb.ownBlock = some k) w w'
  own : ∀ k, va'.ownBlock = some k ∨ vb'.ownBlock = some k → (va.ownBlock = some k ∨ vb.ownBlock = some k) ∨ w.heap.size ≤ k

theorem Moved2.refl (g : Nat) (va vb : Value) (w : World) : Moved2 g va vb va vb w w := ⟨Fr.refl _ _, fun _ h => .inl h⟩
theorem Moved2.of_fr {g : Nat} {va vb : Value} {w w' : World} (h : Fr (fun _ => False) w w') : Moved2 g va vb va vb w w' := ⟨h.weak (fun _ _ h => h.elim), fun _ h => .inl h⟩
theorem Moved2.trans {g : Nat} {va vb va1 vb1 va2 vb2 : Value} {a b c : World} (h : Moved2 g va vb va1 vb1 a b) (k : Moved2 g va1 vb1 va2 vb2 b c) : Moved2 g va vb va2 vb2 a c := by
  refine ⟨h.fr.trans' k.fr (fun i hi hs => ?_), fun i e => ?_⟩
  · rcases hs with rfl | hs
    · exact .inl rfl
    · rcases h.own i hs with h1 | h1
      · exact .inr h1
      · omega
  · rcases k.own i e with h1 | h1
    · exact h.own i h1
    · exact .inr (Nat.le_trans h.fr.size h1)

theorem IsRef.fr {S : Nat → Prop} {w w' : World} {g : Nat} {va vb : Value} {xs : List (Int × Int)} (h : IsRef w g va vb xs) (hf : Fr S w w') (hg : ¬ S g) (hs : ∀ k, va.ownBlock = some k ∨ vb.ownBlock = some k → ¬ S k) : IsRef w' g va vb xs :=
  ⟨hf.heap h.blk hg, hf.row h.ra (fun k hk => hs k (.inl hk)), hf.row h.rb (fun k hk => hs k (.inr hk)), h.ne⟩

theorem row_not_type {w : World} {base : Nat} {e t : TypeId} {size n g : Nat} {v : Value} {xs : List Value} {cs : Array Value} (h : w.ownsRow base e size v n xs) (hb : w.heap[g]? = some (.cells cs t (0, 0))) (hte : e ≠ t) : v.ownBlock ≠ some g := by
  intro he
  rcases h.2 with ⟨rfl, _⟩ | ⟨r, c, cur, rfl, _, hr, _⟩
  · simp [Value.ownBlock] at he
  · simp [Value.ownBlock] at he
    subst he
    rw [hb] at hr
    injection hr with hr
    injection hr with _ hr
    exact hte hr.symm

/-- What the reference's Cut leaves. -/
def keep (xs : List (Int × Int)) (a : Int) : List (Int × Int) := xs.filter fun x => decide (x.2 < a)

/-- What stands at the head of a round of the reference's Cut. -/
structure CutRel (w wr : World) (ve vs : Value) (ys : List (Int × Int)) : Prop where
  re : wr.ownsRow w.heap.size 3 1 ve ys.length (fsts ys)
  rs : wr.ownsRow w.heap.size 3 1 vs ys.length (snds ys)
  ne : ∀ j, ve.ownBlock = some j → vs.ownBlock ≠ some j
  bel : Below w.heap.size w wr

theorem info3 : (Try.prog.info? 3).map (fun i => (i.zero, i.size, i.bytes)) = some (some (.int .i64 0), 1, 8) := by kernel_rfl

theorem row_grown {w w' : World} {base : Nat} {e : TypeId} {size n : Nat} {v : Value} {xs : List Value} {row : Option Nat} {o : Obj} (h : w.ownsRow base e size v n xs) (hg : (w.alloc o).grownBy w' row) (hd : ∀ j, row = some j → v.ownBlock ≠ some j) : w'.ownsRow base e size v n xs :=
  (h.alloc o).kept hg (by
    cases hv : v.ownBlock with
    | none => exact .inl rfl
    | some j => exact .inr (fun e => hd j e.symm hv))

theorem cut_below {w wr w1 : World} {B : Nat} {e size n : Nat} {v : Value} {xs : List Value} {o : Obj} (h : Below B w wr) (hv : wr.ownsRow B e size v n xs) (hB : B ≤ wr.heap.size) (hg : (wr.alloc o).grownBy w1 v.ownBlock) : Below B w w1 :=
  (h.alloc hB o).grown hg (by simp; omega) (fun k hk => (hv.lt k hk).1)

theorem Fr.of_below {S : Nat → Prop} {w w' : World} (h : Below w.heap.size w w') : Fr S w w' := ⟨h.os, h.tape, h.output, h.size, fun k hk _ => h.block k hk⟩

/-- Two appends, one to each of two rows. -/
theorem pushes {wr w1 w2 : World} {B n r1 c1 r2 c2 : Nat} {ve vs : Value} {xs1 xs2 : List Value} {u1 u2 : Value} {o1 o2 : Obj} (hre : wr.ownsRow B 3 1 ve n xs1) (hrs : wr.ownsRow B 3 1 vs n xs2) (hne : ∀ j, ve.ownBlock = some j → vs.ownBlock ≠ some j)
    (ho1 : w1.ownsRow B 3 1 (.slice (some ⟨r1, 0, none⟩) (n + 1) c1) (n + 1) (xs1 ++ [u1])) (hg1 : (wr.alloc o1).grownBy w1 ve.ownBlock) (hat1 : ve.ownBlock = some r1 ∨ r1 = (wr.alloc o1).heap.size)
    (_ho2 : w2.ownsRow B 3 1 (.slice (some ⟨r2, 0, none⟩) (n + 1) c2) (n + 1) (xs2 ++ [u2])) (hg2 : (w1.alloc o2).grownBy w2 vs.ownBlock) (hat2 : vs.ownBlock = some r2 ∨ r2 = (w1.alloc o2).heap.size) :
    w2.ownsRow B 3 1 (.slice (some ⟨r1, 0, none⟩) (n + 1) c1) (n + 1) (xs1 ++ [u1]) ∧ r1 ≠ r2 := by
  have h1 : vs.ownBlock ≠ some r1 := by
    rcases hat1 with h | h
    · exact hne r1 h
    · intro e
      have := (hrs.lt r1 e).2
      simp at h
      omega
  refine ⟨row_grown ho1 hg2 (fun j hj e => ?_), ?_⟩
  · simp [Value.ownBlock] at e
    subst e
    exact h1 hj
  · rintro rfl
    rcases hat2 with h | h
    · exact h1 h
    · have := (ho1.lt r1 rfl).2
      simp at h
      omega

set_option maxHeartbeats 1000000 in
theorem rcut_calls (g : Nat) (va vb : Value) (xs : List (Int × Int)) (at_ : Int) (w : World) (h : IsRef w g va vb xs) (hlen : xs.length < 8796093022200) :
    Calls Try.prog 14 #[.pointer (some ⟨g, 0, none⟩), .int .i64 at_] w fun e w' => e = .returned (.tuple #[]) ∧ ∃ va' vb', IsRef w' g va' vb' (keep xs at_) ∧ Moved2 g va vb va' vb' w w' := by
  obtain ⟨i0, hi, hz0, hz1, hz2⟩ := info_parts info3
  have hgl := lt_of_block h.blk
  obtain ⟨Aa, ca, rfl, hca, hcma⟩ := row_form h.ra
  obtain ⟨Ab, cb, rfl, hcb, hcmb⟩ := row_form h.rb
  have H := Lib.hid h
  have f0 := cell_of_two0 h.blk
  have f1 := cell_of_two1 h.blk
  clear h
  go_enter Try.func14, Try.ntmps14
  go_wp2
  go_loopw [4, 5, 6] (fun ve vs i wr => ∃ k : Nat, k ≤ xs.length ∧ i = .int .i64 k ∧ CutRel w wr ve vs (keep (xs.take k) at_)) (fun _ _ i _ => xs.length - (intOf i).toNat)
  case atStart => exact ⟨0, Nat.zero_le _, rfl, World.ownsRow_nil _ _ _ _, World.ownsRow_nil _ _ _ _, fun j hj => (by cases hj), Below.refl _ _⟩
  case round =>
    obtain ⟨k, hk, rfl, hre, hrs, hne, hbel⟩ := hrel
    have e0 := (hbel.cell (p := ⟨g, 0, none⟩) hgl).trans f0
    have e1 := (hbel.cell (p := ⟨g, 1, none⟩) hgl).trans f1
    clear f0 f1
    by_cases hlt : k < xs.length
    · obtain ⟨ra, ca', e2, _, _, hral, x0⟩ := row_at H.out.ra hlt (fsts_get xs k hlt)
      obtain ⟨rb, cb', e3, _, _, hrbl, x1⟩ := row_at H.out.rb hlt (snds_get xs k hlt)
      injection e2 with e2 _ _
      injection e3 with e3 _ _
      subst e2 e3
      have x0 := (hbel.cell (p := ⟨ra, k, none⟩) hral).trans x0
      have x1' := (hbel.cell (p := ⟨rb, k, none⟩) hrbl).trans x1
      have e1w := cell_of_two1 H.out.blk
      have ht : xs.take (k + 1) = xs.take k ++ [xs.getD k (0, 0)] := by rw [List.take_succ_eq_append_getElem hlt]; simp [List.getD, hlt]
      have hkeep : keep (xs.take (k + 1)) at_ = keep (xs.take k) at_ ++ (if (xs.getD k (0, 0)).2 < at_ then [xs.getD k (0, 0)] else []) := by
        rw [ht, keep, List.filter_append]
        by_cases hx : (xs.getD k (0, 0)).2 < at_ <;> simp [keep, List.filter_cons, hx]
      generalize xs.getD k (0, 0) = x at x0 x1 x1' hkeep
      clear ht
      have hyl : (keep (xs.take k) at_).length < 8796093022200 := by
        have h1 := List.length_filter_le (fun x : Int × Int => decide (x.2 < at_)) (xs.take k)
        rw [List.length_take] at h1
        show (List.filter _ _).length < _
        omega
      have HK := Lib.hid hkeep
      clear hkeep
      generalize keep (xs.take k) at_ = ys at *
      by_cases hx : x.2 < at_
      · have hyk : keep (xs.take (k + 1)) at_ = ys ++ [x] := by rw [HK.out, if_pos hx]
        have HY := Lib.hid hyk
        clear hyk HK
        go_wp2_with (first | (at_builtin; refine wpList_append_lies _ rfl (.tmp 25) (.tmp 33) 26 rfl w.heap.size 3 i0 _ 1 8 Try.underlying26 hi hz0 hz1 hz2 rfl (by decide) _ _ _ rfl (hre.alloc _) ⟨wr.heap.size, 0, none⟩ 1 1 [.int .i64 x.1] rfl rfl (cell_one_new _ _ _) (by simp [Value.oneCell']) (by decide) (by unfold maxLen; omega) (by omega) (by have := hbel.size; simp; omega) _ rfl ?_; intro r1 c1 w1 ho1 hg1 hat1 _; have hb1 := cut_below hbel hre hbel.size hg1; have e1' := (hb1.cell (p := ⟨g, 1, none⟩) hgl).trans e1w; have x1' := (hb1.cell (p := ⟨rb, k, none⟩) hrbl).trans x1) | (at_builtin; refine wpList_append_lies _ rfl (.tmp 35) (.tmp 43) 26 rfl w.heap.size 3 i0 _ 1 8 Try.underlying26 hi hz0 hz1 hz2 rfl (by decide) _ _ _ rfl ((row_grown hrs hg1 hne).alloc _) ⟨w1.heap.size, 0, none⟩ 1 1 [.int .i64 x.2] rfl rfl (cell_one_new _ _ _) (by simp [Value.oneCell']) (by decide) (by unfold maxLen; omega) (by omega) (by have := hb1.size; simp; omega) _ rfl ?_; intro r2 c2 w2 ho2 hg2 hat2 _))
        obtain ⟨p1, p2⟩ := pushes hre hrs hne ho1 hg1 hat1 ho2 hg2 hat2
        refine ⟨⟨k + 1, hlt, by go_num, ?_⟩, by simp [intOf]; omega⟩
        rw [HY.out]
        refine ⟨by simpa [fsts] using p1, by simpa [snds] using ho2, ?_, cut_below hb1 (row_grown hrs hg1 hne) hb1.size hg2⟩
        intro j hj hj2
        simp [Value.ownBlock] at hj hj2
        omega
      · have hyk : keep (xs.take (k + 1)) at_ = ys := by rw [HK.out, if_neg hx, List.append_nil]
        have HY := Lib.hid hyk
        clear hyk HK
        go_wp2
        refine ⟨⟨k + 1, hlt, by go_num, ?_⟩, by simp [intOf]; omega⟩
        rw [HY.out]
        exact ⟨hre, hrs, hne, hbel⟩
    · obtain rfl : k = xs.length := by omega
      rw [List.take_length] at hre hrs
      obtain ⟨A1, c1, rfl, _, _⟩ := row_form hre
      obtain ⟨A2, c2, rfl, _, _⟩ := row_form hrs
      have hb : wr.heap[g]? = some (.cells #[.slice Aa xs.length ca, .slice Ab xs.length cb] 28 (0, 0)) := by rw [hbel.block g hgl]; exact H.out.blk
      have fz0 := free_of_two hb 0
      have fz1 := free_of_two hb 1
      have hb2 := two_set1 (x := .slice A2 (keep xs at_).length c2) (two_set0 (x := .slice A1 (keep xs at_).length c1) hb)
      have HB := Lib.hid hb2
      have HB1 := Lib.hid (two_set0 (x := .slice A1 (keep xs at_).length c1) hb)
      have HB0 := Lib.hid hb
      clear hb hb2
      go_wp2
      go_end0
      refine ⟨rfl, _, _, ⟨HB.out, ?_, ?_, hne⟩, ?_, ?_⟩
      · exact ownsRow_setCell_other (ownsRow_setCell_other (row_base hre (Nat.zero_le _)) (row_not_type hre HB0.out (by decide)) _) (row_not_type (row_base hre (Nat.zero_le _)) HB0.out (by decide)) _
      · exact ownsRow_setCell_other (ownsRow_setCell_other (row_base hrs (Nat.zero_le _)) (row_not_type hrs HB0.out (by decide)) _) (row_not_type (row_base hrs (Nat.zero_le _)) HB0.out (by decide)) _
      · exact Fr.setCell (Fr.setCell (Fr.of_below hbel) (fun _ => .inl rfl) _) (fun _ => .inl rfl) _
      · intro j hj
        rcases hj with hj | hj
        · exact .inr (hre.lt j hj).1
        · exact .inr (hrs.lt j hj).1
end Go.Proofs.Ythiepdldliiakaa

/- The reference's net: what its functions compute. No conditions. -/
import Derived.Test.YtalaghkpbdaonaaNetV
import Derived.Test.YtalaghkpbdaonaaNetM
import Derived.Laws.ResultCell
import Derived.Test.YtalaghkpbdaonaaCutsA
namespace Go.Proofs.Ytalaghkpbdaonaa
open Go Go.RowKit H Go.Proofs.YtalaghkpbdaonaaW.PrintWords

/-- The words of pairs. -/
def flatP (cs : List (Int × Int)) : List Value := cs.flatMap fun p => [.int .i64 p.1, .int .i64 p.2]

/-- The reference's net at block R: a row of packets, a row of pairs. -/
structure RefIn (w : World) (base R : Nat) (lv cv : Value) (ps : List S28) (cs : List (Int × Int)) : Prop where
  geR : base ≤ R
  cell : w.heap[R]? = some (.cells #[lv, cv] 47 (0, 0))
  list : ∃ xs, w.ownsRow base 28 3 lv ps.length xs ∧ Reps (k28.M w base (fun _ => True)) 3 ps xs
  cuts : w.ownsRow base 37 2 cv cs.length (flatP cs)

theorem body_keep {w W : World} {base : Nat} {v : Value} {xs : List Int} (h : (Kd.int .u8).R 5 w base (fun _ => True) v xs) (hk : ∀ k cells fr, base ≤ k → k < w.heap.size → w.heap[k]? = some (.cells cells 5 fr) → W.heap[k]? = w.heap[k]?) : (Kd.int .u8).R 5 W base (fun _ => True) v xs := by
  refine Kd.R_mono (Kd.R_move (Kd.R_bound h) (fun k hk2 => ?_)) (fun _ _ => trivial)
  obtain ⟨_, hkb, hklt, q, hq, cells, hcl⟩ := hk2
  have hq5 : q = 5 := by simpa [Kd.int, Kd.scalar] using hq
  subst hq5
  exact hk k _ _ hkb hklt hcl

theorem reps_keep {w W : World} {base : Nat} {ps : List S28} {xs : List Value} (hr : Reps (k28.M w base (fun _ => True)) 3 ps xs) (hk : ∀ k cells fr, base ≤ k → k < w.heap.size → w.heap[k]? = some (.cells cells 5 fr) → W.heap[k]? = w.heap[k]?) : Reps (k28.M W base (fun _ => True)) 3 ps xs := by
  refine hr.imp_ (fun p c hp => ?_)
  have hb := k28.M_bound hp
  refine k28.M_mono (fun _ _ => trivial) (k28.M_move (fun k hk2 => ?_) hb)
  obtain ⟨_, hkb, hklt, q, hq, cells, hcl⟩ := hk2
  have hq5 : q = 5 := by simpa [k28, Kd.iso, Kd.pair, Kd.slice, Kd.int, Kd.scalar] using hq
  subst hq5
  exact hk k _ _ hkb hklt hcl

theorem ty_ne {w : World} {a b : Nat} {cs cs' : Array Value} {t t' : TypeId} {fr fr' : Nat × Nat} (ha : w.heap[a]? = some (.cells cs t fr)) (hb : w.heap[b]? = some (.cells cs' t' fr')) (ht : t ≠ t') : a ≠ b := by
  rintro rfl
  rw [ha] at hb
  injection hb with hb
  injection hb with _ hb
  exact ht hb

/-- A reference whose memory is kept, but for one list of packets that is not its own, one block of the net and a map. -/
theorem RefIn.keep {w w' : World} {base R : Nat} {lv cv : Value} {ps : List S28} {cs : List (Int × Int)} (h : RefIn w base R lv cv ps cs)
    (hk : ∀ k cells t fr, base ≤ k → k < w.heap.size → w.heap[k]? = some (.cells cells t fr) → t ≠ 56 → (t = 28 → lv.ownBlock = some k) → w'.heap[k]? = w.heap[k]?) : RefIn w' base R lv cv ps cs := by
  obtain ⟨h1, h2, ⟨xs, hx, hr⟩, h3⟩ := h
  refine ⟨h1, (hk _ _ _ _ h1 (blk_lt h2) h2 (by decide) (fun e => by cases e)).trans h2, ⟨xs, own_move hx (fun k hk2 => ?_), reps_keep hr (fun k cells fr hb hl hc => hk k _ _ _ hb hl hc (by decide) (fun e => by cases e))⟩, own_move h3 (fun k hk2 => ?_)⟩
  · obtain ⟨cells, hc⟩ := own_typed hx k hk2
    exact hk k _ _ _ (own_base hx k hk2) (own_lt hx k hk2) hc (by decide) (fun _ => hk2)
  · obtain ⟨cells, hc⟩ := own_typed h3 k hk2
    exact hk k _ _ _ (own_base h3 k hk2) (own_lt h3 k hk2) hc (by decide) (fun e => by cases e)

theorem RefIn.below {w w' : World} {base R : Nat} {lv cv : Value} {ps : List S28} {cs : List (Int × Int)} (h : RefIn w base R lv cv ps cs) (hb : Below w.heap.size w w') : RefIn w' base R lv cv ps cs :=
  h.keep (fun k _ _ _ _ hl _ _ _ => hb.block k hl)

theorem row_at {w : World} {base n size : Nat} {e : TypeId} {v : Value} {xs : List Value} (h : w.ownsRow base e size v n xs) (h0 : 0 < n) : ∃ g c cur, v = .slice (some ⟨g, 0, none⟩) n c ∧ base ≤ g ∧ w.heap[g]? = some (.cells cur e (0, 0)) ∧ n ≤ c ∧ c ≤ maxLen ∧ cur.size = c * size ∧ cur.toList.take (n * size) = xs := by
  rcases h.2 with ⟨_, h2⟩ | ⟨g, c, cur, hv, h3⟩
  · omega
  · exact ⟨g, c, cur, hv, h3⟩

/-- An element's words, out of a row. -/
theorem row_cells {w : World} {base n size : Nat} {e : TypeId} {v : Value} {xs : List Value} (h : w.ownsRow base e size v n xs) (h0 : 0 < n) : ∃ g c, v = .slice (some ⟨g, 0, none⟩) n c ∧ n ≤ c ∧ ∀ j u, xs[j]? = some u → w.cell? ⟨g, j, none⟩ = some u := by
  obtain ⟨g, c, cur, hv, _, hh, hc, _, hs, hx⟩ := row_at h h0
  refine ⟨g, c, hv, hc, fun j u hu => ?_⟩
  have hj : j < n * size := by have := (List.getElem?_eq_some_iff.1 hu).1; rw [h.1] at this; exact this
  rw [← hx, List.getElem?_take, if_pos hj] at hu
  rw [blk_cell hh, ← Array.getElem?_toList]
  exact hu

/-- A packet of the reference's list. -/
theorem RefIn.elem {w : World} {base R : Nat} {lv cv : Value} {ps : List S28} {cs : List (Int × Int)} (h : RefIn w base R lv cv ps cs) (k : Nat) (hk : k < ps.length) :
    ∃ (g c : Nat) (A2 : Option Addr) (c2 : Nat), lv = .slice (some ⟨g, 0, none⟩) ps.length c ∧ ps.length ≤ c ∧ (Kd.int .u8).R 5 w base (fun _ => True) (.slice A2 (ps.getD k z28).f2.length c2) (ps.getD k z28).f2 ∧
      w.cell? ⟨g, k * 3, none⟩ = some (.int .i64 (ps.getD k z28).f0) ∧ w.cell? ⟨g, k * 3 + 1, none⟩ = some (.int .i64 (ps.getD k z28).f1) ∧ w.cell? ⟨g, k * 3 + 2, none⟩ = some (.slice A2 (ps.getD k z28).f2.length c2) := by
  obtain ⟨_, _, ⟨xs, hx, hr⟩, _⟩ := h
  obtain ⟨g, c, hv, hc, hcell⟩ := row_cells hx (by omega)
  have hxk : ps[k]? = some (ps.getD k z28) := by rw [List.getD_eq_getElem?_getD, List.getElem?_eq_getElem hk]; rfl
  generalize ps.getD k z28 = x at *
  obtain ⟨v2, he, hR⟩ := k28_openM (hr.2 k x hxk)
  obtain ⟨A2, c2, rfl⟩ := Kd.R_slice hR
  have hce : ∀ i u, ([.int .i64 x.f0, .int .i64 x.f1, .slice A2 x.f2.length c2] : List Value)[i]? = some u → w.cell? ⟨g, k * 3 + i, none⟩ = some u := by
    intro i u hu
    have hi : i < 3 := by have := (List.getElem?_eq_some_iff.1 hu).1; simpa using this
    rw [← he, List.getElem?_take, if_pos hi, List.getElem?_drop] at hu
    exact hcell _ u hu
  exact ⟨g, c, A2, c2, hv, hc, hR, hce 0 _ rfl, hce 1 _ rfl, hce 2 _ rfl⟩

theorem RefIn.form {w : World} {base R : Nat} {lv cv : Value} {ps : List S28} {cs : List (Int × Int)} (h : RefIn w base R lv cv ps cs) : ∃ A c, lv = .slice A ps.length c := by
  obtain ⟨_, _, ⟨xs, hx, _⟩, _⟩ := h
  exact row_val hx

theorem rem_math (i : Int) (n : Nat) (h0 : 0 < n) (hn : n ≤ 1000000) : (Int.tmod i n < 0 → wrap64 (Int.tmod i n + n) = i % n) ∧ (¬ Int.tmod i n < 0 → Int.tmod i n = i % n) := by
  have h := at_math i n h0 hn
  have h1 : -(n : Int) < Int.tmod i n ∧ Int.tmod i n < n := by
    constructor
    · have := Int.lt_tmod_of_pos i (show (0 : Int) < n by omega); omega
    · exact Int.tmod_lt_of_pos i (by omega)
  have h2 : wrap64 (Int.tmod i n + n) = Int.tmod i n + n := by unfold wrap64; omega
  rw [h2] at h ⊢
  constructor
  · intro hlt
    rw [Int.tmod_eq_emod_of_nonneg (by omega), Int.emod_eq_of_lt (by omega) (by omega)] at h
    exact h
  · intro hge
    rw [Int.tmod_eq_emod_of_nonneg (by omega), Int.add_emod_right, Int.emod_eq_of_lt (by omega) (by omega)] at h
    exact h

set_option maxRecDepth 100000 in
set_option maxHeartbeats 4000000 in
theorem ref_at {w : World} {base R : Nat} {lv cv : Value} {ps : List S28} {cs : List (Int × Int)} (h : RefIn w base R lv cv ps cs) (hp : ps.length ≤ 256) (i : Int) :
    Calls Try.prog 31 #[.pointer (some ⟨R, 0, none⟩), .int .i64 i] w fun e w' => e = .returned (.int .i64 (atF ps.length i)) ∧ w' = w := by
  obtain ⟨A, c, rfl⟩ := h.form
  have q := blk_cell h.cell
  clear h
  generalize ps.length = n at *
  rcases Nat.eq_zero_or_pos n with h0 | h0
  · subst h0
    clear hp
    go_enter Try.func31, Try.ntmps31
    go_wp2
    go_ret
    exact ⟨rfl, rfl⟩
  · have hz : ¬ (n : Int) = 0 := by omega
    have hm := Lib.hid (fun i => rem_math i n h0 (by omega))
    have ha : Hid (atF n i = i % n) := by show _ = _; unfold atF; rw [if_neg (by omega)]
    have hb : Hid (0 ≤ i % n ∧ i % n < n) := ⟨Int.emod_nonneg _ hz, Int.emod_lt_of_pos _ (by omega)⟩
    go_enter Try.func31, Try.ntmps31
    go_wp2
    go_loopw [1] (fun t wr => ∃ j : Int, t = .int .i64 j ∧ (j = i ∨ j = i % n) ∧ wr = w)
      (fun t _ => if 0 ≤ intOf t ∧ intOf t < n then 0 else 1)
    case atStart => exact ⟨i, rfl, .inl rfl, rfl⟩
    case round =>
      obtain ⟨j, rfl, hj, rfl⟩ := hrel
      by_cases hin : 0 ≤ j ∧ j < n
      · have hj2 : j = i % n := by
          rcases hj with rfl | h
          · exact (Int.emod_eq_of_lt hin.1 hin.2).symm
          · exact h
        have c1 := eq_false (show ¬ j < 0 by omega)
        have c2 := eq_false (show ¬ (n : Int) ≤ j by omega)
        have HJ := Lib.hid hj2
        clear hin hj hj2
        go_wp2
        go_ret
        exact ⟨by rw [ha.out, ← HJ.out]; rfl, rfl⟩
      · have hji : j = i := by
          rcases hj with h | h
          · exact h
          · rw [h] at hin
            exact absurd hb.out hin
        have hlt : ∀ q : Int, q = i % n → (∃ j', Value.int .i64 q = .int .i64 j' ∧ (j' = i ∨ j' = i % n) ∧ True) ∧ (if 0 ≤ intOf (.int .i64 q) ∧ intOf (.int .i64 q) < n then 0 else 1) < (if 0 ≤ intOf (.int .i64 j) ∧ intOf (.int .i64 j) < n then 0 else 1) := fun q hq => by
          refine ⟨⟨q, rfl, .inr hq, trivial⟩, ?_⟩
          rw [if_neg (show ¬ (0 ≤ intOf (.int .i64 j) ∧ intOf (.int .i64 j) < n) from hin), if_pos (show 0 ≤ intOf (.int .i64 q) ∧ intOf (.int .i64 q) < n by rw [hq]; exact hb.out)]
          decide
        have HL := Lib.hid hlt
        subst hji
        have HR := Lib.hid (hm.out j)
        by_cases hneg : j < 0
        · have c1 := eq_true hneg
          clear hin hj hlt hneg
          by_cases ht : Int.tmod j n < 0
          · have c3 := eq_true ht
            have e := Lib.hid (HR.out.1 ht)
            go_wp2
            exact HL.out _ e.out
          · have c3 := eq_false ht
            have e := Lib.hid (HR.out.2 (by omega))
            go_wp2
            exact HL.out _ e.out
        · have c1 := eq_false hneg
          have c2 := eq_true (show (n : Int) ≤ j by omega)
          clear hin hj hlt hneg
          by_cases ht : Int.tmod j n < 0
          · have c3 := eq_true ht
            have e := Lib.hid (HR.out.1 ht)
            go_wp2
            exact HL.out _ e.out
          · have c3 := eq_false ht
            have e := Lib.hid (HR.out.2 (by omega))
            go_wp2
            exact HL.out _ e.out
end Go.Proofs.Ytalaghkpbdaonaa

namespace Go.Proofs.Ytalaghkpbdaonaa
open Go Go.RowKit H Go.Proofs.YtalaghkpbdaonaaW.PrintWords

theorem RefIn.sent {w w1 w5 : World} {base R g5 c5 : Nat} {lv cv v2 : Value} {ps : List S28} {cs : List (Int × Int)} {x : S28} {xs : List Value} (h : RefIn w base R lv cv ps cs) (hx : w.ownsRow base 28 3 lv ps.length xs) (hr : Reps (k28.M w base (fun _ => True)) 3 ps xs)
    (hb : Below w.heap.size w w1) (hg : w1.grownBy w5 lv.ownBlock) (hown : w5.ownsRow base 28 3 (.slice (some ⟨g5, 0, none⟩) (ps.length + 1) c5) (ps.length + 1) (xs ++ [.int .i64 x.f0, .int .i64 x.f1, v2]))
    (hR : (Kd.int .u8).R 5 w base (fun _ => True) v2 x.f2) (ho : lv.ownBlock = some g5 ∨ w.heap.size ≤ g5) :
    RefIn (w5.setCell ⟨R, 0, none⟩ (.slice (some ⟨g5, 0, none⟩) (ps.length + 1) c5)) base R (.slice (some ⟨g5, 0, none⟩) (ps.length + 1) c5) cv (ps ++ [x]) cs ∧ NetMoved w (w5.setCell ⟨R, 0, none⟩ (.slice (some ⟨g5, 0, none⟩) (ps.length + 1) c5)) base R lv ∧ Stays w lv (.slice (some ⟨g5, 0, none⟩) (ps.length + 1) c5) := by
  obtain ⟨h1, h2, _, h3⟩ := h
  have hkeep : ∀ k, k < w.heap.size → some k ≠ lv.ownBlock → w5.heap[k]? = w.heap[k]? := fun k hk hne => (hg.block k (Nat.lt_of_lt_of_le hk hb.size) hne).trans (hb.block k hk)
  have hset : ∀ k, k ≠ R → (w5.setCell ⟨R, 0, none⟩ (.slice (some ⟨g5, 0, none⟩) (ps.length + 1) c5)).heap[k]? = w5.heap[k]? := fun k hk => Below.heap_setCell w5 ⟨R, 0, none⟩ _ k hk
  have hty : ∀ {k : Nat} {cells : Array Value} {t : TypeId} {fr : Nat × Nat}, w.heap[k]? = some (.cells cells t fr) → t ≠ 28 → some k ≠ lv.ownBlock := fun hc ht e => by
    obtain ⟨cells', hc'⟩ := own_typed hx _ e.symm
    exact ty_ne hc hc' ht rfl
  have hR5 := (hkeep R (blk_lt h2) (hty h2 (by decide))).trans h2
  have hall : ∀ {k : Nat} {cells : Array Value} {t : TypeId} {fr : Nat × Nat}, w.heap[k]? = some (.cells cells t fr) → t ≠ 28 → t ≠ 47 → (w5.setCell ⟨R, 0, none⟩ (.slice (some ⟨g5, 0, none⟩) (ps.length + 1) c5)).heap[k]? = w.heap[k]? := fun hc ht ht2 => (hset _ (ty_ne hc h2 ht2)).trans (hkeep _ (blk_lt hc) (hty hc ht))
  have hbase : base ≤ w1.heap.size := Nat.le_trans h1 (Nat.le_trans (Nat.le_of_lt (blk_lt h2)) hb.size)
  refine ⟨⟨h1, blk_put hR5 0 _ rfl, ⟨xs ++ [.int .i64 x.f0, .int .i64 x.f1, v2], ?_, ?_⟩, ?_⟩, ⟨?_, fun k hk hkR hkv => (hset k hkR).trans (hkeep k hk hkv)⟩, fun g hg2 => ?_⟩
  · rw [List.length_append]
    refine own_move hown (fun k hk => hset k ?_)
    obtain ⟨cells, hc⟩ := own_typed hown k hk
    exact ty_ne hc hR5 (by decide)
  · exact Reps.snoc (reps_keep hr (fun k cells fr _ _ hc => hall hc (by decide) (by decide))) (k28_mkM _ _ _ x (body_keep hR (fun k cells fr _ _ hc => hall hc (by decide) (by decide)))) rfl
  · refine own_move h3 (fun k hk => ?_)
    obtain ⟨cells, hc⟩ := own_typed h3 k hk
    exact hall hc (by decide) (by decide)
  · exact (((hb.mono (Nat.le_trans h1 (Nat.le_of_lt (blk_lt h2)))).grown hg hbase (fun q hq => own_base hx q hq)).setCell h1 _)
  · obtain rfl : g5 = g := by simpa [Value.ownBlock] using hg2
    exact ho

set_option maxRecDepth 100000 in
set_option maxHeartbeats 4000000 in
theorem ref_send_full {w : World} {base R : Nat} {lv cv : Value} {ps : List S28} {cs : List (Int × Int)} (h : RefIn w base R lv cv ps cs) (hp : 256 ≤ ps.length) (x y : Int) (A : Option Addr) (n c : Nat) :
    Calls Try.prog 21 #[.pointer (some ⟨R, 0, none⟩), .agg #[.int .i64 x, .int .i64 y, .slice A n c]] w fun e w' => e = .returned (.bool false) ∧ Below w.heap.size w w' := by
  obtain ⟨A1, c1, rfl⟩ := h.form
  have q := blk_cell (blk_alloc h.cell (.cells #[.int .i64 x, .int .i64 y, .slice A n c] 28))
  have hd : (256 : Int) ≤ ps.length := by omega
  clear h
  go_enter Try.func21, Try.ntmps21
  go_wp2
  go_ret
  exact ⟨rfl, (Below.refl _ _).alloc (Nat.le_refl _) _⟩

set_option maxRecDepth 100000 in
set_option maxHeartbeats 4000000 in
theorem ref_send {w : World} {base R : Nat} {lv cv : Value} {ps : List S28} {cs : List (Int × Int)} (h : RefIn w base R lv cv ps cs) (hp : ps.length < 256) (x : S28) (A : Option Addr) (c : Nat) (hR : (Kd.int .u8).R 5 w base (fun _ => True) (.slice A x.f2.length c) x.f2) :
    Calls Try.prog 21 #[.pointer (some ⟨R, 0, none⟩), .agg #[.int .i64 x.f0, .int .i64 x.f1, .slice A x.f2.length c]] w fun e w' => e = .returned (.bool true) ∧ ∃ lv', RefIn w' base R lv' cv (ps ++ [x]) cs ∧ NetMoved w w' base R lv ∧ Stays w lv lv' := by
  obtain ⟨i28, hi28, hz0, hz1, hz2⟩ := info_parts info28
  obtain ⟨A1, c1, hv⟩ := h.form
  have hcell := h.cell
  rw [hv] at hcell
  obtain ⟨xs, hx, hr⟩ := h.list
  have H := Lib.hid (And.intro h (And.intro hr hR))
  have hRlt := blk_lt hcell
  have hRb : R ≠ w.heap.size := by omega
  have hzb : base ≤ w.heap.size := by have := h.geR; omega
  have hRv : some R ≠ lv.ownBlock := fun e => by
    obtain ⟨cur, hcr⟩ := own_typed hx R e.symm
    exact ty_ne hcell hcr (by decide) rfl
  have hBv : some w.heap.size ≠ lv.ownBlock := fun e => by
    have := own_lt hx _ e.symm
    omega
  have hk := blk_drew (blk_alloc hcell (.cells #[.int .i64 x.f0, .int .i64 x.f1, .slice A x.f2.length c] 28))
  have hb0 := blk_drew (heap_alloc_new w (.cells #[.int .i64 x.f0, .int .i64 x.f1, .slice A x.f2.length c] 28))
  have q := blk_cell (blk_alloc hcell (.cells #[.int .i64 x.f0, .int .i64 x.f1, .slice A x.f2.length c] 28))
  have hd : ¬ (256 : Int) ≤ ps.length := by omega
  have HX := Lib.hid hx
  have hown2 := own_drew (hx.alloc (.cells #[.int .i64 x.f0, .int .i64 x.f1, .slice A x.f2.length c] 28))
  clear h hr hR hx
  go_enter Try.func21, Try.ntmps21
  go_wp2
  have qd := blk_cell hk
  have qb := blk_cell hb0
  have q0 := blk_cell hcell
  have q1 := blk_cell (heap_alloc_new w (.cells #[.int .i64 x.f0, .int .i64 x.f1, .slice A x.f2.length c] 28))
  go_region_law (refine step_append_lies _ (by rfl) (.tmp 15) (.tmp 17) 22 (by rfl) base 28 i28 (.agg #[(.int .i64 0), (.int .i64 0), (.slice none 0 0)]) 3 40 Try.underlying22 hi28 hz0 hz1 hz2 (by rfl) (by decide) lv ps.length xs (by rw [hv]; rfl) (hown2.alloc _) ⟨w.heap.size + 1, 0, none⟩ 1 1 [.int .i64 x.f0, .int .i64 x.f1, .slice A x.f2.length c] (by rfl) (by rfl) (World.news_of_block (alloc2_at w _ _).1) (by simp [Value.oneCell']) (by decide) (by unfold maxLen; omega) (by omega) (by simp; omega) (w.heap.size + 1 + 1) (by simp) ?_; intro g5 c5 w5 hown5 hgrow5 hat5 hlt5; have kN5 := blk_grown (blk_alloc hk _) hgrow5 hRv; have q5 := blk_cell kN5; have f5 := blk_frozen kN5)
  all_goals
    go_wp2
    go_ret
    refine ⟨rfl, _, H.out.1.sent HX.out H.out.2.1 ?_ hgrow5 hown5 H.out.2.2 (hat5.imp id (fun e => by omega))⟩
    first
      | exact (((Below.refl _ w).alloc (Nat.le_refl _) _).drew).alloc (by simp) _
      | exact (((Below.refl _ w).alloc (Nat.le_refl _) _).alloc (by simp) _).drew
end Go.Proofs.Ytalaghkpbdaonaa

namespace Go.Proofs.Ytalaghkpbdaonaa
open Go Go.RowKit H Go.Proofs.YtalaghkpbdaonaaW.PrintWords

theorem RefIn.outed {w w6 W : World} {base R k : Nat} {lv cv v6 : Value} {ps : List S28} {cs : List (Int × Int)} {xs : List Value} (h : RefIn w base R lv cv ps cs) (hr : Reps (k28.M w base (fun _ => True)) 3 ps xs) (hk : k < ps.length)
    (hb : Below w.heap.size w w6) (hown : w6.ownsRow (w.heap.size + 1) 28 3 v6 (ps.length - 1) (xs.take (k * 3) ++ xs.drop ((k + 1) * 3)))
    (hset : ∀ j, j ≠ R → j ≠ w.heap.size → W.heap[j]? = w6.heap[j]?) (hWR : W.heap[R]? = some (.cells #[v6, cv] 47 (0, 0))) (hBW : Below base w W) :
    RefIn W base R v6 cv (cutOut ps k) cs ∧ TakeMoved w W base R ∧ Stays w lv v6 := by
  obtain ⟨h1, h2, _, h3⟩ := h
  have hkeep : ∀ j, j < w.heap.size → j ≠ R → W.heap[j]? = w.heap[j]? := fun j hj hR => (hset j hR (by omega)).trans (hb.block j hj)
  have hRlt := blk_lt h2
  have hlen : (cutOut ps k).length = ps.length - 1 := by
    unfold cutOut
    rw [List.length_append, List.length_take, List.length_drop]
    omega
  refine ⟨⟨h1, hWR, ⟨xs.take (k * 3) ++ xs.drop ((k + 1) * 3), ?_, Kd.reps_append (Kd.reps_take ?_ (by omega)) (Kd.reps_drop ?_)⟩, ?_⟩, ⟨hBW, hkeep⟩, fun g hg => .inr ?_⟩
  · rw [hlen]
    exact own_weaken (own_move hown (fun j hj => hset j (by have := own_base hown j hj; omega) (by have := own_base hown j hj; omega))) (by omega)
  · exact reps_keep hr (fun j cells fr _ hl hc => hkeep j hl (ty_ne hc h2 (by decide)))
  · exact reps_keep hr (fun j cells fr _ hl hc => hkeep j hl (ty_ne hc h2 (by decide)))
  · exact own_move h3 (fun j hj => by
      obtain ⟨cells, hc⟩ := own_typed h3 j hj
      exact hkeep j (own_lt h3 j hj) (ty_ne hc h2 (by decide)))
  · have := own_base hown g hg
    omega

theorem row_in {W : World} {g n : Nat} {cur : Array Value} {xs : List Value} (hG : W.heap[g]? = some (.cells cur 28 (0, 0))) (hxs : cur.toList.take n = xs) (j : Nat) (u : Value) (hu : xs[j]? = some u) : W.cell? ⟨g, j, none⟩ = some u := by
  rw [← hxs, List.getElem?_take] at hu
  split at hu
  · rw [blk_cell hG, ← Array.getElem?_toList]
    exact hu
  · cases hu

theorem old_at {W : World} {g n : Nat} {cur : Array Value} {xs : List Value} (hG : W.heap[g]? = some (.cells cur 28 (0, 0))) (hxs : cur.toList.take n = xs) (k : Nat) (j : Nat) (u : Value) (hu : (xs.take k)[j]? = some u) : W.cell? ((⟨g, 0, none⟩ : Addr).add j) = some u := by
  rw [show (⟨g, 0, none⟩ : Addr).add j = ⟨g, j, none⟩ by simp [add_plain]]
  rw [List.getElem?_take] at hu
  split at hu
  · exact row_in hG hxs j u hu
  · cases hu

theorem out_end {w w5 w6 : World} {base R k n2 : Nat} {lv cv v6 : Value} {ps : List S28} {cs : List (Int × Int)} {xs ys : List Value} {Z X : Obj} {u5 : Option Nat} (h : RefIn w base R lv cv ps cs) (hr : Reps (k28.M w base (fun _ => True)) 3 ps xs) (hk : k < ps.length)
    (hg5 : ((w.alloc Z).alloc X).grownBy w5 none) (hg6 : w5.grownBy w6 u5) (hu5 : ∀ q, u5 = some q → w.heap.size + 2 ≤ q) (hown : w6.ownsRow (w.heap.size + 2) 28 3 v6 n2 ys) (hn2 : n2 = ps.length - 1) (hys : ys = xs.take (k * 3) ++ xs.drop ((k + 1) * 3)) (a1 a2 a3 : Value) :
    let W := (((w6.setCell ⟨R, 0, none⟩ v6).setCell ⟨w.heap.size, 0, none⟩ a1).setCell ⟨w.heap.size, 1, none⟩ a2).setCell ⟨w.heap.size, 2, none⟩ a3
    RefIn W base R v6 cv (cutOut ps k) cs ∧ TakeMoved w W base R ∧ Stays w lv v6 := by
  intro W
  subst hn2 hys
  have hcell := h.cell
  have hRlt := blk_lt hcell
  have hbR := h.geR
  have hs : ((w.alloc Z).alloc X).heap.size = w.heap.size + 1 + 1 := by simp
  have hs5 := hg5.size
  have hb : Below w.heap.size w w6 := ((((Below.refl _ w).alloc (Nat.le_refl _) Z).alloc (by simp) X).grown hg5 (by rw [hs]; omega) (fun q hq => by cases hq)).grown hg6 (by omega) (fun q hq => by have := hu5 q hq; omega)
  refine h.outed hr hk hb (own_weaken hown (by omega)) (fun j h1 h2 => ?_) ?_ ?_
  · show ((((w6.setCell _ v6).setCell _ a1).setCell _ a2).setCell _ a3).heap[j]? = _
    rw [Below.heap_setCell _ _ _ _ h2, Below.heap_setCell _ _ _ _ h2, Below.heap_setCell _ _ _ _ h2, Below.heap_setCell _ _ _ _ h1]
  · exact blk_far (blk_far (blk_far (blk_put (cs' := #[v6, cv]) ((hb.block R hRlt).trans hcell) 0 v6 rfl) (by simp; omega) a1) (by simp; omega) a2) (by simp; omega) a3
  · exact (((((hb.mono (by omega)).setCell hbR v6).setCell (show base ≤ w.heap.size by omega) a1).setCell (show base ≤ w.heap.size by omega) a2).setCell (show base ≤ w.heap.size by omega) a3)

theorem new_at {W : World} {g n : Nat} {cur : Array Value} {xs : List Value} (hG : W.heap[g]? = some (.cells cur 28 (0, 0))) (hxs : cur.toList.take n = xs) (k : Nat) (j : Nat) (u : Value) (hu : (xs.drop k)[j]? = some u) : W.cell? ((⟨g, k, none⟩ : Addr).add j) = some u := by
  rw [add_at]
  rw [List.getElem?_drop] at hu
  exact row_in hG hxs _ u hu

set_option maxRecDepth 100000 in
set_option maxHeartbeats 4000000 in
theorem ref_out {w : World} {base R : Nat} {lv cv : Value} {ps : List S28} {cs : List (Int × Int)} (h : RefIn w base R lv cv ps cs) (k : Nat) (hk : k < ps.length) (hmax : ps.length ≤ 256) :
    Calls Try.prog 32 #[.pointer (some ⟨R, 0, none⟩), .int .i64 k] w fun e w' => ∃ A c, e = .returned (.agg #[.int .i64 (ps.getD k z28).f0, .int .i64 (ps.getD k z28).f1, .slice A (ps.getD k z28).f2.length c]) ∧ (Kd.int .u8).R 5 w' base (fun _ => True) (.slice A (ps.getD k z28).f2.length c) (ps.getD k z28).f2 ∧
      ∃ lv', RefIn w' base R lv' cv (cutOut ps k) cs ∧ TakeMoved w w' base R ∧ Stays w lv lv' := by
  obtain ⟨g, c, A2, c2, rfl, hnc, hR, x0, x1, x2⟩ := h.elem k hk
  have hcell := h.cell
  obtain ⟨xs, hx, hr⟩ := h.list
  obtain ⟨g', c', cur, hv', hge, hgh, _, hcm, hsz, hxs⟩ := row_at hx (by omega)
  injection hv' with hv1 _ hv3
  obtain rfl : g' = g := by injection hv1 with hv1; injection hv1 with hv1; exact hv1.symm
  subst hv3
  have hd1 : (k : Int) < ps.length := by omega
  generalize ps.getD k z28 = x at *
  have H := Lib.hid (And.intro h (And.intro hr hR))
  have hRlt := blk_lt hcell
  have hbR := h.geR
  have hglt := blk_lt hgh
  have qa := blk_cell (blk_alloc hcell (.cells #[.int .i64 0, .int .i64 0, .slice none 0 0] 28))
  have xa0 := cellA (.cells #[.int .i64 0, .int .i64 0, .slice none 0 0] 28) x0
  have xa1 := cellA (.cells #[.int .i64 0, .int .i64 0, .slice none 0 0] 28) x1
  have xa2 := cellA (.cells #[.int .i64 0, .int .i64 0, .slice none 0 0] 28) x2
  have qb := blk_cell (blk_alloc (blk_alloc hcell (.cells #[.int .i64 0, .int .i64 0, .slice none 0 0] 28)) (.cells #[.int .i64 x.f0, .int .i64 x.f1, .slice A2 x.f2.length c2] 28))
  have HG := Lib.hid (blk_alloc (blk_alloc hgh (.cells #[.int .i64 0, .int .i64 0, .slice none 0 0] 28)) (.cells #[.int .i64 x.f0, .int .i64 x.f1, .slice A2 x.f2.length c2] 28))
  have HD := Lib.hid (blk_alloc (blk_alloc hcell (.cells #[.int .i64 0, .int .i64 0, .slice none 0 0] 28)) (.cells #[.int .i64 x.f0, .int .i64 x.f1, .slice A2 x.f2.length c2] 28))
  have HX := Lib.hid (alloc2_at w (.cells #[.int .i64 0, .int .i64 0, .slice none 0 0] 28) (.cells #[.int .i64 x.f0, .int .i64 x.f1, .slice A2 x.f2.length c2] 28)).1
  have HZ := Lib.hid (alloc2_at w (.cells #[.int .i64 0, .int .i64 0, .slice none 0 0] 28) (.cells #[.int .i64 x.f0, .int .i64 x.f1, .slice A2 x.f2.length c2] 28)).2
  have HL1 : Hid ((xs.take (k * 3)).length = k * 3) := by show _ = _; rw [List.length_take, hx.1]; omega
  have HL2 : Hid ((xs.drop ((k + 1) * 3)).length = (ps.length - (k + 1)) * 3) := by show _ = _; rw [List.length_drop, hx.1]; omega
  have HO1 : Hid (∀ u ∈ xs.take (k * 3), u.oneCell' = true) := fun u hu => rep_ones hr u (List.mem_of_mem_take hu)
  have HO2 : Hid (∀ u ∈ xs.drop ((k + 1) * 3), u.oneCell' = true) := fun u hu => rep_ones hr u (List.mem_of_mem_drop hu)
  have HS := Lib.hid (And.intro hxs hk)
  have HLX : Hid (xs.length = ps.length * 3) := hx.1
  obtain ⟨i28, hi28, hz0, hz1, hz2⟩ := info_parts info28
  have t3 := eq_true (show (k : Int) + 1 ≤ ps.length by omega)
  have t4 := eq_true (show (ps.length : Int) ≤ c by omega)
  have t5 := eq_true (show (0 : Int) ≤ (k : Int) + 1 by omega)
  have t6 := eq_true (show (k : Int) ≤ c by omega)
  have hw : wrap64 ((k : Int) + 1) = (k : Int) + 1 := by unfold wrap64; omega
  have hne1 : R ≠ w.heap.size := by omega
  have hne2 : R ≠ w.heap.size + 1 := by omega
  have hne3 : w.heap.size ≠ R := by omega
  have hne4 : w.heap.size + 1 ≠ R := by omega
  clear h hcell hr hx hR x0 x1 x2 hgh hxs hge
  generalize hn : ps.length = n at *
  have hn' := Lib.hid hn
  clear hn
  by_cases hcl : c = k + 1
  · obtain rfl : n = k + 1 := by have := HS.out.2; omega
    subst hcl
    go_enter Try.func32, Try.ntmps32
    go_wp2_with (first
      | (at_builtin; (refine wpList_append_own _ rfl (.tmp 14) (.tmp 20) 22 rfl (w.heap.size + 2) 28 i28 (.agg #[(.int .i64 0), (.int .i64 0), (.slice none 0 0)]) 3 40 Try.underlying22 hi28 hz0 hz1 hz2 rfl (by decide) (.slice none 0 0) 0 [] rfl (World.ownsRow_nil _ _ _ _) ⟨g', 0, none⟩ k (k + 1) (xs.take (k * 3)) rfl HL1.out (old_at HG.out HS.out.1 _) HO1.out (by unfold maxLen; omega) (by omega) (by simp) ?_); intro v5 w5 hown5 hgrow5 hnil5; rw [Nat.zero_add, List.nil_append] at hown5; obtain ⟨A5, c5, rfl⟩ := row_val hown5; have kR5 := blk_grown HD.out hgrow5 (by simp [Value.ownBlock]); have HK5 := Lib.hid (And.intro hown5 (And.intro hgrow5 (And.intro (blk_grown HG.out hgrow5 (by simp [Value.ownBlock])) (And.intro (blk_grown HX.out hgrow5 (by simp [Value.ownBlock])) (blk_grown HZ.out hgrow5 (by simp [Value.ownBlock])))))); have HR5 := Lib.hid kR5; have q5 := blk_cell kR5; clear hown5 hgrow5 hnil5 kR5 qb)
      | (at_builtin; (refine wpList_append_own _ rfl (.tmp 22) (.tmp 29) 22 rfl (w.heap.size + 2) 28 i28 (.agg #[(.int .i64 0), (.int .i64 0), (.slice none 0 0)]) 3 40 Try.underlying22 hi28 hz0 hz1 hz2 rfl (by decide) (.slice A5 k c5) k (xs.take (k * 3)) rfl HK5.out.1 _ 0 _ [] rfl rfl (fun j u hu => by simp at hu) (fun u hu => by simp at hu) (by unfold maxLen; omega) (by omega) (by have := HK5.out.2.1.size; simp at this; omega) ?_); intro v6 w6 hown6 hgrow6 hnil6; obtain ⟨A6, c6, rfl⟩ := row_val hown6; have kR6 := blk_grown HR5.out hgrow6 (fun e => by have := own_base HK5.out.1 R e.symm; omega); have kX6 := blk_grown HK5.out.2.2.2.1 hgrow6 (fun e => by have := own_base HK5.out.1 (w.heap.size + 1) e.symm; omega); have kZ6 := blk_grown HK5.out.2.2.2.2 hgrow6 (fun e => by have := own_base HK5.out.1 w.heap.size e.symm; omega); have q6 := blk_cell kR6; have f6 := blk_frozen kR6; have x6 := blk_cell kX6; have z6 := blk_cell kZ6; have y6 := blk_frozen kZ6; have HK6 := Lib.hid (And.intro hown6 (And.intro hgrow6 (And.intro kR6 (And.intro kX6 kZ6)))); clear hown6 hgrow6 hnil6 kR6 kX6 kZ6 q5)
      | go_in)
    clear q6 f6 x6 z6 y6
    have E := out_end (k := k) (a1 := .int .i64 x.f0) (a2 := .int .i64 x.f1) (a3 := .slice A2 x.f2.length c2) H.out.1 H.out.2.1 (by have := hn'.out; have := HS.out.2; omega) HK5.out.2.1 HK6.out.2.1 (fun q hq => own_base HK5.out.1 q hq) HK6.out.1 (by have := hn'.out; have := HS.out.2; omega) (by rw [List.drop_eq_nil_of_le (by rw [HLX.out]; have := hn'.out; omega)])
    refine bodyPost_ret (results_cell_row rfl _ _ w.heap.size 28 #[.int .i64 x.f0, .int .i64 x.f1, .slice A2 x.f2.length c2] (0, 0) _ rfl (blk_put (blk_put (blk_put (blk_far HK6.out.2.2.2.2 hne3 _) 0 (.int .i64 x.f0) rfl) 1 (.int .i64 x.f1) rfl) 2 (.slice A2 x.f2.length c2) rfl) Try.underlying28 rfl (by kernel_rfl)) rfl ?_
    exact ⟨A2, c2, rfl, body_keep H.out.2.2 (fun j cells fr _ hl hc => E.2.1.2 j hl (ty_ne hc H.out.1.cell (by decide))), _, E⟩
  · have t7 := eq_false hcl
    go_enter Try.func32, Try.ntmps32
    go_wp2_with (first
      | (at_builtin; (refine wpList_append_own _ rfl (.tmp 14) (.tmp 20) 22 rfl (w.heap.size + 2) 28 i28 (.agg #[(.int .i64 0), (.int .i64 0), (.slice none 0 0)]) 3 40 Try.underlying22 hi28 hz0 hz1 hz2 rfl (by decide) (.slice none 0 0) 0 [] rfl (World.ownsRow_nil _ _ _ _) ⟨g', 0, none⟩ k c (xs.take (k * 3)) rfl HL1.out (old_at HG.out HS.out.1 _) HO1.out (by unfold maxLen; omega) (by omega) (by simp) ?_); intro v5 w5 hown5 hgrow5 hnil5; rw [Nat.zero_add, List.nil_append] at hown5; obtain ⟨A5, c5, rfl⟩ := row_val hown5; have kR5 := blk_grown HD.out hgrow5 (by simp [Value.ownBlock]); have HK5 := Lib.hid (And.intro hown5 (And.intro hgrow5 (And.intro (blk_grown HG.out hgrow5 (by simp [Value.ownBlock])) (And.intro (blk_grown HX.out hgrow5 (by simp [Value.ownBlock])) (blk_grown HZ.out hgrow5 (by simp [Value.ownBlock])))))); have HR5 := Lib.hid kR5; have q5 := blk_cell kR5; clear hown5 hgrow5 hnil5 kR5 qb)
      | (at_builtin; (refine wpList_append_own _ rfl (.tmp 22) (.tmp 29) 22 rfl (w.heap.size + 2) 28 i28 (.agg #[(.int .i64 0), (.int .i64 0), (.slice none 0 0)]) 3 40 Try.underlying22 hi28 hz0 hz1 hz2 rfl (by decide) (.slice A5 k c5) k (xs.take (k * 3)) rfl HK5.out.1 ⟨g', (k + 1) * 3, none⟩ (n - (k + 1)) (c - (k + 1)) (xs.drop ((k + 1) * 3)) rfl HL2.out (new_at HK5.out.2.2.1 HS.out.1 _) HO2.out (by unfold maxLen; omega) (by omega) (by have := HK5.out.2.1.size; simp at this; omega) ?_); intro v6 w6 hown6 hgrow6 hnil6; obtain ⟨A6, c6, rfl⟩ := row_val hown6; have kR6 := blk_grown HR5.out hgrow6 (fun e => by have := own_base HK5.out.1 R e.symm; omega); have kX6 := blk_grown HK5.out.2.2.2.1 hgrow6 (fun e => by have := own_base HK5.out.1 (w.heap.size + 1) e.symm; omega); have kZ6 := blk_grown HK5.out.2.2.2.2 hgrow6 (fun e => by have := own_base HK5.out.1 w.heap.size e.symm; omega); have q6 := blk_cell kR6; have f6 := blk_frozen kR6; have x6 := blk_cell kX6; have z6 := blk_cell kZ6; have y6 := blk_frozen kZ6; have HK6 := Lib.hid (And.intro hown6 (And.intro hgrow6 (And.intro kR6 (And.intro kX6 kZ6)))); clear hown6 hgrow6 hnil6 kR6 kX6 kZ6 q5)
      | go_in)
    clear q6 f6 x6 z6 y6
    have E := out_end (k := k) (a1 := .int .i64 x.f0) (a2 := .int .i64 x.f1) (a3 := .slice A2 x.f2.length c2) H.out.1 H.out.2.1 (by have := hn'.out; have := HS.out.2; omega) HK5.out.2.1 HK6.out.2.1 (fun q hq => own_base HK5.out.1 q hq) HK6.out.1 (by have := hn'.out; have := HS.out.2; omega) rfl
    refine bodyPost_ret (results_cell_row rfl _ _ w.heap.size 28 #[.int .i64 x.f0, .int .i64 x.f1, .slice A2 x.f2.length c2] (0, 0) _ rfl (blk_put (blk_put (blk_put (blk_far HK6.out.2.2.2.2 hne3 _) 0 (.int .i64 x.f0) rfl) 1 (.int .i64 x.f1) rfl) 2 (.slice A2 x.f2.length c2) rfl) Try.underlying28 rfl (by kernel_rfl)) rfl ?_
    exact ⟨A2, c2, rfl, body_keep H.out.2.2 (fun j cells fr _ hl hc => E.2.1.2 j hl (ty_ne hc H.out.1.cell (by decide))), _, E⟩
end Go.Proofs.Ytalaghkpbdaonaa

namespace Go.Proofs.Ytalaghkpbdaonaa
open Go Go.RowKit H Go.Proofs.YtalaghkpbdaonaaW.PrintWords

/-- One of the pairs is this one, either way. -/
def hit (cs : List (Int × Int)) (x y : Int) : Bool := cs.any fun p => samePair p.1 p.2 x y

theorem flatP_get : ∀ (cs : List (Int × Int)) (j : Nat) (p : Int × Int), cs[j]? = some p → (flatP cs)[j * 2]? = some (.int .i64 p.1) ∧ (flatP cs)[j * 2 + 1]? = some (.int .i64 p.2)
  | [], j, p, h => by simp at h
  | q :: cs, 0, p, h => by
    obtain rfl : q = p := by simpa using h
    exact ⟨rfl, rfl⟩
  | q :: cs, j + 1, p, h => by
    have h2 := flatP_get cs j p (by simpa using h)
    have e : flatP (q :: cs) = .int .i64 q.1 :: .int .i64 q.2 :: flatP cs := rfl
    rw [e, show (j + 1) * 2 = j * 2 + 1 + 1 by omega]
    exact h2

theorem flatP_one : ∀ (cs : List (Int × Int)), ∀ u ∈ flatP cs, u.oneCell' = true
  | [], u, h => by simp [flatP] at h
  | q :: cs, u, h => by
    have e : flatP (q :: cs) = .int .i64 q.1 :: .int .i64 q.2 :: flatP cs := rfl
    rw [e] at h
    rcases List.mem_cons.1 h with rfl | h
    · rfl
    · rcases List.mem_cons.1 h with rfl | h
      · rfl
      · exact flatP_one cs u h

theorem hit_take {cs : List (Int × Int)} {j : Nat} {p : Int × Int} (h : cs[j]? = some p) (x y : Int) : hit (cs.take (j + 1)) x y = (hit (cs.take j) x y || samePair p.1 p.2 x y) := by
  unfold hit
  rw [List.take_add_one, h, List.any_append]
  simp

theorem hit_of {cs : List (Int × Int)} {j : Nat} {p : Int × Int} (h : cs[j]? = some p) {x y : Int} (hs : samePair p.1 p.2 x y = true) : hit cs x y = true :=
  List.any_eq_true.2 ⟨p, List.mem_of_getElem? h, hs⟩

theorem hit_snoc (cs : List (Int × Int)) (a b x y : Int) : hit (cs ++ [(a, b)]) x y = (samePair a b x y || hit cs x y) := by
  unfold hit
  rw [List.any_append, Bool.or_comm]
  simp

set_option maxRecDepth 100000 in
set_option maxHeartbeats 4000000 in
theorem ref_cut {w : World} {base R : Nat} {lv cv : Value} {ps : List S28} {cs : List (Int × Int)} (h : RefIn w base R lv cv ps cs) (hz : cs.length ≤ 140737488355328) (x y : Int) :
    Calls Try.prog 33 #[.pointer (some ⟨R, 0, none⟩), .int .i64 x, .int .i64 y] w fun e w' => e = .returned (.bool (hit cs x y)) ∧ w' = w := by
  obtain ⟨A, c, hcv⟩ := row_val h.cuts
  have hcell := h.cell
  have hcu := h.cuts
  have HZ := Lib.hid hz
  clear h hz
  rw [hcv] at hcell
  have q := blk_cell hcell
  have HC := Lib.hid (And.intro hcu hcv)
  clear hcell hcu hcv
  go_enter Try.func33, Try.ntmps33
  go_wp2
  go_loopw [7] (fun t wr => ∃ j : Nat, j ≤ cs.length ∧ t = .int .i64 j ∧ hit (cs.take j) x y = false ∧ wr = w)
    (fun t _ => cs.length - (intOf t).toNat)
  case atStart => exact ⟨0, Nat.zero_le _, rfl, rfl, rfl⟩
  case round =>
    obtain ⟨j, hj, rfl, hh, rfl⟩ := hrel
    rcases Nat.lt_or_ge j cs.length with hlt | hge
    · obtain ⟨g, c', hv, hc, hcells⟩ := row_cells HC.out.1 (by omega)
      rw [HC.out.2] at hv
      injection hv with hv1 _ hv3
      subst hv1 hv3
      obtain ⟨p, hp⟩ : ∃ p, cs[j]? = some p := ⟨_, List.getElem?_eq_getElem hlt⟩
      obtain ⟨f0, f1⟩ := flatP_get cs j p hp
      have x0 := hcells _ _ f0
      have x1 := hcells _ _ f1
      have HH := Lib.hid (And.intro hh (And.intro (hit_take hp x y) (fun hs => hit_of hp (x := x) (y := y) hs)))
      have hd := eq_true (show (j : Int) < cs.length by omega)
      have hjj : wrap64 ((j : Int) + 1) = ((j + 1 : Nat) : Int) := by have := HZ.out; unfold wrap64; omega
      have hG := noGuard37
      obtain ⟨a, b⟩ := p
      have E1 := eql37 a b x y
      have E2 := eql37 a b y x
      have hY : Hid (samePair a b x y = ((a == x && b == y) || (a == y && b == x))) := rfl
      generalize he1 : (a == x && b == y) = e1 at *
      generalize he2 : (a == y && b == x) = e2 at *
      clear he1 he2 hp f0 f1 hcells hh
      cases e1 <;> cases e2
      · go_wp2
        exact ⟨⟨j + 1, hlt, by rw [hjj], by rw [HH.out.2.1, HH.out.1]; exact hY.out, trivial⟩, by rw [hjj]; simp only [intOf]; omega⟩
      · go_wp2
        go_ret
        exact ⟨by rw [HH.out.2.2 hY.out]; rfl, rfl⟩
      · go_wp2
        go_ret
        exact ⟨by rw [HH.out.2.2 hY.out]; rfl, rfl⟩
      · go_wp2
        go_ret
        exact ⟨by rw [HH.out.2.2 hY.out]; rfl, rfl⟩
    · obtain rfl : j = cs.length := by omega
      rw [List.take_length] at hh
      have HH := Lib.hid hh
      have hd := eq_false (show ¬ (cs.length : Int) < cs.length by omega)
      clear hge hj hh
      go_wp2
      go_ret
      exact ⟨by rw [HH.out]; rfl, rfl⟩
end Go.Proofs.Ytalaghkpbdaonaa

namespace Go.Proofs.Ytalaghkpbdaonaa
open Go Go.RowKit H Go.Proofs.YtalaghkpbdaonaaW.PrintWords

set_option maxRecDepth 100000 in
set_option maxHeartbeats 4000000 in
theorem ref_drop_none {w : World} {base R : Nat} {lv cv : Value} {cs : List (Int × Int)} (h : RefIn w base R lv cv [] cs) (i : Int) :
    Calls Try.prog 23 #[.pointer (some ⟨R, 0, none⟩), .int .i64 i] w fun e w' => e = .returned (.bool false) ∧ w' = w := by
  have H := Lib.hid h
  clear h
  go_enter Try.func23, Try.ntmps23
  go_wp2_with (first
    | (go_at_call 31; refine (ref_at H.out (by decide) i).mono ?_; rintro e w1 ⟨rfl, rfl⟩; rw [show atF ([] : List S28).length i = -1 from rfl])
    | go_in)
  go_ret
  exact ⟨rfl, rfl⟩

set_option maxRecDepth 100000 in
set_option maxHeartbeats 4000000 in
theorem ref_drop {w : World} {base R : Nat} {lv cv : Value} {ps : List S28} {cs : List (Int × Int)} (h : RefIn w base R lv cv ps cs) (i : Int) (k : Nat) (hk : k < ps.length) (hi : atF ps.length i = k) (hmax : ps.length ≤ 256) :
    Calls Try.prog 23 #[.pointer (some ⟨R, 0, none⟩), .int .i64 i] w fun e w' => e = .returned (.bool true) ∧ ∃ lv', RefIn w' base R lv' cv (cutOut ps k) cs ∧ TakeMoved w w' base R ∧ Stays w lv lv' := by
  have H := Lib.hid h
  have HI := Lib.hid (And.intro hi (And.intro hmax hk))
  have hpos : (0 : Int) ≤ (k : Int) := by omega
  clear h hi hmax hk
  go_enter Try.func23, Try.ntmps23
  go_wp2_with (first
    | (go_at_call 31; refine (ref_at H.out HI.out.2.1 i).mono ?_; rintro e w1 ⟨rfl, rfl⟩; rw [HI.out.1])
    | (go_at_call 32; refine (ref_out H.out k HI.out.2.2 HI.out.2.1).mono ?_; rintro e w2 ⟨A, c, rfl, hR, v2, hN⟩; have HE := Lib.hid hN; clear hR hN)
    | go_in)
  go_ret
  exact ⟨rfl, _, HE.out⟩

set_option maxRecDepth 100000 in
set_option maxHeartbeats 4000000 in
theorem ref_copy_none {w : World} {base R : Nat} {lv cv : Value} {cs : List (Int × Int)} (h : RefIn w base R lv cv [] cs) (i : Int) :
    Calls Try.prog 24 #[.pointer (some ⟨R, 0, none⟩), .int .i64 i] w fun e w' => e = .returned (.bool false) ∧ w' = w := by
  have H := Lib.hid h
  clear h
  go_enter Try.func24, Try.ntmps24
  go_wp2_with (first
    | (go_at_call 31; refine (ref_at H.out (by decide) i).mono ?_; rintro e w1 ⟨rfl, rfl⟩; rw [show atF ([] : List S28).length i = -1 from rfl])
    | go_in)
  go_ret
  exact ⟨rfl, rfl⟩

set_option maxRecDepth 100000 in
set_option maxHeartbeats 4000000 in
theorem ref_copy {w : World} {base R : Nat} {lv cv : Value} {ps : List S28} {cs : List (Int × Int)} (h : RefIn w base R lv cv ps cs) (i : Int) (k : Nat) (hk : k < ps.length) (hi : atF ps.length i = k) (hmax : ps.length < 256) :
    Calls Try.prog 24 #[.pointer (some ⟨R, 0, none⟩), .int .i64 i] w fun e w' => e = .returned (.bool true) ∧ ∃ lv', RefIn w' base R lv' cv (ps ++ [ps.getD k z28]) cs ∧ NetMoved w w' base R lv ∧ Stays w lv lv' := by
  have HA := Lib.hid h
  obtain ⟨g, c, A2, c2, rfl, hnc, hR, x0, x1, x2⟩ := h.elem k hk
  have q := blk_cell h.cell
  have hd1 : (k : Int) < ps.length := by omega
  generalize ps.getD k z28 = x at *
  have HI := Lib.hid (And.intro hi (And.intro hmax hR))
  have hneg : ¬ (k : Int) < 0 := by omega
  have hpos : (0 : Int) ≤ (k : Int) := by omega
  clear h hi hmax hR
  go_enter Try.func24, Try.ntmps24
  go_wp2_with (first
    | (go_at_call 31; refine (ref_at HA.out (Nat.le_of_lt HI.out.2.1) i).mono ?_; rintro e w1 ⟨rfl, rfl⟩; rw [HI.out.1])
    | (go_at_call 21; refine (ref_send HA.out HI.out.2.1 x A2 c2 HI.out.2.2).mono ?_; rintro e w2 ⟨rfl, v2, hN⟩; have HE := Lib.hid hN; clear hN)
    | go_in)
  go_ret
  exact ⟨rfl, _, HE.out⟩

set_option maxRecDepth 100000 in
set_option maxHeartbeats 4000000 in
theorem ref_copy_full {w : World} {base R : Nat} {lv cv : Value} {ps : List S28} {cs : List (Int × Int)} (h : RefIn w base R lv cv ps cs) (i : Int) (k : Nat) (hk : k < ps.length) (hi : atF ps.length i = k) (hmax : ps.length = 256) :
    Calls Try.prog 24 #[.pointer (some ⟨R, 0, none⟩), .int .i64 i] w fun e w' => e = .returned (.bool false) ∧ Below w.heap.size w w' := by
  have HA := Lib.hid h
  obtain ⟨g, c, A2, c2, rfl, hnc, hR, x0, x1, x2⟩ := h.elem k hk
  have q := blk_cell h.cell
  have hd1 : (k : Int) < ps.length := by omega
  generalize ps.getD k z28 = x at *
  have HI := Lib.hid (And.intro hi (And.intro hmax hR))
  have hneg : ¬ (k : Int) < 0 := by omega
  have hpos : (0 : Int) ≤ (k : Int) := by omega
  clear h hi hmax hR
  go_enter Try.func24, Try.ntmps24
  go_wp2_with (first
    | (go_at_call 31; refine (ref_at HA.out (Nat.le_of_eq HI.out.2.1) i).mono ?_; rintro e w1 ⟨rfl, rfl⟩; rw [HI.out.1])
    | (go_at_call 21; refine (ref_send_full HA.out (Nat.le_of_eq HI.out.2.1.symm) x.f0 x.f1 A2 x.f2.length c2).mono ?_; rintro e w2 ⟨rfl, hB⟩; have HE := Lib.hid hB; clear hB)
    | go_in)
  go_ret
  exact ⟨rfl, HE.out⟩

set_option maxRecDepth 100000 in
set_option maxHeartbeats 4000000 in
theorem ref_take_none {w : World} {base R : Nat} {lv cv : Value} {cs : List (Int × Int)} (h : RefIn w base R lv cv [] cs) (i : Int) :
    Calls Try.prog 22 #[.pointer (some ⟨R, 0, none⟩), .int .i64 i] w fun e w' => e = .returned (.tuple #[.agg #[.int .i64 0, .int .i64 0, .slice none 0 0], .bool false]) ∧ Below w.heap.size w w' := by
  have H := Lib.hid (fun o => h.below ((Below.refl _ _).alloc (Nat.le_refl _) o))
  clear h
  go_enter Try.func22, Try.ntmps22
  go_wp2_with (first
    | (go_at_call 31; refine (ref_at (H.out _) (by decide) i).mono ?_; rintro e w1 ⟨rfl, rfl⟩; rw [show atF ([] : List S28).length i = -1 from rfl])
    | go_in)
  refine bodyPost_ret (results_row_tmp rfl _ _ w.heap.size 28 #[.int .i64 0, .int .i64 0, .slice none 0 0] (0, 0) _ rfl (heap_alloc_new w _) Try.underlying28 rfl (by kernel_rfl)) rfl ?_
  exact ⟨rfl, (Below.refl _ _).alloc (Nat.le_refl _) _⟩

/-- The packet's cell and the result's cell, behind out. -/
theorem ref_took_end {w w2 : World} {base R : Nat} {lv lv' cv : Value} {qs : List S28} {cs : List (Int × Int)} {o X : Obj} {cells : Array Value} {vb : Value} {xs : List Int} (hN : RefIn w2 base R lv' cv qs cs) (hM : TakeMoved (w.alloc o) w2 base R) (hS : Stays (w.alloc o) lv lv') (hR : (Kd.int .u8).R 5 w2 base (fun _ => True) vb xs)
    (hz2 : w2.heap[w.heap.size]? = some (.cells cells 28 (0, 0))) (hlv : ∀ g, lv.ownBlock = some g → g < w.heap.size) (hbase : base ≤ w.heap.size) (a1 a2 a3 : Value) :
    let W := (((w2.alloc X).setCell ⟨w.heap.size, 0, none⟩ a1).setCell ⟨w.heap.size, 1, none⟩ a2).setCell ⟨w.heap.size, 2, none⟩ a3
    (Kd.int .u8).R 5 W base (fun _ => True) vb xs ∧ ∃ v', RefIn W base R v' cv qs cs ∧ TakeMoved w W base R ∧ Stays w lv v' := by
  intro W
  have hlt := blk_lt hz2
  have hk : ∀ k, k < w2.heap.size → k ≠ w.heap.size → W.heap[k]? = w2.heap[k]? := fun k hk hne => by
    show ((((w2.alloc X).setCell _ a1).setCell _ a2).setCell _ a3).heap[k]? = _
    rw [Below.heap_setCell _ _ _ _ hne, Below.heap_setCell _ _ _ _ hne, Below.heap_setCell _ _ _ _ hne, Below.heap_alloc _ _ _ hk]
  have hs : Stays w lv lv' := fun g hg => (hS g hg).imp id (fun h => by simp at h; omega)
  refine ⟨body_keep hR (fun k cells fr _ hl hc => hk k hl (ty_ne hc hz2 (by decide))), lv', hN.keep (fun k cells t fr _ hl hc _ ht => hk k hl (fun e => ?_)), ⟨?_, fun k hk2 hkR => ?_⟩, hs⟩
  · subst e
    rw [hz2] at hc
    injection hc with hc
    injection hc with _ hc
    rcases hS _ (ht hc.symm) with h | h
    · exact absurd (hlv _ h) (by omega)
    · simp at h
      omega
  · have h1 : Below base w w2 := ((Below.refl base w).alloc hbase o).trans hM.1
    exact (((h1.alloc (Nat.le_trans hbase (Nat.le_of_lt hlt)) X).setCell hbase a1).setCell hbase a2).setCell hbase a3
  · rw [hk k (by omega) (by omega), hM.2 k (by simp; omega) hkR, Below.heap_alloc _ _ _ hk2]

set_option maxRecDepth 100000 in
set_option maxHeartbeats 4000000 in
theorem ref_take {w : World} {base R : Nat} {lv cv : Value} {ps : List S28} {cs : List (Int × Int)} (h : RefIn w base R lv cv ps cs) (hz : cs.length ≤ 140737488355328) (i : Int) (k : Nat) (hk : k < ps.length) (hi : atF ps.length i = k) (hmax : ps.length ≤ 256) (x : S28) (hx : ps.getD k z28 = x) (cu : Bool) (hcu : hit cs x.f0 x.f1 = cu) :
    Calls Try.prog 22 #[.pointer (some ⟨R, 0, none⟩), .int .i64 i] w fun e w' => ∃ A c, e = .returned (.tuple #[(bif cu then .agg #[.int .i64 0, .int .i64 0, .slice none 0 0] else .agg #[.int .i64 x.f0, .int .i64 x.f1, .slice A x.f2.length c]), .bool (!cu)]) ∧ (Kd.int .u8).R 5 w' base (fun _ => True) (.slice A x.f2.length c) x.f2 ∧
      ∃ lv', RefIn w' base R lv' cv (cutOut ps k) cs ∧ TakeMoved w w' base R ∧ Stays w lv lv' := by
  subst hx
  obtain ⟨xs, hown, -⟩ := h.list
  have HV := Lib.hid (fun g (hg : lv.ownBlock = some g) => own_lt hown g hg)
  have HA := Lib.hid (h.below ((Below.refl _ _).alloc (Nat.le_refl _) (.cells #[.int .i64 0, .int .i64 0, .slice none 0 0] 28)))
  have hlt := blk_lt h.cell
  have hbR := h.geR
  have HI := Lib.hid (And.intro hi (And.intro hmax (And.intro hk (And.intro hz hcu))))
  have hneg : ¬ (k : Int) < 0 := by omega
  clear h hi hmax hk hz hcu hown
  have HO := Lib.hid (fun (w : World) (lv cv : Value) (h : RefIn w base R lv cv ps cs) => ref_out h k HI.out.2.2.1 HI.out.2.1)
  have HCU : Hid (hit cs (ps.getD k z28).f0 (ps.getD k z28).f1 = cu) := HI.out.2.2.2.2
  generalize hx : ps.getD k z28 = x at *
  cases cu
  all_goals
    go_enter Try.func22, Try.ntmps22
    go_wp2_with (first
      | (go_at_call 31; refine (ref_at HA.out HI.out.2.1 i).mono ?_; rintro e w1 ⟨rfl, rfl⟩; rw [HI.out.1])
      | (go_at_call 32; refine (HO.out _ _ _ HA.out).mono ?_; rintro e w2 ⟨A, c, rfl, hR, v', hN, hM, hS⟩; have HE := Lib.hid (And.intro hN (And.intro hM (And.intro hS hR))); have hZ := (hM.2 w.heap.size (by simp) (by omega)).trans (heap_alloc_new w _); have HZ := Lib.hid hZ; have hp := blk_cell (heap_alloc_new w2 (.cells #[.int .i64 x.f0, .int .i64 x.f1, .slice A x.f2.length c] 28)); have hz := blk_cell (blk_alloc hZ (.cells #[.int .i64 x.f0, .int .i64 x.f1, .slice A x.f2.length c] 28)); have fz := blk_frozen (blk_alloc hZ (.cells #[.int .i64 x.f0, .int .i64 x.f1, .slice A x.f2.length c] 28)); have n1 := eq_false (Nat.ne_of_lt (blk_lt hZ)); have n2 := eq_false (Nat.ne_of_gt (blk_lt hZ)); clear hN hM hS hR hZ)
      | (go_at_call 33; refine (ref_cut (HE.out.1.below ((Below.refl _ _).alloc (Nat.le_refl _) (.cells #[.int .i64 x.f0, .int .i64 x.f1, .slice A x.f2.length c] 28))) HI.out.2.2.2.1 x.f0 x.f1).mono ?_; rintro e w3 ⟨rfl, rfl⟩; rw [HCU.out])
      | go_in)
    clear hp hz fz
  · refine bodyPost_ret (results_row_tmp rfl _ _ w.heap.size 28 #[.int .i64 x.f0, .int .i64 x.f1, .slice A x.f2.length c] (0, 0) _ rfl (blk_put (blk_put (blk_put (blk_alloc HZ.out _) 0 (.int .i64 x.f0) rfl) 1 (.int .i64 x.f1) rfl) 2 (.slice A x.f2.length c) rfl) Try.underlying28 rfl (by kernel_rfl)) rfl ?_
    exact ⟨A, c, rfl, ref_took_end HE.out.1 HE.out.2.1 HE.out.2.2.1 HE.out.2.2.2 HZ.out HV.out (by omega) _ _ _⟩
  · refine bodyPost_ret (results_row_tmp rfl _ _ w.heap.size 28 #[.int .i64 0, .int .i64 0, .slice none 0 0] (0, 0) _ rfl (blk_put (blk_put (blk_put (blk_alloc HZ.out _) 0 (.int .i64 0) rfl) 1 (.int .i64 0) rfl) 2 (.slice none 0 0) rfl) Try.underlying28 rfl (by kernel_rfl)) rfl ?_
    exact ⟨A, c, rfl, ref_took_end HE.out.1 HE.out.2.1 HE.out.2.2.1 HE.out.2.2.2 HZ.out HV.out (by omega) _ _ _⟩
end Go.Proofs.Ytalaghkpbdaonaa

namespace Go.Proofs.Ytalaghkpbdaonaa
open Go Go.RowKit H Go.Proofs.YtalaghkpbdaonaaW.PrintWords

theorem info37 : (Try.prog.info? 37).map (fun i => (i.zero, i.size, i.bytes)) = some (some (.agg #[(.int .i64 0), (.int .i64 0)]), 2, 16) := by kernel_rfl

set_option maxRecDepth 100000 in
set_option maxHeartbeats 4000000 in
theorem ref_same {w : World} (R : Nat) (a : Int) : Calls Try.prog 25 #[.pointer (some ⟨R, 0, none⟩), .int .i64 a, .int .i64 a] w fun e w' => e = .returned (.tuple #[]) ∧ w' = w := by
  go_enter Try.func25, Try.ntmps25
  go_wp2
  exact bodyPost_end (results_none rfl _ _ _) rfl ⟨rfl, rfl⟩

theorem flatP_snoc (cs : List (Int × Int)) (a b : Int) : flatP cs ++ [.int .i64 a, .int .i64 b] = flatP (cs ++ [(a, b)]) := by
  unfold flatP
  rw [List.flatMap_append]
  rfl

theorem RefIn.cutted {w w1 w5 : World} {base R : Nat} {lv cv cv' : Value} {ps : List S28} {cs : List (Int × Int)} {a b : Int} (h : RefIn w base R lv cv ps cs) (hb : Below w.heap.size w w1) (hg : w1.grownBy w5 cv.ownBlock)
    (hown : w5.ownsRow base 37 2 cv' (cs.length + 1) (flatP cs ++ [.int .i64 a, .int .i64 b])) :
    RefIn (w5.setCell ⟨R, 1, none⟩ cv') base R lv cv' ps (cs ++ [(a, b)]) ∧ NetMoved w (w5.setCell ⟨R, 1, none⟩ cv') base R cv := by
  obtain ⟨h1, h2, ⟨xs, hx, hr⟩, h3⟩ := h
  have hkeep : ∀ k, k < w.heap.size → some k ≠ cv.ownBlock → w5.heap[k]? = w.heap[k]? := fun k hk hne => (hg.block k (Nat.lt_of_lt_of_le hk hb.size) hne).trans (hb.block k hk)
  have hset : ∀ k, k ≠ R → (w5.setCell ⟨R, 1, none⟩ cv').heap[k]? = w5.heap[k]? := fun k hk => Below.heap_setCell w5 ⟨R, 1, none⟩ _ k hk
  have hty : ∀ {k : Nat} {cells : Array Value} {t : TypeId} {fr : Nat × Nat}, w.heap[k]? = some (.cells cells t fr) → t ≠ 37 → some k ≠ cv.ownBlock := fun hc ht e => by
    obtain ⟨cells', hc'⟩ := own_typed h3 _ e.symm
    exact ty_ne hc hc' ht rfl
  have hR5 := (hkeep R (blk_lt h2) (hty h2 (by decide))).trans h2
  have hall : ∀ {k : Nat} {cells : Array Value} {t : TypeId} {fr : Nat × Nat}, w.heap[k]? = some (.cells cells t fr) → t ≠ 37 → t ≠ 47 → (w5.setCell ⟨R, 1, none⟩ cv').heap[k]? = w.heap[k]? := fun hc ht ht2 => (hset _ (ty_ne hc h2 ht2)).trans (hkeep _ (blk_lt hc) (hty hc ht))
  have hbase : base ≤ w1.heap.size := Nat.le_trans h1 (Nat.le_trans (Nat.le_of_lt (blk_lt h2)) hb.size)
  refine ⟨⟨h1, blk_put hR5 1 _ rfl, ⟨xs, ?_, ?_⟩, ?_⟩, ⟨?_, fun k hk hkR hkv => (hset k hkR).trans (hkeep k hk hkv)⟩⟩
  · refine own_move hx (fun k hk => ?_)
    obtain ⟨cells, hc⟩ := own_typed hx k hk
    exact hall hc (by decide) (by decide)
  · exact reps_keep hr (fun k cells fr _ _ hc => hall hc (by decide) (by decide))
  · rw [List.length_append, ← flatP_snoc]
    refine own_move hown (fun k hk => hset k ?_)
    obtain ⟨cells, hc⟩ := own_typed hown k hk
    exact ty_ne hc hR5 (by decide)
  · exact (((hb.mono (Nat.le_trans h1 (Nat.le_of_lt (blk_lt h2)))).grown hg hbase (fun q hq => own_base h3 q hq)).setCell h1 _)

set_option maxRecDepth 100000 in
set_option maxHeartbeats 4000000 in
theorem ref_addcut {w : World} {base R : Nat} {lv cv : Value} {ps : List S28} {cs : List (Int × Int)} (h : RefIn w base R lv cv ps cs) (hz : cs.length < 2199023255552) (a b : Int) (hne : a ≠ b) :
    Calls Try.prog 25 #[.pointer (some ⟨R, 0, none⟩), .int .i64 a, .int .i64 b] w fun e w' => e = .returned (.tuple #[]) ∧ ∃ cv', RefIn w' base R lv cv' ps (cs ++ [(a, b)]) ∧ NetMoved w w' base R cv := by
  obtain ⟨i37, hi37, hz0, hz1, hz2⟩ := info_parts info37
  obtain ⟨A1, c1, hv⟩ := row_val h.cuts
  have hcell := h.cell
  rw [hv] at hcell
  have hx := h.cuts
  have H := Lib.hid h
  have hRlt := blk_lt hcell
  have hbR := h.geR
  have hRv : some R ≠ cv.ownBlock := fun e => by
    obtain ⟨cur, hcr⟩ := own_typed hx R e.symm
    exact ty_ne hcell hcr (by decide) rfl
  have hk := blk_alloc hcell (.cells #[.int .i64 a, .int .i64 b] 37)
  have q := blk_cell hcell
  have HX := Lib.hid (And.intro (hx.alloc (.cells #[.int .i64 a, .int .i64 b] 37)) (And.intro hk (And.intro hRv hv)))
  have hab := eq_false hne
  clear h hx hk hRv
  go_enter Try.func25, Try.ntmps25
  go_wp2_with (first
    | (at_builtin; refine wpList_append_own _ rfl (.tmp 13) (.tmp 17) 36 rfl base 37 i37 (.agg #[(.int .i64 0), (.int .i64 0)]) 2 16 Try.underlying36 hi37 hz0 hz1 hz2 rfl (by decide) cv cs.length (flatP cs) (by rw [HX.out.2.2.2]; rfl) HX.out.1 ⟨w.heap.size, 0, none⟩ 1 1 [.int .i64 a, .int .i64 b] rfl rfl (World.news_of_block (heap_alloc_new w _)) (by simp [Value.oneCell']) (by unfold maxLen; omega) (by omega) (by simp; omega) ?_; intro v5 w5 hown5 hgrow5 hnil5; obtain ⟨A5, c5, rfl⟩ := row_val hown5; have kR5 := blk_grown HX.out.2.1 hgrow5 HX.out.2.2.1; have q5 := blk_cell kR5; have f5 := blk_frozen kR5; have HE := Lib.hid (And.intro hown5 hgrow5); clear hown5 hgrow5 hnil5 kR5)
    | go_in)
  exact bodyPost_end (results_none rfl _ _ _) rfl ⟨rfl, _, H.out.cutted (((Below.refl _ _).alloc (Nat.le_refl _) _)) HE.out.2 HE.out.1⟩
end Go.Proofs.Ytalaghkpbdaonaa

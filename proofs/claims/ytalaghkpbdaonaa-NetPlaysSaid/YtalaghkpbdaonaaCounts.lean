/- NetCounts: the walk. No conditions. -/
import Derived.Test.YtalaghkpbdaonaaNetG
import Derived.Test.YtalaghkpbdaonaaNetR
import Derived.Test.YtalaghkpbdaonaaNetS
import Derived.Test.YtalaghkpbdaonaaOpenS
namespace Go.Proofs.Ytalaghkpbdaonaa
open Go Go.RowKit H Go.Proofs.YtalaghkpbdaonaaW.PrintWords Strict

/-- A packet in a cell of its own, with its body. -/
def Held (W : World) (b g : Nat) (x : S28) (A : Option Addr) (c : Nat) : Prop :=
  W.heap[g]? = some (.cells #[.int .i64 x.f0, .int .i64 x.f1, .slice A x.f2.length c] 28 (0, 0)) ∧ (Kd.int .u8).R 5 W b (fun _ => True) (.slice A x.f2.length c) x.f2

theorem Held.move {W W' : World} {b N g : Nat} {x : S28} {A : Option Addr} {c : Nat} {u mm : Value} (h : Held W b g x A c) (hN : W.heap[N]? = some (.cells #[u, mm] 56 (0, 0))) (hk : ∀ k, k < W.heap.size → k ≠ N → W'.heap[k]? = W.heap[k]?) : Held W' b g x A c :=
  ⟨(hk g (blk_lt h.1) (blk_ne h.1 hN (by decide))).trans h.1, R_keepN h.2 hN hk⟩

theorem Held.new {W : World} {b : Nat} {x : S28} {A : Option Addr} {c : Nat} (h : (Kd.int .u8).R 5 W b (fun _ => True) (.slice A x.f2.length c) x.f2) : Held (W.alloc (.cells #[.int .i64 x.f0, .int .i64 x.f1, .slice A x.f2.length c] 28)) b W.heap.size x A c :=
  ⟨heap_alloc_new W _, Kd.R_alloc h _⟩

theorem Held.below {W W' : World} {b g : Nat} {x : S28} {A : Option Addr} {c : Nat} (h : Held W b g x A c) (hb : Below W.heap.size W W') : Held W' b g x A c :=
  ⟨blk_below h.1 hb, Kd.R_mono (Kd.R_move (Kd.R_bound h.2) (fun k hk => hb.block k hk.2.2.1)) (fun _ _ => trivial)⟩

theorem alloc_below (w : World) (o : Obj) : Below w.heap.size w (w.alloc o) := (Below.refl _ _).alloc (Nat.le_refl _) o

theorem atF_add (n : Nat) (i : Int) (h0 : 0 < n) (hn : n ≤ 256) (h1 : i ≤ 1152921504606846976) (h2 : -1152921504606846976 ≤ i) : atF n (wrap64 (i + n)) = atF n i := by
  have h : wrap64 (i + n) = i + n := by unfold wrap64; omega
  unfold atF
  rw [h, if_neg (by omega), if_neg (by omega), Int.add_emod_right]

theorem atF_sub (n : Nat) (i : Int) (h0 : 0 < n) (hn : n ≤ 256) (h1 : i ≤ 1152921504606846976) (h2 : -1152921504606846976 ≤ i) : atF n (wrap64 (i - 3 * n)) = atF n i := by
  have h : wrap64 (i - 3 * n) = i - 3 * n := by unfold wrap64; omega
  unfold atF
  rw [h, if_neg (by omega), if_neg (by omega), Int.sub_mul_emod_self_right]

theorem atF_nat (n : Nat) (i : Int) (h0 : 0 < n) : ∃ k : Nat, k < n ∧ atF n i = k := by
  have := atF_mem (i := i) h0
  exact ⟨(atF n i).toNat, by omega, by omega⟩

set_option maxRecDepth 100000 in
set_option maxHeartbeats 4000000 in
theorem counts_bad {w0 : World} (A : Option Addr) (c : Nat) (l : List S28) (i : Int) (hbad : 256 < l.length ∨ l.length = 0 ∨ 1152921504606846976 < i ∨ i < -1152921504606846976) :
    Calls Try.prog 3 #[.slice A l.length c, .int .i64 i] w0 fun e w' => e = .returned (.bool true) ∧ Below w0.heap.size w0 w' := by
  by_cases c1 : (256 : Int) < l.length
  · clear hbad
    go_enter Try.func3, Try.ntmps3
    go_wp2_with (first
    | (go_at_call 9; refine (new_calls _).mono ?_; rintro e w1 ⟨N, M, rfl, hN, hB⟩; have HB1 := Lib.hid hB; clear hN hB)
    | (go_at_call 10; refine (awake_walk _).mono ?_; rintro e w2 ⟨rfl, hB⟩; have HB2 := Lib.hid (below_step HB1.out hB); clear hB HB1)
    | (go_at_call 10; refine (awake_walk _).mono ?_; rintro e w3 ⟨rfl, hB⟩; have HB3 := Lib.hid (below_step HB2.out hB); clear hB HB2)
    | go_in)
    go_ret
    exact ⟨rfl, HB3.out⟩
  by_cases c2 : l = []
  · subst c2
    clear hbad c1
    go_enter Try.func3, Try.ntmps3
    go_wp2_with (first
    | (go_at_call 9; refine (new_calls _).mono ?_; rintro e w1 ⟨N, M, rfl, hN, hB⟩; have HB1 := Lib.hid hB; clear hN hB)
    | (go_at_call 10; refine (awake_walk _).mono ?_; rintro e w2 ⟨rfl, hB⟩; have HB2 := Lib.hid (below_step HB1.out hB); clear hB HB1)
    | (go_at_call 10; refine (awake_walk _).mono ?_; rintro e w3 ⟨rfl, hB⟩; have HB3 := Lib.hid (below_step HB2.out hB); clear hB HB2)
    | go_in)
    go_ret
    exact ⟨rfl, HB3.out⟩
  have c5 : ((l.length : Int) == 0) = false := by simpa using c2
  replace c2 := eq_false c2
  replace c1 := eq_false c1
  by_cases c3 : 1152921504606846976 < i
  · clear hbad
    go_enter Try.func3, Try.ntmps3
    go_wp2_with (first
    | (go_at_call 9; refine (new_calls _).mono ?_; rintro e w1 ⟨N, M, rfl, hN, hB⟩; have HB1 := Lib.hid hB; clear hN hB)
    | (go_at_call 10; refine (awake_walk _).mono ?_; rintro e w2 ⟨rfl, hB⟩; have HB2 := Lib.hid (below_step HB1.out hB); clear hB HB1)
    | (go_at_call 10; refine (awake_walk _).mono ?_; rintro e w3 ⟨rfl, hB⟩; have HB3 := Lib.hid (below_step HB2.out hB); clear hB HB2)
    | go_in)
    go_ret
    exact ⟨rfl, HB3.out⟩
  by_cases c4 : i < -1152921504606846976
  · replace c3 := eq_false c3
    clear hbad
    go_enter Try.func3, Try.ntmps3
    go_wp2_with (first
    | (go_at_call 9; refine (new_calls _).mono ?_; rintro e w1 ⟨N, M, rfl, hN, hB⟩; have HB1 := Lib.hid hB; clear hN hB)
    | (go_at_call 10; refine (awake_walk _).mono ?_; rintro e w2 ⟨rfl, hB⟩; have HB2 := Lib.hid (below_step HB1.out hB); clear hB HB1)
    | (go_at_call 10; refine (awake_walk _).mono ?_; rintro e w3 ⟨rfl, hB⟩; have HB3 := Lib.hid (below_step HB2.out hB); clear hB HB2)
    | go_in)
    go_ret
    exact ⟨rfl, HB3.out⟩
  · exfalso
    rcases hbad with h | h | h | h
    · exact c1.mp (by omega)
    · exact c2.mp (List.eq_nil_of_length_eq_zero h)
    · exact c3 h
    · exact c4 h

set_option maxRecDepth 100000 in
set_option maxHeartbeats 4000000 in
theorem counts_good {w0 : World} (A : Option Addr) (c : Nat) (l : List S28) (hl : l.length ≤ c) (hC : Kd.C k28 w0 A l.length l) (hg : ∀ p ∈ l, Fine28 p) (i : Int) (h1 : l.length ≤ 256) (h2 : 0 < l.length) (h3 : i ≤ 1152921504606846976) (h4 : -1152921504606846976 ≤ i) :
    Calls Try.prog 3 #[.slice A l.length c, .int .i64 i] w0 fun e w' => e = .returned (.bool true) ∧ Below w0.heap.size w0 w' := by
  have c1 := eq_false (show ¬ (256 : Int) < l.length by omega)
  have c2 : ((l.length : Int) == 0) = false := by simpa using (show ¬ l = [] from fun e => by subst e; cases h2)
  have c5 := eq_false (show ¬ l = [] from fun e => by subst e; cases h2)
  have c3 := eq_false (show ¬ 1152921504606846976 < i by omega)
  have c4 := eq_false (show ¬ i < -1152921504606846976 by omega)
  have HC := Lib.hid (And.intro hC hl)
  have HG := Lib.hid hg
  clear hC hg hl
  go_enter Try.func3, Try.ntmps3
  go_wp2_with (first
    | (go_at_call 9; refine (new_calls _).mono ?_; rintro e w1 ⟨N, M, rfl, hN, hB⟩; have HN1 := Lib.hid (And.intro hN hB); clear hN hB)
    | (go_at_call 10; refine (awake_walk _).mono ?_; rintro e w2 ⟨rfl, hB⟩; have HN2 := Lib.hid (And.intro (HN1.out.1.below hB) (below_step HN1.out.2 hB)); clear hB HN1)
    | go_in)
  go_loopw [44] (fun i wr => ∃ (k : Nat) (v : Value), k ≤ l.length ∧ i = .int .i64 k ∧ NetIn wr w0.heap.size N M v (l.take k) (.map []) 0 ∧ Below w0.heap.size w0 wr)
    (fun i _ => l.length - (intOf i).toNat)
  case atStart => exact ⟨0, _, Nat.zero_le _, rfl, HN2.out.1, HN2.out.2⟩
  case round =>
    obtain ⟨k, v, hk, rfl, hN, hB⟩ := hrel
    clear HN2
    generalize wr = wk at *
    rcases Nat.lt_or_ge k l.length with hlt | hge
    case' inl =>
      have hbody := at_T28 (Kd.C_below HC.out.1 hB) (k : Int) (by omega) (by omega)
      have hx : l[k]? = some (rd_T28 l k) := by unfold rd_T28; rw [List.getD_eq_getElem?_getD, Int.toNat_natCast, List.getElem?_eq_getElem hlt]; rfl
      have hfine := HG.out _ (List.mem_of_getElem? hx)
      have HX := Lib.hid (show l.take k ++ [⟨(rd_T28 l k).f0, (rd_T28 l k).f1, (rd_T28 l k).f2⟩] = l.take (k + 1) by rw [List.take_add_one, hx]; rfl)
      generalize rd_T28 l k = p at *
      obtain ⟨ad, A8, c8, rfl, x0, x1, x2, hl8, hi8⟩ := hbody
      rw [Int.toNat_natCast] at x0 x1 x2
      have HI := Lib.hid (And.intro hi8 (And.intro hl8 (And.intro hfine.2.2 (And.intro hN hB))))
      have HD := Lib.hid (And.intro h1 h2)
      have hd : (k : Int) < l.length := by omega
      have hlen : Hid ((l.take k).length < 256) := by show _ < _; rw [List.length_take]; omega
      clear hi8 hl8 hfine hN hB hx
      go_wp2_with (first
        | (go_at_call 12; refine (own12 p.f0 p.f1 A8 c8 p.f2 _ (Kd.C_alloc HI.out.1 _) HI.out.2.1 HI.out.2.2.1).mono ?_; rintro e w3 ⟨v3, rfl, hR, hB⟩; obtain ⟨A9, c9, rfl⟩ := Kd.R_slice hR; have hB3 := below_step ((Below.refl wk.heap.size wk).alloc (Nat.le_refl _) (.cells #[.int .i64 p.f0, .int .i64 p.f1, .slice A8 p.f2.length c8] 28)) hB; have HN3 := Lib.hid (And.intro (HI.out.2.2.2.1.below hB3) (And.intro (below_step HI.out.2.2.2.2 hB3) (Kd.R_reads' hR))); clear hR hB hB3)
        | (go_at_call 11; refine (send_room HN3.out.1 hlen.out p.f0 p.f1 A9 c9 p.f2 HN3.out.2.2.2.2 HN3.out.2.2.2.1 (Nat.le_of_lt HI.out.2.2.1)).mono ?_; rintro e w4 ⟨rfl, v4, hN, hM⟩; have HN4 := Lib.hid (And.intro hN (HN3.out.2.1.trans hM.1)); clear hN hM HN3)
        | go_in)
    exact ⟨⟨k + 1, v4, hlt, rfl, by rw [← HX.out]; exact HN4.out.1, HN4.out.2⟩, by simp [intOf]; omega⟩
    obtain rfl : k = l.length := by omega
    rw [List.take_length] at hN
    obtain ⟨kk, hkk, hat⟩ := atF_nat l.length i h2
    have hat2 := (atF_add l.length i h2 h1 h3 h4).trans hat
    have hat3 := (atF_sub l.length i h2 h1 h3 h4).trans hat
    have hx : l[kk]? = some (l.getD kk z28) := by rw [List.getD_eq_getElem?_getD, List.getElem?_eq_getElem hkk]; rfl
    have hfine := HG.out _ (List.mem_of_getElem? hx)
    have HA := Lib.hid (And.intro hat (And.intro hat2 (And.intro hat3 (And.intro hkk (And.intro h1 hfine)))))
    have HE0 := Lib.hid (And.intro hN hB)
    have HL : Hid (((cutOut l kk).length : Int) = (l.length : Int) - 1) := by
      show _ = _
      unfold cutOut
      rw [List.length_append, List.length_take, List.length_drop]
      omega
    clear hat hat2 hat3 hkk hfine hx hN hB h3 h4
    have P1 := fun {w : World} {v : Value} (h : NetIn w w0.heap.size N M v l (.map []) 0) => peek_calls h i kk HA.out.2.2.2.1 HA.out.1 HA.out.2.2.2.2.1 (Nat.le_of_lt HA.out.2.2.2.2.2.2.2)
    have P2 := fun {w : World} {v : Value} (h : NetIn w w0.heap.size N M v l (.map []) 0) => peek_calls h _ kk HA.out.2.2.2.1 HA.out.2.1 HA.out.2.2.2.2.1 (Nat.le_of_lt HA.out.2.2.2.2.2.2.2)
    have P3 := fun {w : World} {v : Value} (h : NetIn w w0.heap.size N M v l (.map []) 0) => peek_calls h _ kk HA.out.2.2.2.1 HA.out.2.2.1 HA.out.2.2.2.2.1 (Nat.le_of_lt HA.out.2.2.2.2.2.2.2)
    have P4 := fun {w : World} {v : Value} (h : NetIn w w0.heap.size N M v l (.map []) 0) => took_calls h i kk HA.out.1 HA.out.2.2.2.2.1 HA.out.2.2.2.2.2.1 HA.out.2.2.2.2.2.2.1 (fun w h => take_calls kk HA.out.2.2.2.1 HA.out.2.2.2.2.1 w h)
    have hz : Hid ((l.getD kk z28).f2.length < 140737488355328) := HA.out.2.2.2.2.2.2.2
    unfold TookPost at P4
    generalize l.getD kk z28 = x at *
    simp only [show isCut (DataW.map []) x.f0 x.f1 = false from rfl, Bool.false_eq_true, if_false, Bool.not_false] at P4
    have HP := Lib.hid (And.intro @P1 (And.intro @P2 (And.intro @P3 @P4)))
    clear P1 P2 P3 P4
    have hge' := eq_false (show ¬ (l.length : Int) < l.length by omega)
    clear hge hk
    go_wp2_with (first
      | (go_at_call 13; refine (HP.out.1 HE0.out.1).mono ?_; rintro e w5 ⟨A5, c5, rfl, hR, hB⟩; have HE1 := Lib.hid (And.intro ((HE0.out.1.below hB).below (alloc_below _ (.cells #[.int .i64 x.f0, .int .i64 x.f1, .slice A5 x.f2.length c5] 28))) (And.intro (below_step (below_step HE0.out.2 hB) (alloc_below _ (.cells #[.int .i64 x.f0, .int .i64 x.f1, .slice A5 x.f2.length c5] 28))) (Held.new (Kd.R_lower hR HE0.out.2.size)))); clear hR hB HE0)
      | (go_at_call 13; refine (HP.out.2.1 HE1.out.1).mono ?_; rintro e w6 ⟨A6, c6, rfl, hR, hB⟩; have HE2 := Lib.hid (And.intro ((HE1.out.1.below hB).below (alloc_below _ (.cells #[.int .i64 x.f0, .int .i64 x.f1, .slice A6 x.f2.length c6] 28))) (And.intro (below_step (below_step HE1.out.2.1 hB) (alloc_below _ (.cells #[.int .i64 x.f0, .int .i64 x.f1, .slice A6 x.f2.length c6] 28))) (And.intro (Held.new (Kd.R_lower hR HE1.out.2.1.size)) ((HE1.out.2.2.below hB).below (alloc_below _ (.cells #[.int .i64 x.f0, .int .i64 x.f1, .slice A6 x.f2.length c6] 28)))))); clear hR hB HE1)
      | (go_at_call 13; refine (HP.out.2.2.1 HE2.out.1).mono ?_; rintro e w7 ⟨A7, c7, rfl, hR, hB⟩; have HE3 := Lib.hid (And.intro ((HE2.out.1.below hB).below (alloc_below _ (.cells #[.int .i64 x.f0, .int .i64 x.f1, .slice A7 x.f2.length c7] 28))) (And.intro (below_step (below_step HE2.out.2.1 hB) (alloc_below _ (.cells #[.int .i64 x.f0, .int .i64 x.f1, .slice A7 x.f2.length c7] 28))) (And.intro (Held.new (Kd.R_lower hR HE2.out.2.1.size)) (And.intro ((HE2.out.2.2.1.below hB).below (alloc_below _ (.cells #[.int .i64 x.f0, .int .i64 x.f1, .slice A7 x.f2.length c7] 28))) ((HE2.out.2.2.2.below hB).below (alloc_below _ (.cells #[.int .i64 x.f0, .int .i64 x.f1, .slice A7 x.f2.length c7] 28))))))); clear hR hB HE2)
      | (go_at_call 14; refine (HP.out.2.2.2 HE3.out.1).mono ?_; rintro e w8 ⟨A8, c8, rfl, hR, v8, hS, hN, hM⟩; have HE4 := Lib.hid (And.intro (hN.below (alloc_below _ (.cells #[.int .i64 x.f0, .int .i64 x.f1, .slice A8 x.f2.length c8] 28))) (And.intro (below_step (HE3.out.2.1.trans hM.1) (alloc_below _ (.cells #[.int .i64 x.f0, .int .i64 x.f1, .slice A8 x.f2.length c8] 28))) (And.intro (Held.new hR) (And.intro ((HE3.out.2.2.1.move HE3.out.1.cell hM.2).below (alloc_below _ (.cells #[.int .i64 x.f0, .int .i64 x.f1, .slice A8 x.f2.length c8] 28))) (And.intro ((HE3.out.2.2.2.1.move HE3.out.1.cell hM.2).below (alloc_below _ (.cells #[.int .i64 x.f0, .int .i64 x.f1, .slice A8 x.f2.length c8] 28))) ((HE3.out.2.2.2.2.move HE3.out.1.cell hM.2).below (alloc_below _ (.cells #[.int .i64 x.f0, .int .i64 x.f1, .slice A8 x.f2.length c8] 28)))))))); clear hR hS hN hM HE3; have qd := blk_cell HE4.out.2.2.1.1; have qc := blk_cell HE4.out.2.2.2.1.1; have qb := blk_cell HE4.out.2.2.2.2.1.1; have qa := blk_cell HE4.out.2.2.2.2.2.1)
      | (go_at_call 15; refine (same15 x.f0 x.f1 A5 c5 A6 c6 x.f2 _ (Kd.R_reads' HE4.out.2.2.2.2.2.2).2.2 (Kd.R_reads' HE4.out.2.2.2.2.2.2).2.1 (Kd.R_reads' HE4.out.2.2.2.2.1.2).2.2 (Kd.R_reads' HE4.out.2.2.2.2.1.2).2.1 hz.out).mono ?_; rintro e w11 ⟨rfl, hB⟩; have HE5 := Lib.hid (And.intro (HE4.out.1.below hB) (And.intro (below_step HE4.out.2.1 hB) (And.intro (HE4.out.2.2.1.below hB) (And.intro (HE4.out.2.2.2.1.below hB) (And.intro (HE4.out.2.2.2.2.1.below hB) (HE4.out.2.2.2.2.2.below hB)))))); clear hB HE4 qa qb qc qd; have qd := blk_cell HE5.out.2.2.1.1; have qc := blk_cell HE5.out.2.2.2.1.1; have qb := blk_cell HE5.out.2.2.2.2.1.1; have qa := blk_cell HE5.out.2.2.2.2.2.1)
      | (go_at_call 15; refine (same15 x.f0 x.f1 A5 c5 A7 c7 x.f2 _ (Kd.R_reads' HE5.out.2.2.2.2.2.2).2.2 (Kd.R_reads' HE5.out.2.2.2.2.2.2).2.1 (Kd.R_reads' HE5.out.2.2.2.1.2).2.2 (Kd.R_reads' HE5.out.2.2.2.1.2).2.1 hz.out).mono ?_; rintro e w12 ⟨rfl, hB⟩; have HE6 := Lib.hid (And.intro (HE5.out.1.below hB) (And.intro (below_step HE5.out.2.1 hB) (And.intro (HE5.out.2.2.1.below hB) (And.intro (HE5.out.2.2.2.1.below hB) (And.intro (HE5.out.2.2.2.2.1.below hB) (HE5.out.2.2.2.2.2.below hB)))))); clear hB HE5 qa qb qc qd; have qd := blk_cell HE6.out.2.2.1.1; have qc := blk_cell HE6.out.2.2.2.1.1; have qb := blk_cell HE6.out.2.2.2.2.1.1; have qa := blk_cell HE6.out.2.2.2.2.2.1)
      | (go_at_call 15; refine (same15 x.f0 x.f1 A5 c5 A8 c8 x.f2 _ (Kd.R_reads' HE6.out.2.2.2.2.2.2).2.2 (Kd.R_reads' HE6.out.2.2.2.2.2.2).2.1 (Kd.R_reads' HE6.out.2.2.1.2).2.2 (Kd.R_reads' HE6.out.2.2.1.2).2.1 hz.out).mono ?_; rintro e w13 ⟨rfl, hB⟩; have HE7 := Lib.hid (And.intro (HE6.out.1.below hB) (And.intro (below_step HE6.out.2.1 hB) (And.intro (HE6.out.2.2.1.below hB) (And.intro (HE6.out.2.2.2.1.below hB) (And.intro (HE6.out.2.2.2.2.1.below hB) (HE6.out.2.2.2.2.2.below hB)))))); clear hB HE6 qa qb qc qd; have qd := blk_cell HE7.out.2.2.1.1; have qc := blk_cell HE7.out.2.2.2.1.1; have qb := blk_cell HE7.out.2.2.2.2.1.1; have qa := blk_cell HE7.out.2.2.2.2.2.1)
      | (go_at_call 16; refine (count_calls HE7.out.1).mono ?_; rintro e w20 ⟨rfl, rfl⟩; rw [HL.out])
      | go_in)
    go_ret
    exact ⟨by simp, HE7.out.2.1⟩

theorem counts_calls {w0 : World} (A : Option Addr) (c : Nat) (l : List S28) (hl : l.length ≤ c) (hC : Kd.C k28 w0 A l.length l) (hg : ∀ p ∈ l, Fine28 p) (_hz : l.length ≤ 140737488355328) (i : Int) (_wi : (Lit.int .i64 i).wf = true) :
    Calls Try.prog 3 #[.slice A l.length c, .int .i64 i] w0 fun e w' => e = .returned (.bool true) ∧ Below w0.heap.size w0 w' := by
  by_cases h : 256 < l.length ∨ l.length = 0 ∨ 1152921504606846976 < i ∨ i < -1152921504606846976
  · exact counts_bad A c l i h
  · exact counts_good A c l hl hC hg i (by omega) (by omega) (by omega) (by omega)
end Go.Proofs.Ytalaghkpbdaonaa

/- A net in memory, and net.own: what it computes. No conditions. -/
import Derived.Test.YtalaghkpbdaonaaH1
import Derived.Maps.OwnSet
import Derived.Maps.OwnOps
import Derived.WideKeyArr
import Derived.Deep.RegionHeld3
import Derived.Deep.RegionLawGrows
import Derived.Carry
import Derived.Laws.Rows
import Derived.Lib.Hide
import Derived.Outline
import Derived.Maps.RangeWalk
namespace Go.Proofs.Ytalaghkpbdaonaa
open Go Go.RowKit H Go.Proofs.YtalaghkpbdaonaaW.PrintWords

/-- The list in flight: a row of the net's own, or one that is cut to what it holds. -/
def Flight (w : World) (base : Nat) (v : Value) (n : Nat) (cs : List Value) : Prop :=
  w.ownsRow base 28 3 v n cs ∨ ∃ g cur, v = .slice (some ⟨g, 0, none⟩) n n ∧ base ≤ g ∧ w.heap[g]? = some (.cells cur 28 (0, 0)) ∧ n ≤ maxLen ∧ n * 3 ≤ cur.size ∧ cur.toList.take (n * 3) = cs

/-- A net at block N, its map at block M. -/
structure NetIn (w : World) (base N M : Nat) (v : Value) (ps : List S28) (D : DataW Unit) (m : Nat) : Prop where
  geN : base ≤ N
  geM : base ≤ M
  cell : w.heap[N]? = some (.cells #[v, .map (some M)] 56 (0, 0))
  list : ∃ cs, Flight w base v ps.length cs ∧ Reps (k28.M w base (fun _ => True)) 3 ps cs
  map : w.ownsMap Try.prog 37 (plainElem Try.prog 4) M m D

theorem info28 : (Try.prog.info? 28).map (fun i => (i.zero, i.size, i.bytes)) = some (some (.agg #[(.int .i64 0), (.int .i64 0), (.slice none 0 0)]), 3, 40) := by kernel_rfl
theorem keyed37 : Maps.Keyed Try.prog 37 := Maps.Keyed.of_law (WideMaps.ArrKey.law (e := 3) (n := 2) ⟨Try.underlying37, by kernel_rfl, by kernel_rfl, by kernel_rfl⟩)

theorem u8_cells {w : World} {A : Option Addr} {n : Nat} {xs : List Int} (h : Kd.C (Kd.int .u8) w A n xs) (hp : 0 < n) : ∃ ad, A = some ad ∧ ∀ j u, (xs.map (Value.int .u8))[j]? = some u → w.cell? (ad.add j) = some u := by
  obtain ⟨h1, h2, h3⟩ := h
  obtain ⟨ad, rfl, hc⟩ := h3 hp
  refine ⟨ad, rfl, fun j u hu => ?_⟩
  rw [List.getElem?_map] at hu
  cases hx : xs[j]? with
  | none => rw [hx] at hu; cases hu
  | some p =>
    rw [hx] at hu
    obtain rfl := Option.some.inj hu
    obtain ⟨c, _, hK, hcell⟩ := hc j p hx
    obtain rfl : c = [.int .u8 p] := hK
    have h0 : w.cell? (ad.add (j * 1 + 0)) = some (.int .u8 p) := hcell 0 _ rfl
    rwa [Nat.mul_one, Nat.add_zero] at h0

theorem u8_row {w : World} {base : Nat} {v : Value} {xs : List Int} (h : w.ownsRow base 5 1 v xs.length (xs.map (Value.int .u8))) : (Kd.int .u8).R 5 w base (fun _ => True) v xs :=
  ⟨fun _ _ => trivial, _, h, Kd.reps_scalar xs⟩

theorem row_val {w : World} {base n size : Nat} {e : TypeId} {v : Value} {xs : List Value} (h : w.ownsRow base e size v n xs) : ∃ A c, v = .slice A n c := by
  rcases h.2 with ⟨rfl, rfl⟩ | ⟨g, c, cur, rfl, _⟩
  · exact ⟨none, 0, rfl⟩
  · exact ⟨_, c, rfl⟩

theorem alloc2_at (w : World) (o p : Obj) : ((w.alloc o).alloc p).heap[w.heap.size + 1]? = some p ∧ ((w.alloc o).alloc p).heap[w.heap.size]? = some o := by
  have h1 : ∀ (v : World) (o : Obj), (v.alloc o).heap = v.heap.push o := fun _ _ => rfl
  constructor
  · rw [h1, Array.getElem?_push, if_pos (by rw [h1, Array.size_push])]
  · rw [h1, Array.getElem?_push, if_neg (by rw [h1, Array.size_push]; omega), h1, Array.getElem?_push, if_pos rfl]

set_option maxRecDepth 100000 in
set_option maxHeartbeats 4000000 in
theorem own26 (x y : Int) (A : Option Addr) (c : Nat) (xs : List Int) (w : World) (hr : Kd.C (Kd.int .u8) w A xs.length xs) (hc : xs.length ≤ c) (hl : xs.length ≤ 140737488355328) :
    Calls Try.prog 26 #[.agg #[.int .i64 x, .int .i64 y, .slice A xs.length c]] w fun e w' => ∃ v, e = .returned (.agg #[.int .i64 x, .int .i64 y, v]) ∧ (Kd.int .u8).R 5 w' w.heap.size (fun _ => True) v xs ∧ Below w.heap.size w w' := by
  have HBW := Lib.hid (show ∀ o p, Below w.heap.size w ((w.alloc o).alloc p) from fun o p => ((Below.refl _ _).alloc (Nat.le_refl _) o).alloc (by simp) p)
  rcases Nat.eq_zero_or_pos xs.length with h0 | h0
  · obtain rfl := List.eq_nil_of_length_eq_zero h0
    clear hr hc hl h0
    have hp : ∀ (x : Array Value) (W : World), Sem.run Try.prog (pure x) W = .ok x W := fun _ _ => rfl
    cases A
    all_goals
      go_enter Try.func26, Try.ntmps26
      go_wp2
      refine bodyPost_ret (results_cell_row rfl _ _ (w.heap.size + 1) 28 #[.int .i64 x, .int .i64 y, .slice none 0 0] (0, 0) _ rfl (alloc2_at w _ _).1 Try.underlying28 rfl (by kernel_rfl)) rfl ?_
      exact ⟨_, rfl, Kd.R_nil _ _ _ _ _, HBW.out _ _⟩
  · obtain ⟨i5, hi5, hz0, hz1, hz2⟩ := info_parts info5
    obtain ⟨ad, rfl, hcells⟩ := u8_cells hr h0
    have HC := Lib.hid hcells
    clear hcells hr
    go_enter Try.func26, Try.ntmps26
    go_wp2_with (first | (at_builtin; refine wpList_append_own_at _ rfl (.const (.slice none 0 0)) (.tmp 4) 26 rfl w.heap.size 5 i5 (.int .u8 0) 1 1 Try.underlying26 hi5 hz0 hz1 hz2 rfl (by decide) (.slice none 0 0) 0 [] rfl (World.ownsRow_nil _ _ _ _) ad xs.length c (xs.map (Value.int .u8)) rfl (by simp) ?news (by simp [Value.oneCell']) (by unfold maxLen; omega) (by omega) (by simp; omega) ?_; rotate_left; intro v' w5 hown5 hgrow5 _ hat5; (have k0 : w5.heap[w.heap.size]? = some (.cells #[.int .i64 x, .int .i64 y, .slice (some ad) xs.length c] 28 (0, 0)) := (hgrow5.block _ (by simp; omega) (by simp [Value.ownBlock])).trans (alloc2_at w _ _).2); (have k1 : w5.heap[w.heap.size + 1]? = some (.cells #[.int .i64 0, .int .i64 0, .slice none 0 0] 28 (0, 0)) := (hgrow5.block _ (by simp) (by simp [Value.ownBlock])).trans (alloc2_at w _ _).1); (obtain ⟨A5, c5, rfl⟩ := row_val hown5); have q0 := blk_cell k0; have q1 := blk_cell k1; have f0 := blk_frozen k0; have f1 := blk_frozen k1; go_frame) | go_in)
    case news => exact fun j u hu => ((HBW.out _ _).cell (World.block_lt_of_cell? w _ (HC.out j u hu))).trans (HC.out j u hu)
    have hb5 : Below w.heap.size w w5 := (HBW.out _ _).grown hgrow5 (HBW.out _ _).size (fun q hq => by simp [Value.ownBlock] at hq)
    have hR := u8_row (by simpa using hown5)
    have hR2 := Kd.R_types (Kd.R_types hR k0 (by decide)) k1 (by decide)
    have e1 := blk_far k1 (p := ⟨w.heap.size, 2, none⟩) (by simp) (.slice A5 xs.length c5)
    have e2 := blk_put (cs' := #[.int .i64 x, .int .i64 0, .slice none 0 0]) e1 0 (.int .i64 x) rfl
    have e3 := blk_put (cs' := #[.int .i64 x, .int .i64 y, .slice none 0 0]) e2 1 (.int .i64 y) rfl
    have e4 := blk_put (cs' := #[.int .i64 x, .int .i64 y, .slice A5 xs.length c5]) e3 2 (.slice A5 xs.length c5) rfl
    refine bodyPost_ret (results_cell_row rfl _ _ (w.heap.size + 1) 28 #[.int .i64 x, .int .i64 y, .slice A5 xs.length c5] (0, 0) _ rfl e4 Try.underlying28 rfl (by kernel_rfl)) rfl ?_
    refine ⟨_, rfl, Kd.R_mono (Kd.R_far (p := ⟨w.heap.size + 1, 2, none⟩) (Kd.R_far (p := ⟨w.heap.size + 1, 1, none⟩) (Kd.R_far (p := ⟨w.heap.size + 1, 0, none⟩) (Kd.R_far (p := ⟨w.heap.size, 2, none⟩) hR2 (fun k hk => hk.1.2) _) (fun k hk => hk.2) _) (fun k hk => hk.2) _) (fun k hk => hk.2) _) (fun _ _ => trivial), ?_⟩
    exact below_set (below_set (below_set (below_set hb5 (Nat.le_refl _)) (Nat.le_succ _)) (Nat.le_succ _)) (Nat.le_succ _)
end Go.Proofs.Ytalaghkpbdaonaa

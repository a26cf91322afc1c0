/- A packet of one's own, and packets that are alike. No conditions. -/
import Derived.Test.YtalaghkpbdaonaaNetF
namespace Go.Proofs.Ytalaghkpbdaonaa
open Go Go.RowKit H Go.Proofs.YtalaghkpbdaonaaW.PrintWords

theorem own12 (x y : Int) (A : Option Addr) (c : Nat) (xs : List Int) (w : World) (hr : Kd.C (Kd.int .u8) w A xs.length xs) (hc : xs.length ≤ c) (hl : xs.length < 140737488355328) :
    Calls Try.prog 12 #[.agg #[.int .i64 x, .int .i64 y, .slice A xs.length c]] w fun e w' => ∃ v, e = .returned (.agg #[.int .i64 x, .int .i64 y, v]) ∧ (Kd.int .u8).R 5 w' w.heap.size (fun _ => True) v xs ∧ Below w.heap.size w w' :=
  penstocklaw11_own.calls x y A c xs x y xs w hr hc (by unfold penstocklaw11_own.f; simp; omega)

theorem same_loop (xs : List Int) (hz : xs.length < 140737488355328) : ∀ (k j : Nat), j ≤ xs.length → xs.length + 1 ≤ j + k → penstockref03_Same.l0 k xs xs j = some true
  | 0, j, h1, h2 => by omega
  | k + 1, j, h1, h2 => by
    unfold penstockref03_Same.l0
    by_cases h : j < xs.length
    · rw [if_pos (by omega), if_pos (by omega), if_pos (by omega), if_pos rfl, show wrap64 ((j : Int) + 1) = ((j + 1 : Nat) : Int) by unfold wrap64; omega]
      exact same_loop xs hz k (j + 1) (by omega) (by omega)
    · rw [if_neg (by omega)]

theorem same15 (x y : Int) (A : Option Addr) (c : Nat) (A' : Option Addr) (c' : Nat) (xs : List Int) (w : World) (hr : Kd.C (Kd.int .u8) w A xs.length xs) (hc : xs.length ≤ c) (hr' : Kd.C (Kd.int .u8) w A' xs.length xs) (hc' : xs.length ≤ c') (hl : xs.length < 140737488355328) :
    Calls Try.prog 15 #[.agg #[.int .i64 x, .int .i64 y, .slice A xs.length c], .agg #[.int .i64 x, .int .i64 y, .slice A' xs.length c']] w fun e w' => e = .returned (.bool true) ∧ Below w.heap.size w w' :=
  penstockref11_Same.calls (xs.length + 1) x y A c xs x y A' c' xs true w hr hc hr' hc' (by
    unfold penstockref11_Same.f penstockref03_Same.f
    rw [if_pos rfl, if_pos rfl, if_pos rfl, show (0 : Int) = ((0 : Nat) : Int) from rfl, same_loop xs hl (xs.length + 1) 0 (Nat.zero_le _) (by omega)]
    rfl)
end Go.Proofs.Ytalaghkpbdaonaa

/- Pairs in a row of pairs, pairs that are equal, and what is cut. No conditions. -/
import Derived.Test.YtalaghkpbdaonaaNetT
import Derived.Test.YtalaghkpbdaonaaNetQ
import Derived.Test.YtalaghkpbdaonaaOpenP
import Derived.Test.YtalaghkpbdaonaaNetM
import Derived.ChangeKeysEq
import Derived.Laws.StructEq
namespace Go.Proofs.Ytalaghkpbdaonaa
open Go Go.RowKit H Go.Proofs.YtalaghkpbdaonaaW.PrintWords

def cutAll (l : List (Int × Int)) (x y : Int) : Bool := l.any (fun p => p.1 != p.2 && samePair p.1 p.2 x y)

theorem cutAll_take {l : List (Int × Int)} {k : Nat} {p : Int × Int} (h : l[k]? = some p) (x y : Int) : cutAll (l.take (k + 1)) x y = (cutAll (l.take k) x y || (p.1 != p.2 && samePair p.1 p.2 x y)) := by
  unfold cutAll
  rw [List.take_add_one, h, List.any_append]
  simp

def zP : Int × Int := (0, 0)
def rd_P (l : List (Int × Int)) (k : Nat) : Int × Int := l.getD k zP

theorem at_P {w : World} {A : Option Addr} {n : Nat} {xs : List (Int × Int)} (h : Kd.C k37 w A n xs) (k : Nat) (h1 : k < n) : ∃ ad, A = some ad ∧ w.cell? (ad.add (k * 2)) = some (.int .i64 (rd_P xs k).1) ∧ w.cell? ⟨(ad.add (k * 2)).block, (ad.add (k * 2)).off + 1, none⟩ = some (.int .i64 (rd_P xs k).2) := by
  obtain ⟨ad, c, e, _, hK, hc0⟩ := Kd.C_get h zP (k : Int) (by omega) (by omega)
  rw [Int.toNat_natCast] at hK hc0
  have hc : ∀ j u, c[j]? = some u → w.cell? (ad.add (k * 2 + j)) = some u := hc0
  obtain ⟨c0, c1, rfl, h0, h1⟩ := hK
  have e0 : c0 = [.int .i64 (rd_P xs k).1] := h0
  have e1 : c1 = [.int .i64 (rd_P xs k).2] := h1
  subst e0 e1
  exact ⟨ad, e, hc 0 _ rfl, by rw [← add_field _ _ 1 (by omega)]; exact hc 1 _ rfl⟩

theorem noGuard37 : Try.prog.eqGuardType Try.prog.depth 37 = false := by kernel_rfl

theorem eql37 (a b x y : Int) (w : World) : (binOp .eql 37 (.agg #[.int .i64 a, .int .i64 b]) (.agg #[.int .i64 x, .int .i64 y])).run Try.prog w = .ok (.bool (a == x && b == y)) w := by
  obtain ⟨i, hi⟩ : ∃ i, Try.prog.info? 3 = some i := by
    have h : (Try.prog.info? 3).isSome = true := by kernel_rfl
    exact Option.isSome_iff_exists.1 h
  rw [run_eql_struct, show (10000 : Nat) = 9999 + 1 from rfl, run_equalIn_array w 9999 _ _ Try.underlying37 hi]
  have p0 : ∀ (u v : Value), (part 3 #[u, v] (0 * Try.prog.cellsOf 3)).run Try.prog w = .ok u w := fun u v => by rw [cells3]; kernel_rfl
  have p1 : ∀ (u v : Value), (part 3 #[u, v] (1 * Try.prog.cellsOf 3)).run Try.prog w = .ok v w := fun u v => by rw [cells3]; kernel_rfl
  have r : List.range 2 = [0, 1] := rfl
  rw [r]
  simp only [Op.eqItems, Sem.run_bind, p0, p1, Result.andThen_ok, show (9999 : Nat) = 9998 + 1 from rfl, run_equalIn_int w 9998 3 .i64 .i64 _ _ Try.underlying3]
  cases (a == x)
  · rfl
  · simp only [Bool.not_true, Bool.false_eq_true, if_false, Sem.run_bind, p1, Result.andThen_ok, run_equalIn_int w 9998 3 .i64 .i64 _ _ Try.underlying3]
    cases (b == y) <;> rfl

/-- Take out of a net of one packet. -/
theorem took_one {w : World} {base N M : Nat} {v : Value} {p : S28} {D : DataW Unit} {m : Nat} (h : NetIn w base N M v ([] ++ [⟨p.f0, p.f1, p.f2⟩]) D m) (wx : (Lit.int .i64 p.f0).wf = true) (wy : (Lit.int .i64 p.f1).wf = true) (cu : Bool) (hcu : isCut D p.f0 p.f1 = cu) :
    Calls Try.prog 14 #[.pointer (some ⟨N, 0, none⟩), .int .i64 0] w fun e w' => ∃ A c, e = .returned (.tuple #[(bif cu then .agg #[.int .i64 0, .int .i64 0, .slice none 0 0] else .agg #[.int .i64 p.f0, .int .i64 p.f1, .slice A p.f2.length c]), .bool (!cu)]) ∧ (Kd.int .u8).R 5 w' base (fun _ => True) (.slice A p.f2.length c) p.f2 ∧ ∃ v', NetIn w' base N M v' [] D m ∧ TakeMoved w w' base N := by
  refine (took_calls h 0 0 rfl (by simp) wx wy (fun w h => take_calls 0 (by simp) (by simp) w h)).mono ?_
  rintro e w4 ⟨A, c, rfl, hR, v4, hS, hN, hM⟩
  refine ⟨A, c, ?_, hR, v4, hN, hM⟩
  have h2 : isCut D (([] ++ [⟨p.f0, p.f1, p.f2⟩] : List S28).getD 0 z28).f0 (([] ++ [⟨p.f0, p.f1, p.f2⟩] : List S28).getD 0 z28).f1 = cu := hcu
  rw [h2]
  cases cu <;> rfl
end Go.Proofs.Ytalaghkpbdaonaa

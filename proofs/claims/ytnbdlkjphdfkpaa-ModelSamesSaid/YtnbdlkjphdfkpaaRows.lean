/-
  No cell of these rows narrows 'for every input' (looked for: loops, veiled, ifaces, maps, wideKeys, modest, calm, conditions, laid).
  DERIVED. THE GIVEN ROWS OF THIS SEAT. 5 by the template 'for every input the law returns true; each argument reads behind the call as it read before'; 0 by the template 'total and deterministic' (their statements: YtnbdlkjphdfkpaaTotals.lean).
  GIVEN WITH THE SEED: the statements are not yours to turn. If you find one false, say at which input.
  Laid BY PROGRAM, IN A SANDBOX (cutbox-rows.mjs): the forced cells as the released guide's own fill.sh prints them over the translation e6ec34884a6b3445… (all of the seat's roots in one cut). By AI agents, Wed Nov 11 2026. No macro, syntax, notation, axiom, sorry.
-/
import Derived.Test.YtnbdlkjphdfkpaaChecked
import GoSem.Claim
import GoSem.ClaimJoined
import GoSem.ClaimMapViews
import Derived.JoinedTies
import Derived.KernelRfl
namespace Go.Proofs.Ytnbdlkjphdfkpaa
/- THE CELL 'sum', in the pinned program and in every row, IS THE sha256 OF THE DUMP (.gsa) THAT YtnbdlkjphdfkpaaProg.lean LOADS. Nothing in Lean hashes anything: it is a label: what it is worth is what the hold of that sum in a sandbox is worth. -/
noncomputable def Try.pinned : Pinned := { name := "ytnbdlkjphdfkpaa", sum := "e6ec34884a6b3445b756ad5f118128d72abadc3ddb2395b0d787a6cd855323be", checked := Try.checked }
namespace Rows
def none {H : Type} : Left H := { results := [], args := [] }

/-- 'penstocklaw21.ModelCommits': WHATEVER THE INPUT: true; the input reads as it did. -/
def modelCommitsSpec : ChangeSpec := { name := "modelCommits", fn := fun _ => fun
  | [d1, d2] => { results := [.lit (.bool true)], args := [d1, d2] }
  | _ => none }
def modelCommitsRow : OpenClaim := { program := "ytnbdlkjphdfkpaa", sum := "e6ec34884a6b3445b756ad5f118128d72abadc3ddb2395b0d787a6cd855323be", func := "penstock/penstocklaw21.ModelCommits", spec := "modelCommits", apart := false }
def ModelCommitsSaid : Prop := modelCommitsRow.holds Try.pinned (OpenSpec.ofChange modelCommitsSpec)

/-- ITS FALSE NEIGHBOUR: 'it returns false'. Refute it at one input. -/
def modelCommitsWrong : ChangeSpec := { name := "modelCommits", fn := fun _ => fun
  | [d1, d2] => { results := [.lit (.bool false)], args := [d1, d2] }
  | _ => none }
def ModelCommitsWrongFalsely : Prop := modelCommitsRow.holds Try.pinned (OpenSpec.ofChange modelCommitsWrong)

/-- 'penstocklaw21.ModelStables': WHATEVER THE INPUT: true; the input reads as it did. -/
def modelStablesSpec : ChangeSpec := { name := "modelStables", fn := fun _ => fun
  | [d1, d2] => { results := [.lit (.bool true)], args := [d1, d2] }
  | _ => none }
def modelStablesRow : OpenClaim := { program := "ytnbdlkjphdfkpaa", sum := "e6ec34884a6b3445b756ad5f118128d72abadc3ddb2395b0d787a6cd855323be", func := "penstock/penstocklaw21.ModelStables", spec := "modelStables", apart := false }
def ModelStablesSaid : Prop := modelStablesRow.holds Try.pinned (OpenSpec.ofChange modelStablesSpec)

/-- ITS FALSE NEIGHBOUR: 'it returns false'. Refute it at one input. -/
def modelStablesWrong : ChangeSpec := { name := "modelStables", fn := fun _ => fun
  | [d1, d2] => { results := [.lit (.bool false)], args := [d1, d2] }
  | _ => none }
def ModelStablesWrongFalsely : Prop := modelStablesRow.holds Try.pinned (OpenSpec.ofChange modelStablesWrong)

/-- 'penstocklaw21.ModelGrows': WHATEVER THE INPUT: true; the input reads as it did. -/
def modelGrowsSpec : ChangeSpec := { name := "modelGrows", fn := fun _ => fun
  | [d1, d2, d3] => { results := [.lit (.bool true)], args := [d1, d2, d3] }
  | _ => none }
def modelGrowsRow : OpenClaim := { program := "ytnbdlkjphdfkpaa", sum := "e6ec34884a6b3445b756ad5f118128d72abadc3ddb2395b0d787a6cd855323be", func := "penstock/penstocklaw21.ModelGrows", spec := "modelGrows", apart := false }
def ModelGrowsSaid : Prop := modelGrowsRow.holds Try.pinned (OpenSpec.ofChange modelGrowsSpec)

/-- ITS FALSE NEIGHBOUR: 'it returns false'. Refute it at one input. -/
def modelGrowsWrong : ChangeSpec := { name := "modelGrows", fn := fun _ => fun
  | [d1, d2, d3] => { results := [.lit (.bool false)], args := [d1, d2, d3] }
  | _ => none }
def ModelGrowsWrongFalsely : Prop := modelGrowsRow.holds Try.pinned (OpenSpec.ofChange modelGrowsWrong)

/-- 'penstocklaw21.ModelWhole': WHATEVER THE INPUT: true; the input reads as it did. -/
def modelWholeSpec : ChangeSpec := { name := "modelWhole", fn := fun _ => fun
  | [d1, d2] => { results := [.lit (.bool true)], args := [d1, d2] }
  | _ => none }
def modelWholeRow : OpenClaim := { program := "ytnbdlkjphdfkpaa", sum := "e6ec34884a6b3445b756ad5f118128d72abadc3ddb2395b0d787a6cd855323be", func := "penstock/penstocklaw21.ModelWhole", spec := "modelWhole", apart := false }
def ModelWholeSaid : Prop := modelWholeRow.holds Try.pinned (OpenSpec.ofChange modelWholeSpec)

/-- ITS FALSE NEIGHBOUR: 'it returns false'. Refute it at one input. -/
def modelWholeWrong : ChangeSpec := { name := "modelWhole", fn := fun _ => fun
  | [d1, d2] => { results := [.lit (.bool false)], args := [d1, d2] }
  | _ => none }
def ModelWholeWrongFalsely : Prop := modelWholeRow.holds Try.pinned (OpenSpec.ofChange modelWholeWrong)

/-- 'penstocklaw21.ModelSames': WHATEVER THE INPUT: true; the input reads as it did. -/
def modelSamesSpec : ChangeSpec := { name := "modelSames", fn := fun _ => fun
  | [d1, d2, d3, d4, d5] => { results := [.lit (.bool true)], args := [d1, d2, d3, d4, d5] }
  | _ => none }
def modelSamesRow : OpenClaim := { program := "ytnbdlkjphdfkpaa", sum := "e6ec34884a6b3445b756ad5f118128d72abadc3ddb2395b0d787a6cd855323be", func := "penstock/penstocklaw21.ModelSames", spec := "modelSames", unfollowed := true, recurses := true, apart := false }
def ModelSamesSaid : Prop := modelSamesRow.holds Try.pinned (OpenSpec.ofChange modelSamesSpec)

/-- ITS FALSE NEIGHBOUR: 'it returns false'. Refute it at one input. -/
def modelSamesWrong : ChangeSpec := { name := "modelSames", fn := fun _ => fun
  | [d1, d2, d3, d4, d5] => { results := [.lit (.bool false)], args := [d1, d2, d3, d4, d5] }
  | _ => none }
def ModelSamesWrongFalsely : Prop := modelSamesRow.holds Try.pinned (OpenSpec.ofChange modelSamesWrong)

/- THE SECOND FORM. 'bulk': how many values and letters a reading holds, each counted each time it is reached (what is shared counts as often as it is met; a slice's spare places count too). A statement '..UptoSaid' is the law's where the arguments, and the package variables that the reading takes, are together of bulk at most 1048576: NARROWER than '..Said'. Prove '..Said' where nothing that the law and all that it calls make is longer than what came in: it says more and counts as full. Else prove '..UptoSaid'. A law counts once. -/
mutual
def uptoBulk {H : Type} : DataW H → Nat
  | .lit (.string bytes) => bytes.length + 1
  | .lit _ => 1
  | .nil => 1
  | .ptr d => uptoBulk d + 1
  | .slice elems spare => uptoBulkAll elems + uptoBulkAll spare + 1
  | .agg parts => uptoBulkAll parts + 1
  | .iface _ d => uptoBulk d + 1
  | .map entries => uptoBulkEntries entries + 1
  | .held _ => 1
def uptoBulkAll {H : Type} : List (DataW H) → Nat
  | [] => 0
  | d :: r => uptoBulk d + uptoBulkAll r
def uptoBulkEntries {H : Type} : List (Lit × DataW H) → Nat
  | [] => 0
  | x :: r => uptoBulkEntry x + uptoBulkEntries r
def uptoBulkEntry {H : Type} : Lit × DataW H → Nat
  | (.string bytes, d) => bytes.length + uptoBulk d + 1
  | (_, d) => uptoBulk d + 1
 end
def uptoSmall : (H : Type) → List (DataW H) → Bool := fun _ ds => decide (uptoBulkAll ds ≤ 1048576)
def OpenSpec.upto (s : _root_.Go.ChangeSpec) : _root_.Go.OpenSpec := { _root_.Go.OpenSpec.ofChange s with cond := some uptoSmall }

/-- 'penstocklaw21.ModelCommits', WHERE WHAT IT READS IS OF BULK AT MOST 1048576: true; the input reads as it did. -/
def modelCommitsUptoRow : OpenClaim := { program := "ytnbdlkjphdfkpaa", sum := "e6ec34884a6b3445b756ad5f118128d72abadc3ddb2395b0d787a6cd855323be", func := "penstock/penstocklaw21.ModelCommits", spec := "modelCommits", apart := false, narrowed := true }
def ModelCommitsUptoSaid : Prop := modelCommitsUptoRow.holds Try.pinned (OpenSpec.upto modelCommitsSpec)

/-- 'penstocklaw21.ModelStables', WHERE WHAT IT READS IS OF BULK AT MOST 1048576: true; the input reads as it did. -/
def modelStablesUptoRow : OpenClaim := { program := "ytnbdlkjphdfkpaa", sum := "e6ec34884a6b3445b756ad5f118128d72abadc3ddb2395b0d787a6cd855323be", func := "penstock/penstocklaw21.ModelStables", spec := "modelStables", apart := false, narrowed := true }
def ModelStablesUptoSaid : Prop := modelStablesUptoRow.holds Try.pinned (OpenSpec.upto modelStablesSpec)

/-- 'penstocklaw21.ModelGrows', WHERE WHAT IT READS IS OF BULK AT MOST 1048576: true; the input reads as it did. -/
def modelGrowsUptoRow : OpenClaim := { program := "ytnbdlkjphdfkpaa", sum := "e6ec34884a6b3445b756ad5f118128d72abadc3ddb2395b0d787a6cd855323be", func := "penstock/penstocklaw21.ModelGrows", spec := "modelGrows", apart := false, narrowed := true }
def ModelGrowsUptoSaid : Prop := modelGrowsUptoRow.holds Try.pinned (OpenSpec.upto modelGrowsSpec)

/-- 'penstocklaw21.ModelWhole', WHERE WHAT IT READS IS OF BULK AT MOST 1048576: true; the input reads as it did. -/
def modelWholeUptoRow : OpenClaim := { program := "ytnbdlkjphdfkpaa", sum := "e6ec34884a6b3445b756ad5f118128d72abadc3ddb2395b0d787a6cd855323be", func := "penstock/penstocklaw21.ModelWhole", spec := "modelWhole", apart := false, narrowed := true }
def ModelWholeUptoSaid : Prop := modelWholeUptoRow.holds Try.pinned (OpenSpec.upto modelWholeSpec)

/-- 'penstocklaw21.ModelSames', WHERE WHAT IT READS IS OF BULK AT MOST 1048576: true; the input reads as it did. -/
def modelSamesUptoRow : OpenClaim := { program := "ytnbdlkjphdfkpaa", sum := "e6ec34884a6b3445b756ad5f118128d72abadc3ddb2395b0d787a6cd855323be", func := "penstock/penstocklaw21.ModelSames", spec := "modelSames", unfollowed := true, recurses := true, apart := false, narrowed := true }
def ModelSamesUptoSaid : Prop := modelSamesUptoRow.holds Try.pinned (OpenSpec.upto modelSamesSpec)

end Rows
end Go.Proofs.Ytnbdlkjphdfkpaa

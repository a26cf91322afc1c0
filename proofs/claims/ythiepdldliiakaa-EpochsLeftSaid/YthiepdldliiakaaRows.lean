/-
  No cell of these rows narrows 'for every input' (looked for: loops, veiled, ifaces, maps, wideKeys, modest, calm, conditions, laid).
  DERIVED. THE GIVEN ROWS OF THIS SEAT. 6 by the template 'for every input the law returns true; each argument reads behind the call as it read before'; 0 by the template 'total and deterministic' (their statements: YthiepdldliiakaaTotals.lean).
  GIVEN WITH THE SEED: the statements are not yours to turn. If you find one false, say at which input.
  Laid BY PROGRAM, IN A SANDBOX (cutbox-rows.mjs): the forced cells as the released guide's own fill.sh prints them over the translation 6d932b2c5f312942… (all of the seat's roots in one cut). By AI agents, Wed Nov 11 2026. No macro, syntax, notation, axiom, sorry.
-/
import Derived.Test.YthiepdldliiakaaChecked
import GoSem.Claim
import GoSem.ClaimJoined
import GoSem.ClaimMapViews
import Derived.JoinedTies
import Derived.KernelRfl
namespace Go.Proofs.Ythiepdldliiakaa
/- THE CELL 'sum', in the pinned program and in every row, IS THE sha256 OF THE DUMP (.gsa) THAT YthiepdldliiakaaProg.lean LOADS. Nothing in Lean hashes anything: it is a label: what it is worth is what the hold of that sum in a sandbox is worth. -/
noncomputable def Try.pinned : Pinned := { name := "ythiepdldliiakaa", sum := "6d932b2c5f3129428fef22a9bb1f9ce3c6f8cecd3bdbb9523a110defad88d69e", checked := Try.checked }
namespace Rows
def none {H : Type} : Left H := { results := [], args := [] }

/-- 'penstocklaw10.EpochsPlays': WHATEVER THE INPUT: true; the input reads as it did. -/
def epochsPlaysSpec : ChangeSpec := { name := "epochsPlays", fn := fun _ => fun
  | [d1, d2, d3] => { results := [.lit (.bool true)], args := [d1, d2, d3] }
  | _ => none }
def epochsPlaysRow : OpenClaim := { program := "ythiepdldliiakaa", sum := "6d932b2c5f3129428fef22a9bb1f9ce3c6f8cecd3bdbb9523a110defad88d69e", func := "penstock/penstocklaw10.EpochsPlays", spec := "epochsPlays", unfollowed := true, recurses := true, apart := false }
def EpochsPlaysSaid : Prop := epochsPlaysRow.holds Try.pinned (OpenSpec.ofChange epochsPlaysSpec)

/-- ITS FALSE NEIGHBOUR: 'it returns false'. Refute it at one input. -/
def epochsPlaysWrong : ChangeSpec := { name := "epochsPlays", fn := fun _ => fun
  | [d1, d2, d3] => { results := [.lit (.bool false)], args := [d1, d2, d3] }
  | _ => none }
def EpochsPlaysWrongFalsely : Prop := epochsPlaysRow.holds Try.pinned (OpenSpec.ofChange epochsPlaysWrong)

/-- 'penstocklaw10.EpochsRise': WHATEVER THE INPUT: true; the input reads as it did. -/
def epochsRiseSpec : ChangeSpec := { name := "epochsRise", fn := fun _ => fun
  | [d] => { results := [.lit (.bool true)], args := [d] }
  | _ => none }
def epochsRiseRow : OpenClaim := { program := "ythiepdldliiakaa", sum := "6d932b2c5f3129428fef22a9bb1f9ce3c6f8cecd3bdbb9523a110defad88d69e", func := "penstock/penstocklaw10.EpochsRise", spec := "epochsRise", unfollowed := true, recurses := true, apart := false }
def EpochsRiseSaid : Prop := epochsRiseRow.holds Try.pinned (OpenSpec.ofChange epochsRiseSpec)

/-- ITS FALSE NEIGHBOUR: 'it returns false'. Refute it at one input. -/
def epochsRiseWrong : ChangeSpec := { name := "epochsRise", fn := fun _ => fun
  | [d] => { results := [.lit (.bool false)], args := [d] }
  | _ => none }
def EpochsRiseWrongFalsely : Prop := epochsRiseRow.holds Try.pinned (OpenSpec.ofChange epochsRiseWrong)

/-- 'penstocklaw10.EpochsEnds': WHATEVER THE INPUT: true; the input reads as it did. -/
def epochsEndsSpec : ChangeSpec := { name := "epochsEnds", fn := fun _ => fun
  | [d1, d2] => { results := [.lit (.bool true)], args := [d1, d2] }
  | _ => none }
def epochsEndsRow : OpenClaim := { program := "ythiepdldliiakaa", sum := "6d932b2c5f3129428fef22a9bb1f9ce3c6f8cecd3bdbb9523a110defad88d69e", func := "penstock/penstocklaw10.EpochsEnds", spec := "epochsEnds", unfollowed := true, recurses := true, apart := false }
def EpochsEndsSaid : Prop := epochsEndsRow.holds Try.pinned (OpenSpec.ofChange epochsEndsSpec)

/-- ITS FALSE NEIGHBOUR: 'it returns false'. Refute it at one input. -/
def epochsEndsWrong : ChangeSpec := { name := "epochsEnds", fn := fun _ => fun
  | [d1, d2] => { results := [.lit (.bool false)], args := [d1, d2] }
  | _ => none }
def EpochsEndsWrongFalsely : Prop := epochsEndsRow.holds Try.pinned (OpenSpec.ofChange epochsEndsWrong)

/-- 'penstocklaw10.EpochsCuts': WHATEVER THE INPUT: true; the input reads as it did. -/
def epochsCutsSpec : ChangeSpec := { name := "epochsCuts", fn := fun _ => fun
  | [d1, d2] => { results := [.lit (.bool true)], args := [d1, d2] }
  | _ => none }
def epochsCutsRow : OpenClaim := { program := "ythiepdldliiakaa", sum := "6d932b2c5f3129428fef22a9bb1f9ce3c6f8cecd3bdbb9523a110defad88d69e", func := "penstock/penstocklaw10.EpochsCuts", spec := "epochsCuts", unfollowed := true, recurses := true, apart := false }
def EpochsCutsSaid : Prop := epochsCutsRow.holds Try.pinned (OpenSpec.ofChange epochsCutsSpec)

/-- ITS FALSE NEIGHBOUR: 'it returns false'. Refute it at one input. -/
def epochsCutsWrong : ChangeSpec := { name := "epochsCuts", fn := fun _ => fun
  | [d1, d2] => { results := [.lit (.bool false)], args := [d1, d2] }
  | _ => none }
def EpochsCutsWrongFalsely : Prop := epochsCutsRow.holds Try.pinned (OpenSpec.ofChange epochsCutsWrong)

/-- 'penstocklaw10.EpochsLeft': WHATEVER THE INPUT: true; the input reads as it did. -/
def epochsLeftSpec : ChangeSpec := { name := "epochsLeft", fn := fun _ => fun
  | [d1, d2] => { results := [.lit (.bool true)], args := [d1, d2] }
  | _ => none }
def epochsLeftRow : OpenClaim := { program := "ythiepdldliiakaa", sum := "6d932b2c5f3129428fef22a9bb1f9ce3c6f8cecd3bdbb9523a110defad88d69e", func := "penstock/penstocklaw10.EpochsLeft", spec := "epochsLeft", unfollowed := true, recurses := true, apart := false }
def EpochsLeftSaid : Prop := epochsLeftRow.holds Try.pinned (OpenSpec.ofChange epochsLeftSpec)

/-- ITS FALSE NEIGHBOUR: 'it returns false'. Refute it at one input. -/
def epochsLeftWrong : ChangeSpec := { name := "epochsLeft", fn := fun _ => fun
  | [d1, d2] => { results := [.lit (.bool false)], args := [d1, d2] }
  | _ => none }
def EpochsLeftWrongFalsely : Prop := epochsLeftRow.holds Try.pinned (OpenSpec.ofChange epochsLeftWrong)

/-- 'penstocklaw10.EpochsNone': WHATEVER THE INPUT: true; the input reads as it did. -/
def epochsNoneSpec : ChangeSpec := { name := "epochsNone", fn := fun _ => fun
  | [d1, d2] => { results := [.lit (.bool true)], args := [d1, d2] }
  | _ => none }
def epochsNoneRow : OpenClaim := { program := "ythiepdldliiakaa", sum := "6d932b2c5f3129428fef22a9bb1f9ce3c6f8cecd3bdbb9523a110defad88d69e", func := "penstock/penstocklaw10.EpochsNone", spec := "epochsNone", unfollowed := true, recurses := true, apart := false }
def EpochsNoneSaid : Prop := epochsNoneRow.holds Try.pinned (OpenSpec.ofChange epochsNoneSpec)

/-- ITS FALSE NEIGHBOUR: 'it returns false'. Refute it at one input. -/
def epochsNoneWrong : ChangeSpec := { name := "epochsNone", fn := fun _ => fun
  | [d1, d2] => { results := [.lit (.bool false)], args := [d1, d2] }
  | _ => none }
def EpochsNoneWrongFalsely : Prop := epochsNoneRow.holds Try.pinned (OpenSpec.ofChange epochsNoneWrong)

/- THE SECOND FORM. 'bulk': how many values and letters a reading holds, each counted each time it is reached (what is shared counts as often as it is met; a slice's spare places count too). A statement '..UptoSaid' is the law's where the arguments, and the package variables that the reading takes, are together of bulk at most 1048576: NARROWER than '..Said'. Prove '..Said' where nothing that the law and all that it calls make is longer than what came in: it says more and counts as full. Else prove '..UptoSaid'. A law counts once. -/
mutual
def uptoBulk {H : Type} : DataW H → Nat
  | .lit (.string bytes) => bytes.length + 1
  | .lit _ => 1
  | .nil => 1
  | .ptr d => uptoBulk d + 1
  | .slice elems spare => uptoBulkAll elems + uptoBulkAll spare + 1
  | .agg parts => uptoBulkAll parts + 1
  | .iface _ d => uptoBulk d + 1
  | .map entries => uptoBulkEntries entries + 1
  | .held _ => 1
def uptoBulkAll {H : Type} : List (DataW H) → Nat
  | [] => 0
  | d :: r => uptoBulk d + uptoBulkAll r
def uptoBulkEntries {H : Type} : List (Lit × DataW H) → Nat
  | [] => 0
  | x :: r => uptoBulkEntry x + uptoBulkEntries r
def uptoBulkEntry {H : Type} : Lit × DataW H → Nat
  | (.string bytes, d) => bytes.length + uptoBulk d + 1
  | (_, d) => uptoBulk d + 1
 end
def uptoSmall : (H : Type) → List (DataW H) → Bool := fun _ ds => decide (uptoBulkAll ds ≤ 1048576)
def OpenSpec.upto (s : _root_.Go.ChangeSpec) : _root_.Go.OpenSpec := { _root_.Go.OpenSpec.ofChange s with cond := some uptoSmall }

/-- 'penstocklaw10.EpochsPlays', WHERE WHAT IT READS IS OF BULK AT MOST 1048576: true; the input reads as it did. -/
def epochsPlaysUptoRow : OpenClaim := { program := "ythiepdldliiakaa", sum := "6d932b2c5f3129428fef22a9bb1f9ce3c6f8cecd3bdbb9523a110defad88d69e", func := "penstock/penstocklaw10.EpochsPlays", spec := "epochsPlays", unfollowed := true, recurses := true, apart := false, narrowed := true }
def EpochsPlaysUptoSaid : Prop := epochsPlaysUptoRow.holds Try.pinned (OpenSpec.upto epochsPlaysSpec)

/-- 'penstocklaw10.EpochsRise', WHERE WHAT IT READS IS OF BULK AT MOST 1048576: true; the input reads as it did. -/
def epochsRiseUptoRow : OpenClaim := { program := "ythiepdldliiakaa", sum := "6d932b2c5f3129428fef22a9bb1f9ce3c6f8cecd3bdbb9523a110defad88d69e", func := "penstock/penstocklaw10.EpochsRise", spec := "epochsRise", unfollowed := true, recurses := true, apart := false, narrowed := true }
def EpochsRiseUptoSaid : Prop := epochsRiseUptoRow.holds Try.pinned (OpenSpec.upto epochsRiseSpec)

/-- 'penstocklaw10.EpochsEnds', WHERE WHAT IT READS IS OF BULK AT MOST 1048576: true; the input reads as it did. -/
def epochsEndsUptoRow : OpenClaim := { program := "ythiepdldliiakaa", sum := "6d932b2c5f3129428fef22a9bb1f9ce3c6f8cecd3bdbb9523a110defad88d69e", func := "penstock/penstocklaw10.EpochsEnds", spec := "epochsEnds", unfollowed := true, recurses := true, apart := false, narrowed := true }
def EpochsEndsUptoSaid : Prop := epochsEndsUptoRow.holds Try.pinned (OpenSpec.upto epochsEndsSpec)

/-- 'penstocklaw10.EpochsCuts', WHERE WHAT IT READS IS OF BULK AT MOST 1048576: true; the input reads as it did. -/
def epochsCutsUptoRow : OpenClaim := { program := "ythiepdldliiakaa", sum := "6d932b2c5f3129428fef22a9bb1f9ce3c6f8cecd3bdbb9523a110defad88d69e", func := "penstock/penstocklaw10.EpochsCuts", spec := "epochsCuts", unfollowed := true, recurses := true, apart := false, narrowed := true }
def EpochsCutsUptoSaid : Prop := epochsCutsUptoRow.holds Try.pinned (OpenSpec.upto epochsCutsSpec)

/-- 'penstocklaw10.EpochsLeft', WHERE WHAT IT READS IS OF BULK AT MOST 1048576: true; the input reads as it did. -/
def epochsLeftUptoRow : OpenClaim := { program := "ythiepdldliiakaa", sum := "6d932b2c5f3129428fef22a9bb1f9ce3c6f8cecd3bdbb9523a110defad88d69e", func := "penstock/penstocklaw10.EpochsLeft", spec := "epochsLeft", unfollowed := true, recurses := true, apart := false, narrowed := true }
def EpochsLeftUptoSaid : Prop := epochsLeftUptoRow.holds Try.pinned (OpenSpec.upto epochsLeftSpec)

/-- 'penstocklaw10.EpochsNone', WHERE WHAT IT READS IS OF BULK AT MOST 1048576: true; the input reads as it did. -/
def epochsNoneUptoRow : OpenClaim := { program := "ythiepdldliiakaa", sum := "6d932b2c5f3129428fef22a9bb1f9ce3c6f8cecd3bdbb9523a110defad88d69e", func := "penstock/penstocklaw10.EpochsNone", spec := "epochsNone", unfollowed := true, recurses := true, apart := false, narrowed := true }
def EpochsNoneUptoSaid : Prop := epochsNoneUptoRow.holds Try.pinned (OpenSpec.upto epochsNoneSpec)

end Rows
end Go.Proofs.Ythiepdldliiakaa

/-
  No cell of these rows narrows 'for every input' (looked for: loops, veiled, ifaces, maps, wideKeys, modest, calm, conditions, laid).
  DERIVED. THE GIVEN ROWS OF THIS SEAT. 11 by the template 'for every input the law returns true; each argument reads behind the call as it read before'; 0 by the template 'total and deterministic' (their statements: YtbnhohnlbbkmoaaTotals.lean).
  GIVEN WITH THE SEED: the statements are not yours to turn. If you find one false, say at which input.
  Laid BY PROGRAM, IN A SANDBOX (cutbox-rows.mjs): the forced cells as the released guide's own fill.sh prints them over the translation 10bd0c5ed45f55c4… (all of the seat's roots in one cut). By AI agents, Wed Nov 11 2026. No macro, syntax, notation, axiom, sorry.
-/
import Derived.Test.YtbnhohnlbbkmoaaChecked
import GoSem.Claim
import GoSem.ClaimJoined
import GoSem.ClaimMapViews
import Derived.JoinedTies
import Derived.KernelRfl
namespace Go.Proofs.Ytbnhohnlbbkmoaa
/- THE CELL 'sum', in the pinned program and in every row, IS THE sha256 OF THE DUMP (.gsa) THAT YtbnhohnlbbkmoaaProg.lean LOADS. Nothing in Lean hashes anything: it is a label: what it is worth is what the hold of that sum in a sandbox is worth. -/
noncomputable def Try.pinned : Pinned := { name := "ytbnhohnlbbkmoaa", sum := "10bd0c5ed45f55c498e0a68a5054a6be70d157e9474c998032eb3c0259dc0648", checked := Try.checked }
namespace Rows
def none {H : Type} : Left H := { results := [], args := [] }

/-- 'concertinalaw3.TallyTells': WHATEVER THE INPUT: true; the input reads as it did. -/
def tallyTellsSpec : ChangeSpec := { name := "tallyTells", fn := fun _ => fun
  | [d1, d2, d3] => { results := [.lit (.bool true)], args := [d1, d2, d3] }
  | _ => none }
def tallyTellsRow : OpenClaim := { program := "ytbnhohnlbbkmoaa", sum := "10bd0c5ed45f55c498e0a68a5054a6be70d157e9474c998032eb3c0259dc0648", func := "concertina/concertinalaw3.TallyTells", spec := "tallyTells", apart := false }
def TallyTellsSaid : Prop := tallyTellsRow.holds Try.pinned (OpenSpec.ofChange tallyTellsSpec)

/-- ITS FALSE NEIGHBOUR: 'it returns false'. Refute it at one input. -/
def tallyTellsWrong : ChangeSpec := { name := "tallyTells", fn := fun _ => fun
  | [d1, d2, d3] => { results := [.lit (.bool false)], args := [d1, d2, d3] }
  | _ => none }
def TallyTellsWrongFalsely : Prop := tallyTellsRow.holds Try.pinned (OpenSpec.ofChange tallyTellsWrong)

/-- 'concertinalaw3.TallyLinear': WHATEVER THE INPUT: true; the input reads as it did. -/
def tallyLinearSpec : ChangeSpec := { name := "tallyLinear", fn := fun _ => fun
  | [d1, d2] => { results := [.lit (.bool true)], args := [d1, d2] }
  | _ => none }
def tallyLinearRow : OpenClaim := { program := "ytbnhohnlbbkmoaa", sum := "10bd0c5ed45f55c498e0a68a5054a6be70d157e9474c998032eb3c0259dc0648", func := "concertina/concertinalaw3.TallyLinear", spec := "tallyLinear", apart := false }
def TallyLinearSaid : Prop := tallyLinearRow.holds Try.pinned (OpenSpec.ofChange tallyLinearSpec)

/-- ITS FALSE NEIGHBOUR: 'it returns false'. Refute it at one input. -/
def tallyLinearWrong : ChangeSpec := { name := "tallyLinear", fn := fun _ => fun
  | [d1, d2] => { results := [.lit (.bool false)], args := [d1, d2] }
  | _ => none }
def TallyLinearWrongFalsely : Prop := tallyLinearRow.holds Try.pinned (OpenSpec.ofChange tallyLinearWrong)

/-- 'concertinalaw3.TallyParts': WHATEVER THE INPUT: true; the input reads as it did. -/
def tallyPartsSpec : ChangeSpec := { name := "tallyParts", fn := fun _ => fun
  | [d] => { results := [.lit (.bool true)], args := [d] }
  | _ => none }
def tallyPartsRow : OpenClaim := { program := "ytbnhohnlbbkmoaa", sum := "10bd0c5ed45f55c498e0a68a5054a6be70d157e9474c998032eb3c0259dc0648", func := "concertina/concertinalaw3.TallyParts", spec := "tallyParts", apart := false }
def TallyPartsSaid : Prop := tallyPartsRow.holds Try.pinned (OpenSpec.ofChange tallyPartsSpec)

/-- ITS FALSE NEIGHBOUR: 'it returns false'. Refute it at one input. -/
def tallyPartsWrong : ChangeSpec := { name := "tallyParts", fn := fun _ => fun
  | [d] => { results := [.lit (.bool false)], args := [d] }
  | _ => none }
def TallyPartsWrongFalsely : Prop := tallyPartsRow.holds Try.pinned (OpenSpec.ofChange tallyPartsWrong)

/-- 'concertinalaw3.TallyNoughts': WHATEVER THE INPUT: true; the input reads as it did. -/
def tallyNoughtsSpec : ChangeSpec := { name := "tallyNoughts", fn := fun _ => fun
  | [d1, d2, d3] => { results := [.lit (.bool true)], args := [d1, d2, d3] }
  | _ => none }
def tallyNoughtsRow : OpenClaim := { program := "ytbnhohnlbbkmoaa", sum := "10bd0c5ed45f55c498e0a68a5054a6be70d157e9474c998032eb3c0259dc0648", func := "concertina/concertinalaw3.TallyNoughts", spec := "tallyNoughts", apart := false }
def TallyNoughtsSaid : Prop := tallyNoughtsRow.holds Try.pinned (OpenSpec.ofChange tallyNoughtsSpec)

/-- ITS FALSE NEIGHBOUR: 'it returns false'. Refute it at one input. -/
def tallyNoughtsWrong : ChangeSpec := { name := "tallyNoughts", fn := fun _ => fun
  | [d1, d2, d3] => { results := [.lit (.bool false)], args := [d1, d2, d3] }
  | _ => none }
def TallyNoughtsWrongFalsely : Prop := tallyNoughtsRow.holds Try.pinned (OpenSpec.ofChange tallyNoughtsWrong)

/-- 'concertinalaw3.TallySums': WHATEVER THE INPUT: true; the input reads as it did. -/
def tallySumsSpec : ChangeSpec := { name := "tallySums", fn := fun _ => fun
  | [d1, d2, d3] => { results := [.lit (.bool true)], args := [d1, d2, d3] }
  | _ => none }
def tallySumsRow : OpenClaim := { program := "ytbnhohnlbbkmoaa", sum := "10bd0c5ed45f55c498e0a68a5054a6be70d157e9474c998032eb3c0259dc0648", func := "concertina/concertinalaw3.TallySums", spec := "tallySums", apart := false }
def TallySumsSaid : Prop := tallySumsRow.holds Try.pinned (OpenSpec.ofChange tallySumsSpec)

/-- ITS FALSE NEIGHBOUR: 'it returns false'. Refute it at one input. -/
def tallySumsWrong : ChangeSpec := { name := "tallySums", fn := fun _ => fun
  | [d1, d2, d3] => { results := [.lit (.bool false)], args := [d1, d2, d3] }
  | _ => none }
def TallySumsWrongFalsely : Prop := tallySumsRow.holds Try.pinned (OpenSpec.ofChange tallySumsWrong)

/-- 'concertinalaw5.LeafTells': WHATEVER THE INPUT: true; the input reads as it did. -/
def leafTellsSpec : ChangeSpec := { name := "leafTells", fn := fun _ => fun
  | [d1, d2, d3] => { results := [.lit (.bool true)], args := [d1, d2, d3] }
  | _ => none }
def leafTellsRow : OpenClaim := { program := "ytbnhohnlbbkmoaa", sum := "10bd0c5ed45f55c498e0a68a5054a6be70d157e9474c998032eb3c0259dc0648", func := "concertina/concertinalaw5.LeafTells", spec := "leafTells", apart := false }
def LeafTellsSaid : Prop := leafTellsRow.holds Try.pinned (OpenSpec.ofChange leafTellsSpec)

/-- ITS FALSE NEIGHBOUR: 'it returns false'. Refute it at one input. -/
def leafTellsWrong : ChangeSpec := { name := "leafTells", fn := fun _ => fun
  | [d1, d2, d3] => { results := [.lit (.bool false)], args := [d1, d2, d3] }
  | _ => none }
def LeafTellsWrongFalsely : Prop := leafTellsRow.holds Try.pinned (OpenSpec.ofChange leafTellsWrong)

/-- 'concertinalaw5.LeafSizes': WHATEVER THE INPUT: true; the input reads as it did. -/
def leafSizesSpec : ChangeSpec := { name := "leafSizes", fn := fun _ => fun
  | [d1, d2] => { results := [.lit (.bool true)], args := [d1, d2] }
  | _ => none }
def leafSizesRow : OpenClaim := { program := "ytbnhohnlbbkmoaa", sum := "10bd0c5ed45f55c498e0a68a5054a6be70d157e9474c998032eb3c0259dc0648", func := "concertina/concertinalaw5.LeafSizes", spec := "leafSizes", apart := false }
def LeafSizesSaid : Prop := leafSizesRow.holds Try.pinned (OpenSpec.ofChange leafSizesSpec)

/-- ITS FALSE NEIGHBOUR: 'it returns false'. Refute it at one input. -/
def leafSizesWrong : ChangeSpec := { name := "leafSizes", fn := fun _ => fun
  | [d1, d2] => { results := [.lit (.bool false)], args := [d1, d2] }
  | _ => none }
def LeafSizesWrongFalsely : Prop := leafSizesRow.holds Try.pinned (OpenSpec.ofChange leafSizesWrong)

/-- 'concertinalaw5.LeafCuts': WHATEVER THE INPUT: true; the input reads as it did. -/
def leafCutsSpec : ChangeSpec := { name := "leafCuts", fn := fun _ => fun
  | [d1, d2, d3] => { results := [.lit (.bool true)], args := [d1, d2, d3] }
  | _ => none }
def leafCutsRow : OpenClaim := { program := "ytbnhohnlbbkmoaa", sum := "10bd0c5ed45f55c498e0a68a5054a6be70d157e9474c998032eb3c0259dc0648", func := "concertina/concertinalaw5.LeafCuts", spec := "leafCuts", apart := false }
def LeafCutsSaid : Prop := leafCutsRow.holds Try.pinned (OpenSpec.ofChange leafCutsSpec)

/-- ITS FALSE NEIGHBOUR: 'it returns false'. Refute it at one input. -/
def leafCutsWrong : ChangeSpec := { name := "leafCuts", fn := fun _ => fun
  | [d1, d2, d3] => { results := [.lit (.bool false)], args := [d1, d2, d3] }
  | _ => none }
def LeafCutsWrongFalsely : Prop := leafCutsRow.holds Try.pinned (OpenSpec.ofChange leafCutsWrong)

/-- 'concertinalaw5.LeafMakes': WHATEVER THE INPUT: true; the input reads as it did. -/
def leafMakesSpec : ChangeSpec := { name := "leafMakes", fn := fun _ => fun
  | [d1, d2, d3] => { results := [.lit (.bool true)], args := [d1, d2, d3] }
  | _ => none }
def leafMakesRow : OpenClaim := { program := "ytbnhohnlbbkmoaa", sum := "10bd0c5ed45f55c498e0a68a5054a6be70d157e9474c998032eb3c0259dc0648", func := "concertina/concertinalaw5.LeafMakes", spec := "leafMakes", apart := false }
def LeafMakesSaid : Prop := leafMakesRow.holds Try.pinned (OpenSpec.ofChange leafMakesSpec)

/-- ITS FALSE NEIGHBOUR: 'it returns false'. Refute it at one input. -/
def leafMakesWrong : ChangeSpec := { name := "leafMakes", fn := fun _ => fun
  | [d1, d2, d3] => { results := [.lit (.bool false)], args := [d1, d2, d3] }
  | _ => none }
def LeafMakesWrongFalsely : Prop := leafMakesRow.holds Try.pinned (OpenSpec.ofChange leafMakesWrong)

/-- 'concertinalaw5.LeafOpens': WHATEVER THE INPUT: true; the input reads as it did. -/
def leafOpensSpec : ChangeSpec := { name := "leafOpens", fn := fun _ => fun
  | [d1, d2] => { results := [.lit (.bool true)], args := [d1, d2] }
  | _ => none }
def leafOpensRow : OpenClaim := { program := "ytbnhohnlbbkmoaa", sum := "10bd0c5ed45f55c498e0a68a5054a6be70d157e9474c998032eb3c0259dc0648", func := "concertina/concertinalaw5.LeafOpens", spec := "leafOpens", apart := false }
def LeafOpensSaid : Prop := leafOpensRow.holds Try.pinned (OpenSpec.ofChange leafOpensSpec)

/-- ITS FALSE NEIGHBOUR: 'it returns false'. Refute it at one input. -/
def leafOpensWrong : ChangeSpec := { name := "leafOpens", fn := fun _ => fun
  | [d1, d2] => { results := [.lit (.bool false)], args := [d1, d2] }
  | _ => none }
def LeafOpensWrongFalsely : Prop := leafOpensRow.holds Try.pinned (OpenSpec.ofChange leafOpensWrong)

/-- 'concertinalaw5.LeafKnown': WHATEVER THE INPUT: true; the input reads as it did. -/
def leafKnownSpec : ChangeSpec := { name := "leafKnown", fn := fun _ => fun
  | [] => { results := [.lit (.bool true)], args := [] }
  | _ => none }
def leafKnownRow : OpenClaim := { program := "ytbnhohnlbbkmoaa", sum := "10bd0c5ed45f55c498e0a68a5054a6be70d157e9474c998032eb3c0259dc0648", func := "concertina/concertinalaw5.LeafKnown", spec := "leafKnown", apart := false }
def LeafKnownSaid : Prop := leafKnownRow.holds Try.pinned (OpenSpec.ofChange leafKnownSpec)

/-- ITS FALSE NEIGHBOUR: 'it returns false'. Refute it at one input. -/
def leafKnownWrong : ChangeSpec := { name := "leafKnown", fn := fun _ => fun
  | [] => { results := [.lit (.bool false)], args := [] }
  | _ => none }
def LeafKnownWrongFalsely : Prop := leafKnownRow.holds Try.pinned (OpenSpec.ofChange leafKnownWrong)

/- THE SECOND FORM. 'bulk': how many values and letters a reading holds, each counted each time it is reached (what is shared counts as often as it is met; a slice's spare places count too). A statement '..UptoSaid' is the law's where the arguments, and the package variables that the reading takes, are together of bulk at most 1048576: NARROWER than '..Said'. Prove '..Said' where nothing that the law and all that it calls make is longer than what came in: it says more and counts as full. Else prove '..UptoSaid'. A law counts once. -/
mutual
def uptoBulk {H : Type} : DataW H → Nat
  | .lit (.string bytes) => bytes.length + 1
  | .lit _ => 1
  | .nil => 1
  | .ptr d => uptoBulk d + 1
  | .slice elems spare => uptoBulkAll elems + uptoBulkAll spare + 1
  | .agg parts => uptoBulkAll parts + 1
  | .iface _ d => uptoBulk d + 1
  | .map entries => uptoBulkEntries entries + 1
  | .held _ => 1
def uptoBulkAll {H : Type} : List (DataW H) → Nat
  | [] => 0
  | d :: r => uptoBulk d + uptoBulkAll r
def uptoBulkEntries {H : Type} : List (Lit × DataW H) → Nat
  | [] => 0
  | x :: r => uptoBulkEntry x + uptoBulkEntries r
def uptoBulkEntry {H : Type} : Lit × DataW H → Nat
  | (.string bytes, d) => bytes.length + uptoBulk d + 1
  | (_, d) => uptoBulk d + 1
 end
def uptoSmall : (H : Type) → List (DataW H) → Bool := fun _ ds => decide (uptoBulkAll ds ≤ 1048576)
def OpenSpec.upto (s : _root_.Go.ChangeSpec) : _root_.Go.OpenSpec := { _root_.Go.OpenSpec.ofChange s with cond := some uptoSmall }

/-- 'concertinalaw3.TallyTells', WHERE WHAT IT READS IS OF BULK AT MOST 1048576: true; the input reads as it did. -/
def tallyTellsUptoRow : OpenClaim := { program := "ytbnhohnlbbkmoaa", sum := "10bd0c5ed45f55c498e0a68a5054a6be70d157e9474c998032eb3c0259dc0648", func := "concertina/concertinalaw3.TallyTells", spec := "tallyTells", apart := false, narrowed := true }
def TallyTellsUptoSaid : Prop := tallyTellsUptoRow.holds Try.pinned (OpenSpec.upto tallyTellsSpec)

/-- 'concertinalaw3.TallyLinear', WHERE WHAT IT READS IS OF BULK AT MOST 1048576: true; the input reads as it did. -/
def tallyLinearUptoRow : OpenClaim := { program := "ytbnhohnlbbkmoaa", sum := "10bd0c5ed45f55c498e0a68a5054a6be70d157e9474c998032eb3c0259dc0648", func := "concertina/concertinalaw3.TallyLinear", spec := "tallyLinear", apart := false, narrowed := true }
def TallyLinearUptoSaid : Prop := tallyLinearUptoRow.holds Try.pinned (OpenSpec.upto tallyLinearSpec)

/-- 'concertinalaw3.TallyParts', WHERE WHAT IT READS IS OF BULK AT MOST 1048576: true; the input reads as it did. -/
def tallyPartsUptoRow : OpenClaim := { program := "ytbnhohnlbbkmoaa", sum := "10bd0c5ed45f55c498e0a68a5054a6be70d157e9474c998032eb3c0259dc0648", func := "concertina/concertinalaw3.TallyParts", spec := "tallyParts", apart := false, narrowed := true }
def TallyPartsUptoSaid : Prop := tallyPartsUptoRow.holds Try.pinned (OpenSpec.upto tallyPartsSpec)

/-- 'concertinalaw3.TallyNoughts', WHERE WHAT IT READS IS OF BULK AT MOST 1048576: true; the input reads as it did. -/
def tallyNoughtsUptoRow : OpenClaim := { program := "ytbnhohnlbbkmoaa", sum := "10bd0c5ed45f55c498e0a68a5054a6be70d157e9474c998032eb3c0259dc0648", func := "concertina/concertinalaw3.TallyNoughts", spec := "tallyNoughts", apart := false, narrowed := true }
def TallyNoughtsUptoSaid : Prop := tallyNoughtsUptoRow.holds Try.pinned (OpenSpec.upto tallyNoughtsSpec)

/-- 'concertinalaw3.TallySums', WHERE WHAT IT READS IS OF BULK AT MOST 1048576: true; the input reads as it did. -/
def tallySumsUptoRow : OpenClaim := { program := "ytbnhohnlbbkmoaa", sum := "10bd0c5ed45f55c498e0a68a5054a6be70d157e9474c998032eb3c0259dc0648", func := "concertina/concertinalaw3.TallySums", spec := "tallySums", apart := false, narrowed := true }
def TallySumsUptoSaid : Prop := tallySumsUptoRow.holds Try.pinned (OpenSpec.upto tallySumsSpec)

/-- 'concertinalaw5.LeafTells', WHERE WHAT IT READS IS OF BULK AT MOST 1048576: true; the input reads as it did. -/
def leafTellsUptoRow : OpenClaim := { program := "ytbnhohnlbbkmoaa", sum := "10bd0c5ed45f55c498e0a68a5054a6be70d157e9474c998032eb3c0259dc0648", func := "concertina/concertinalaw5.LeafTells", spec := "leafTells", apart := false, narrowed := true }
def LeafTellsUptoSaid : Prop := leafTellsUptoRow.holds Try.pinned (OpenSpec.upto leafTellsSpec)

/-- 'concertinalaw5.LeafSizes', WHERE WHAT IT READS IS OF BULK AT MOST 1048576: true; the input reads as it did. -/
def leafSizesUptoRow : OpenClaim := { program := "ytbnhohnlbbkmoaa", sum := "10bd0c5ed45f55c498e0a68a5054a6be70d157e9474c998032eb3c0259dc0648", func := "concertina/concertinalaw5.LeafSizes", spec := "leafSizes", apart := false, narrowed := true }
def LeafSizesUptoSaid : Prop := leafSizesUptoRow.holds Try.pinned (OpenSpec.upto leafSizesSpec)

/-- 'concertinalaw5.LeafCuts', WHERE WHAT IT READS IS OF BULK AT MOST 1048576: true; the input reads as it did. -/
def leafCutsUptoRow : OpenClaim := { program := "ytbnhohnlbbkmoaa", sum := "10bd0c5ed45f55c498e0a68a5054a6be70d157e9474c998032eb3c0259dc0648", func := "concertina/concertinalaw5.LeafCuts", spec := "leafCuts", apart := false, narrowed := true }
def LeafCutsUptoSaid : Prop := leafCutsUptoRow.holds Try.pinned (OpenSpec.upto leafCutsSpec)

/-- 'concertinalaw5.LeafMakes', WHERE WHAT IT READS IS OF BULK AT MOST 1048576: true; the input reads as it did. -/
def leafMakesUptoRow : OpenClaim := { program := "ytbnhohnlbbkmoaa", sum := "10bd0c5ed45f55c498e0a68a5054a6be70d157e9474c998032eb3c0259dc0648", func := "concertina/concertinalaw5.LeafMakes", spec := "leafMakes", apart := false, narrowed := true }
def LeafMakesUptoSaid : Prop := leafMakesUptoRow.holds Try.pinned (OpenSpec.upto leafMakesSpec)

/-- 'concertinalaw5.LeafOpens', WHERE WHAT IT READS IS OF BULK AT MOST 1048576: true; the input reads as it did. -/
def leafOpensUptoRow : OpenClaim := { program := "ytbnhohnlbbkmoaa", sum := "10bd0c5ed45f55c498e0a68a5054a6be70d157e9474c998032eb3c0259dc0648", func := "concertina/concertinalaw5.LeafOpens", spec := "leafOpens", apart := false, narrowed := true }
def LeafOpensUptoSaid : Prop := leafOpensUptoRow.holds Try.pinned (OpenSpec.upto leafOpensSpec)

/-- 'concertinalaw5.LeafKnown', WHERE WHAT IT READS IS OF BULK AT MOST 1048576: true; the input reads as it did. -/
def leafKnownUptoRow : OpenClaim := { program := "ytbnhohnlbbkmoaa", sum := "10bd0c5ed45f55c498e0a68a5054a6be70d157e9474c998032eb3c0259dc0648", func := "concertina/concertinalaw5.LeafKnown", spec := "leafKnown", apart := false, narrowed := true }
def LeafKnownUptoSaid : Prop := leafKnownUptoRow.holds Try.pinned (OpenSpec.upto leafKnownSpec)

end Rows
end Go.Proofs.Ytbnhohnlbbkmoaa

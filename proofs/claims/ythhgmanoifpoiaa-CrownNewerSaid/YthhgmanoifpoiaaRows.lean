/-
  No cell of these rows narrows 'for every input' (looked for: loops, veiled, ifaces, maps, wideKeys, modest, calm, conditions, laid).
  DERIVED. THE GIVEN ROWS OF THIS SEAT. 11 by the template 'for every input the law returns true; each argument reads behind the call as it read before'; 0 by the template 'total and deterministic' (their statements: YthhgmanoifpoiaaTotals.lean).
  GIVEN WITH THE SEED: the statements are not yours to turn. If you find one false, say at which input.
  Laid BY PROGRAM, IN A SANDBOX (cutbox-rows.mjs): the forced cells as the released guide's own fill.sh prints them over the translation f22bd12f09fa6467… (all of the seat's roots in one cut). By AI agents, Wed Nov 11 2026. No macro, syntax, notation, axiom, sorry.
-/
import Derived.Test.YthhgmanoifpoiaaChecked
import GoSem.Claim
import GoSem.ClaimJoined
import GoSem.ClaimMapViews
import Derived.JoinedTies
import Derived.KernelRfl
namespace Go.Proofs.Ythhgmanoifpoiaa
/- THE CELL 'sum', in the pinned program and in every row, IS THE sha256 OF THE DUMP (.gsa) THAT YthhgmanoifpoiaaProg.lean LOADS. Nothing in Lean hashes anything: it is a label: what it is worth is what the hold of that sum in a sandbox is worth. -/
noncomputable def Try.pinned : Pinned := { name := "ythhgmanoifpoiaa", sum := "f22bd12f09fa64672f50ac0e52b3a43136936f93c48962d90f4930a73d5b6d4e", checked := Try.checked }
namespace Rows
def none {H : Type} : Left H := { results := [], args := [] }

/-- 'concertinalaw1.GainOrder': WHATEVER THE INPUT: true; the input reads as it did. -/
def gainOrderSpec : ChangeSpec := { name := "gainOrder", fn := fun _ => fun
  | [d1, d2, d3] => { results := [.lit (.bool true)], args := [d1, d2, d3] }
  | _ => none }
def gainOrderRow : OpenClaim := { program := "ythhgmanoifpoiaa", sum := "f22bd12f09fa64672f50ac0e52b3a43136936f93c48962d90f4930a73d5b6d4e", func := "concertina/concertinalaw1.GainOrder", spec := "gainOrder", inPlace := ["math.Float64frombits", "math.Float64bits"], apart := false }
def GainOrderSaid : Prop := gainOrderRow.holds Try.pinned (OpenSpec.ofChange gainOrderSpec)

/-- ITS FALSE NEIGHBOUR: 'it returns false'. Refute it at one input. -/
def gainOrderWrong : ChangeSpec := { name := "gainOrder", fn := fun _ => fun
  | [d1, d2, d3] => { results := [.lit (.bool false)], args := [d1, d2, d3] }
  | _ => none }
def GainOrderWrongFalsely : Prop := gainOrderRow.holds Try.pinned (OpenSpec.ofChange gainOrderWrong)

/-- 'concertinalaw1.GainRatio': WHATEVER THE INPUT: true; the input reads as it did. -/
def gainRatioSpec : ChangeSpec := { name := "gainRatio", fn := fun _ => fun
  | [d1, d2, d3] => { results := [.lit (.bool true)], args := [d1, d2, d3] }
  | _ => none }
def gainRatioRow : OpenClaim := { program := "ythhgmanoifpoiaa", sum := "f22bd12f09fa64672f50ac0e52b3a43136936f93c48962d90f4930a73d5b6d4e", func := "concertina/concertinalaw1.GainRatio", spec := "gainRatio", inPlace := ["math.Float64frombits", "math.Float64bits"], apart := false }
def GainRatioSaid : Prop := gainRatioRow.holds Try.pinned (OpenSpec.ofChange gainRatioSpec)

/-- ITS FALSE NEIGHBOUR: 'it returns false'. Refute it at one input. -/
def gainRatioWrong : ChangeSpec := { name := "gainRatio", fn := fun _ => fun
  | [d1, d2, d3] => { results := [.lit (.bool false)], args := [d1, d2, d3] }
  | _ => none }
def GainRatioWrongFalsely : Prop := gainRatioRow.holds Try.pinned (OpenSpec.ofChange gainRatioWrong)

/-- 'concertinalaw1.GainFixes': WHATEVER THE INPUT: true; the input reads as it did. -/
def gainFixesSpec : ChangeSpec := { name := "gainFixes", fn := fun _ => fun
  | [d1, d2, d3] => { results := [.lit (.bool true)], args := [d1, d2, d3] }
  | _ => none }
def gainFixesRow : OpenClaim := { program := "ythhgmanoifpoiaa", sum := "f22bd12f09fa64672f50ac0e52b3a43136936f93c48962d90f4930a73d5b6d4e", func := "concertina/concertinalaw1.GainFixes", spec := "gainFixes", inPlace := ["math.Float64frombits", "math.Float64bits"], apart := false }
def GainFixesSaid : Prop := gainFixesRow.holds Try.pinned (OpenSpec.ofChange gainFixesSpec)

/-- ITS FALSE NEIGHBOUR: 'it returns false'. Refute it at one input. -/
def gainFixesWrong : ChangeSpec := { name := "gainFixes", fn := fun _ => fun
  | [d1, d2, d3] => { results := [.lit (.bool false)], args := [d1, d2, d3] }
  | _ => none }
def GainFixesWrongFalsely : Prop := gainFixesRow.holds Try.pinned (OpenSpec.ofChange gainFixesWrong)

/-- 'concertinalaw1.GainKnown': WHATEVER THE INPUT: true; the input reads as it did. -/
def gainKnownSpec : ChangeSpec := { name := "gainKnown", fn := fun _ => fun
  | [] => { results := [.lit (.bool true)], args := [] }
  | _ => none }
def gainKnownRow : OpenClaim := { program := "ythhgmanoifpoiaa", sum := "f22bd12f09fa64672f50ac0e52b3a43136936f93c48962d90f4930a73d5b6d4e", func := "concertina/concertinalaw1.GainKnown", spec := "gainKnown", inPlace := ["math.Float64frombits", "math.Float64bits"], apart := false }
def GainKnownSaid : Prop := gainKnownRow.holds Try.pinned (OpenSpec.ofChange gainKnownSpec)

/-- ITS FALSE NEIGHBOUR: 'it returns false'. Refute it at one input. -/
def gainKnownWrong : ChangeSpec := { name := "gainKnown", fn := fun _ => fun
  | [] => { results := [.lit (.bool false)], args := [] }
  | _ => none }
def GainKnownWrongFalsely : Prop := gainKnownRow.holds Try.pinned (OpenSpec.ofChange gainKnownWrong)

/-- 'concertinalaw16.CrownEncodes': WHATEVER THE INPUT: true; the input reads as it did. -/
def crownEncodesSpec : ChangeSpec := { name := "crownEncodes", fn := fun _ => fun
  | [d] => { results := [.lit (.bool true)], args := [d] }
  | _ => none }
def crownEncodesRow : OpenClaim := { program := "ythhgmanoifpoiaa", sum := "f22bd12f09fa64672f50ac0e52b3a43136936f93c48962d90f4930a73d5b6d4e", func := "concertina/concertinalaw16.CrownEncodes", spec := "crownEncodes", inPlace := ["math.Float64bits", "math.Float64frombits"], apart := false }
def CrownEncodesSaid : Prop := crownEncodesRow.holds Try.pinned (OpenSpec.ofChange crownEncodesSpec)

/-- ITS FALSE NEIGHBOUR: 'it returns false'. Refute it at one input. -/
def crownEncodesWrong : ChangeSpec := { name := "crownEncodes", fn := fun _ => fun
  | [d] => { results := [.lit (.bool false)], args := [d] }
  | _ => none }
def CrownEncodesWrongFalsely : Prop := crownEncodesRow.holds Try.pinned (OpenSpec.ofChange crownEncodesWrong)

/-- 'concertinalaw16.CrownDecodes': WHATEVER THE INPUT: true; the input reads as it did. -/
def crownDecodesSpec : ChangeSpec := { name := "crownDecodes", fn := fun _ => fun
  | [d] => { results := [.lit (.bool true)], args := [d] }
  | _ => none }
def crownDecodesRow : OpenClaim := { program := "ythhgmanoifpoiaa", sum := "f22bd12f09fa64672f50ac0e52b3a43136936f93c48962d90f4930a73d5b6d4e", func := "concertina/concertinalaw16.CrownDecodes", spec := "crownDecodes", inPlace := ["math.Float64bits", "math.Float64frombits"], apart := false }
def CrownDecodesSaid : Prop := crownDecodesRow.holds Try.pinned (OpenSpec.ofChange crownDecodesSpec)

/-- ITS FALSE NEIGHBOUR: 'it returns false'. Refute it at one input. -/
def crownDecodesWrong : ChangeSpec := { name := "crownDecodes", fn := fun _ => fun
  | [d] => { results := [.lit (.bool false)], args := [d] }
  | _ => none }
def CrownDecodesWrongFalsely : Prop := crownDecodesRow.holds Try.pinned (OpenSpec.ofChange crownDecodesWrong)

/-- 'concertinalaw16.CrownTells': WHATEVER THE INPUT: true; the input reads as it did. -/
def crownTellsSpec : ChangeSpec := { name := "crownTells", fn := fun _ => fun
  | [d1, d2] => { results := [.lit (.bool true)], args := [d1, d2] }
  | _ => none }
def crownTellsRow : OpenClaim := { program := "ythhgmanoifpoiaa", sum := "f22bd12f09fa64672f50ac0e52b3a43136936f93c48962d90f4930a73d5b6d4e", func := "concertina/concertinalaw16.CrownTells", spec := "crownTells", inPlace := ["math.Float64bits", "math.Float64frombits"], apart := false }
def CrownTellsSaid : Prop := crownTellsRow.holds Try.pinned (OpenSpec.ofChange crownTellsSpec)

/-- ITS FALSE NEIGHBOUR: 'it returns false'. Refute it at one input. -/
def crownTellsWrong : ChangeSpec := { name := "crownTells", fn := fun _ => fun
  | [d1, d2] => { results := [.lit (.bool false)], args := [d1, d2] }
  | _ => none }
def CrownTellsWrongFalsely : Prop := crownTellsRow.holds Try.pinned (OpenSpec.ofChange crownTellsWrong)

/-- 'concertinalaw16.CrownGains': WHATEVER THE INPUT: true; the input reads as it did. -/
def crownGainsSpec : ChangeSpec := { name := "crownGains", fn := fun _ => fun
  | [d] => { results := [.lit (.bool true)], args := [d] }
  | _ => none }
def crownGainsRow : OpenClaim := { program := "ythhgmanoifpoiaa", sum := "f22bd12f09fa64672f50ac0e52b3a43136936f93c48962d90f4930a73d5b6d4e", func := "concertina/concertinalaw16.CrownGains", spec := "crownGains", inPlace := ["math.Float64bits", "math.Float64frombits"], apart := false }
def CrownGainsSaid : Prop := crownGainsRow.holds Try.pinned (OpenSpec.ofChange crownGainsSpec)

/-- ITS FALSE NEIGHBOUR: 'it returns false'. Refute it at one input. -/
def crownGainsWrong : ChangeSpec := { name := "crownGains", fn := fun _ => fun
  | [d] => { results := [.lit (.bool false)], args := [d] }
  | _ => none }
def CrownGainsWrongFalsely : Prop := crownGainsRow.holds Try.pinned (OpenSpec.ofChange crownGainsWrong)

/-- 'concertinalaw16.CrownChooses': WHATEVER THE INPUT: true; the input reads as it did. -/
def crownChoosesSpec : ChangeSpec := { name := "crownChooses", fn := fun _ => fun
  | [d1, d2] => { results := [.lit (.bool true)], args := [d1, d2] }
  | _ => none }
def crownChoosesRow : OpenClaim := { program := "ythhgmanoifpoiaa", sum := "f22bd12f09fa64672f50ac0e52b3a43136936f93c48962d90f4930a73d5b6d4e", func := "concertina/concertinalaw16.CrownChooses", spec := "crownChooses", inPlace := ["math.Float64bits", "math.Float64frombits"], apart := false }
def CrownChoosesSaid : Prop := crownChoosesRow.holds Try.pinned (OpenSpec.ofChange crownChoosesSpec)

/-- ITS FALSE NEIGHBOUR: 'it returns false'. Refute it at one input. -/
def crownChoosesWrong : ChangeSpec := { name := "crownChooses", fn := fun _ => fun
  | [d1, d2] => { results := [.lit (.bool false)], args := [d1, d2] }
  | _ => none }
def CrownChoosesWrongFalsely : Prop := crownChoosesRow.holds Try.pinned (OpenSpec.ofChange crownChoosesWrong)

/-- 'concertinalaw16.CrownNewer': WHATEVER THE INPUT: true; the input reads as it did. -/
def crownNewerSpec : ChangeSpec := { name := "crownNewer", fn := fun _ => fun
  | [d1, d2, d3] => { results := [.lit (.bool true)], args := [d1, d2, d3] }
  | _ => none }
def crownNewerRow : OpenClaim := { program := "ythhgmanoifpoiaa", sum := "f22bd12f09fa64672f50ac0e52b3a43136936f93c48962d90f4930a73d5b6d4e", func := "concertina/concertinalaw16.CrownNewer", spec := "crownNewer", inPlace := ["math.Float64bits", "math.Float64frombits"], apart := false }
def CrownNewerSaid : Prop := crownNewerRow.holds Try.pinned (OpenSpec.ofChange crownNewerSpec)

/-- ITS FALSE NEIGHBOUR: 'it returns false'. Refute it at one input. -/
def crownNewerWrong : ChangeSpec := { name := "crownNewer", fn := fun _ => fun
  | [d1, d2, d3] => { results := [.lit (.bool false)], args := [d1, d2, d3] }
  | _ => none }
def CrownNewerWrongFalsely : Prop := crownNewerRow.holds Try.pinned (OpenSpec.ofChange crownNewerWrong)

/-- 'concertinalaw16.CrownKnown': WHATEVER THE INPUT: true; the input reads as it did. -/
def crownKnownSpec : ChangeSpec := { name := "crownKnown", fn := fun _ => fun
  | [] => { results := [.lit (.bool true)], args := [] }
  | _ => none }
def crownKnownRow : OpenClaim := { program := "ythhgmanoifpoiaa", sum := "f22bd12f09fa64672f50ac0e52b3a43136936f93c48962d90f4930a73d5b6d4e", func := "concertina/concertinalaw16.CrownKnown", spec := "crownKnown", inPlace := ["math.Float64bits", "math.Float64frombits"], apart := false }
def CrownKnownSaid : Prop := crownKnownRow.holds Try.pinned (OpenSpec.ofChange crownKnownSpec)

/-- ITS FALSE NEIGHBOUR: 'it returns false'. Refute it at one input. -/
def crownKnownWrong : ChangeSpec := { name := "crownKnown", fn := fun _ => fun
  | [] => { results := [.lit (.bool false)], args := [] }
  | _ => none }
def CrownKnownWrongFalsely : Prop := crownKnownRow.holds Try.pinned (OpenSpec.ofChange crownKnownWrong)

/- THE SECOND FORM. 'bulk': how many values and letters a reading holds, each counted each time it is reached (what is shared counts as often as it is met; a slice's spare places count too). A statement '..UptoSaid' is the law's where the arguments, and the package variables that the reading takes, are together of bulk at most 1048576: NARROWER than '..Said'. Prove '..Said' where nothing that the law and all that it calls make is longer than what came in: it says more and counts as full. Else prove '..UptoSaid'. A law counts once. -/
mutual
def uptoBulk {H : Type} : DataW H → Nat
  | .lit (.string bytes) => bytes.length + 1
  | .lit _ => 1
  | .nil => 1
  | .ptr d => uptoBulk d + 1
  | .slice elems spare => uptoBulkAll elems + uptoBulkAll spare + 1
  | .agg parts => uptoBulkAll parts + 1
  | .iface _ d => uptoBulk d + 1
  | .map entries => uptoBulkEntries entries + 1
  | .held _ => 1
def uptoBulkAll {H : Type} : List (DataW H) → Nat
  | [] => 0
  | d :: r => uptoBulk d + uptoBulkAll r
def uptoBulkEntries {H : Type} : List (Lit × DataW H) → Nat
  | [] => 0
  | x :: r => uptoBulkEntry x + uptoBulkEntries r
def uptoBulkEntry {H : Type} : Lit × DataW H → Nat
  | (.string bytes, d) => bytes.length + uptoBulk d + 1
  | (_, d) => uptoBulk d + 1
 end
def uptoSmall : (H : Type) → List (DataW H) → Bool := fun _ ds => decide (uptoBulkAll ds ≤ 1048576)
def OpenSpec.upto (s : _root_.Go.ChangeSpec) : _root_.Go.OpenSpec := { _root_.Go.OpenSpec.ofChange s with cond := some uptoSmall }

/-- 'concertinalaw1.GainOrder', WHERE WHAT IT READS IS OF BULK AT MOST 1048576: true; the input reads as it did. -/
def gainOrderUptoRow : OpenClaim := { program := "ythhgmanoifpoiaa", sum := "f22bd12f09fa64672f50ac0e52b3a43136936f93c48962d90f4930a73d5b6d4e", func := "concertina/concertinalaw1.GainOrder", spec := "gainOrder", inPlace := ["math.Float64frombits", "math.Float64bits"], apart := false, narrowed := true }
def GainOrderUptoSaid : Prop := gainOrderUptoRow.holds Try.pinned (OpenSpec.upto gainOrderSpec)

/-- 'concertinalaw1.GainRatio', WHERE WHAT IT READS IS OF BULK AT MOST 1048576: true; the input reads as it did. -/
def gainRatioUptoRow : OpenClaim := { program := "ythhgmanoifpoiaa", sum := "f22bd12f09fa64672f50ac0e52b3a43136936f93c48962d90f4930a73d5b6d4e", func := "concertina/concertinalaw1.GainRatio", spec := "gainRatio", inPlace := ["math.Float64frombits", "math.Float64bits"], apart := false, narrowed := true }
def GainRatioUptoSaid : Prop := gainRatioUptoRow.holds Try.pinned (OpenSpec.upto gainRatioSpec)

/-- 'concertinalaw1.GainFixes', WHERE WHAT IT READS IS OF BULK AT MOST 1048576: true; the input reads as it did. -/
def gainFixesUptoRow : OpenClaim := { program := "ythhgmanoifpoiaa", sum := "f22bd12f09fa64672f50ac0e52b3a43136936f93c48962d90f4930a73d5b6d4e", func := "concertina/concertinalaw1.GainFixes", spec := "gainFixes", inPlace := ["math.Float64frombits", "math.Float64bits"], apart := false, narrowed := true }
def GainFixesUptoSaid : Prop := gainFixesUptoRow.holds Try.pinned (OpenSpec.upto gainFixesSpec)

/-- 'concertinalaw1.GainKnown', WHERE WHAT IT READS IS OF BULK AT MOST 1048576: true; the input reads as it did. -/
def gainKnownUptoRow : OpenClaim := { program := "ythhgmanoifpoiaa", sum := "f22bd12f09fa64672f50ac0e52b3a43136936f93c48962d90f4930a73d5b6d4e", func := "concertina/concertinalaw1.GainKnown", spec := "gainKnown", inPlace := ["math.Float64frombits", "math.Float64bits"], apart := false, narrowed := true }
def GainKnownUptoSaid : Prop := gainKnownUptoRow.holds Try.pinned (OpenSpec.upto gainKnownSpec)

/-- 'concertinalaw16.CrownEncodes', WHERE WHAT IT READS IS OF BULK AT MOST 1048576: true; the input reads as it did. -/
def crownEncodesUptoRow : OpenClaim := { program := "ythhgmanoifpoiaa", sum := "f22bd12f09fa64672f50ac0e52b3a43136936f93c48962d90f4930a73d5b6d4e", func := "concertina/concertinalaw16.CrownEncodes", spec := "crownEncodes", inPlace := ["math.Float64bits", "math.Float64frombits"], apart := false, narrowed := true }
def CrownEncodesUptoSaid : Prop := crownEncodesUptoRow.holds Try.pinned (OpenSpec.upto crownEncodesSpec)

/-- 'concertinalaw16.CrownDecodes', WHERE WHAT IT READS IS OF BULK AT MOST 1048576: true; the input reads as it did. -/
def crownDecodesUptoRow : OpenClaim := { program := "ythhgmanoifpoiaa", sum := "f22bd12f09fa64672f50ac0e52b3a43136936f93c48962d90f4930a73d5b6d4e", func := "concertina/concertinalaw16.CrownDecodes", spec := "crownDecodes", inPlace := ["math.Float64bits", "math.Float64frombits"], apart := false, narrowed := true }
def CrownDecodesUptoSaid : Prop := crownDecodesUptoRow.holds Try.pinned (OpenSpec.upto crownDecodesSpec)

/-- 'concertinalaw16.CrownTells', WHERE WHAT IT READS IS OF BULK AT MOST 1048576: true; the input reads as it did. -/
def crownTellsUptoRow : OpenClaim := { program := "ythhgmanoifpoiaa", sum := "f22bd12f09fa64672f50ac0e52b3a43136936f93c48962d90f4930a73d5b6d4e", func := "concertina/concertinalaw16.CrownTells", spec := "crownTells", inPlace := ["math.Float64bits", "math.Float64frombits"], apart := false, narrowed := true }
def CrownTellsUptoSaid : Prop := crownTellsUptoRow.holds Try.pinned (OpenSpec.upto crownTellsSpec)

/-- 'concertinalaw16.CrownGains', WHERE WHAT IT READS IS OF BULK AT MOST 1048576: true; the input reads as it did. -/
def crownGainsUptoRow : OpenClaim := { program := "ythhgmanoifpoiaa", sum := "f22bd12f09fa64672f50ac0e52b3a43136936f93c48962d90f4930a73d5b6d4e", func := "concertina/concertinalaw16.CrownGains", spec := "crownGains", inPlace := ["math.Float64bits", "math.Float64frombits"], apart := false, narrowed := true }
def CrownGainsUptoSaid : Prop := crownGainsUptoRow.holds Try.pinned (OpenSpec.upto crownGainsSpec)

/-- 'concertinalaw16.CrownChooses', WHERE WHAT IT READS IS OF BULK AT MOST 1048576: true; the input reads as it did. -/
def crownChoosesUptoRow : OpenClaim := { program := "ythhgmanoifpoiaa", sum := "f22bd12f09fa64672f50ac0e52b3a43136936f93c48962d90f4930a73d5b6d4e", func := "concertina/concertinalaw16.CrownChooses", spec := "crownChooses", inPlace := ["math.Float64bits", "math.Float64frombits"], apart := false, narrowed := true }
def CrownChoosesUptoSaid : Prop := crownChoosesUptoRow.holds Try.pinned (OpenSpec.upto crownChoosesSpec)

/-- 'concertinalaw16.CrownNewer', WHERE WHAT IT READS IS OF BULK AT MOST 1048576: true; the input reads as it did. -/
def crownNewerUptoRow : OpenClaim := { program := "ythhgmanoifpoiaa", sum := "f22bd12f09fa64672f50ac0e52b3a43136936f93c48962d90f4930a73d5b6d4e", func := "concertina/concertinalaw16.CrownNewer", spec := "crownNewer", inPlace := ["math.Float64bits", "math.Float64frombits"], apart := false, narrowed := true }
def CrownNewerUptoSaid : Prop := crownNewerUptoRow.holds Try.pinned (OpenSpec.upto crownNewerSpec)

/-- 'concertinalaw16.CrownKnown', WHERE WHAT IT READS IS OF BULK AT MOST 1048576: true; the input reads as it did. -/
def crownKnownUptoRow : OpenClaim := { program := "ythhgmanoifpoiaa", sum := "f22bd12f09fa64672f50ac0e52b3a43136936f93c48962d90f4930a73d5b6d4e", func := "concertina/concertinalaw16.CrownKnown", spec := "crownKnown", inPlace := ["math.Float64bits", "math.Float64frombits"], apart := false, narrowed := true }
def CrownKnownUptoSaid : Prop := crownKnownUptoRow.holds Try.pinned (OpenSpec.upto crownKnownSpec)

end Rows
end Go.Proofs.Ythhgmanoifpoiaa

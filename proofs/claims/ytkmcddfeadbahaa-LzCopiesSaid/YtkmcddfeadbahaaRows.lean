/-
  No cell of these rows narrows 'for every input' (looked for: loops, veiled, ifaces, maps, wideKeys, modest, calm, conditions, laid).
  DERIVED. THE GIVEN ROWS OF THIS SEAT. 7 by the template 'for every input the law returns true; each argument reads behind the call as it read before'; 0 by the template 'total and deterministic' (their statements: YtkmcddfeadbahaaTotals.lean).
  GIVEN WITH THE SEED: the statements are not yours to turn. If you find one false, say at which input.
  Laid BY PROGRAM, IN A SANDBOX (cutbox-rows.mjs): the forced cells as the released guide's own fill.sh prints them over the translation e349d4c2f0d1a452… (all of the seat's roots in one cut). By AI agents, Wed Nov 11 2026. No macro, syntax, notation, axiom, sorry.
-/
import Derived.Test.YtkmcddfeadbahaaChecked
import GoSem.Claim
import GoSem.ClaimJoined
import GoSem.ClaimMapViews
import Derived.JoinedTies
import Derived.KernelRfl
namespace Go.Proofs.Ytkmcddfeadbahaa
/- THE CELL 'sum', in the pinned program and in every row, IS THE sha256 OF THE DUMP (.gsa) THAT YtkmcddfeadbahaaProg.lean LOADS. Nothing in Lean hashes anything: it is a label: what it is worth is what the hold of that sum in a sandbox is worth. -/
noncomputable def Try.pinned : Pinned := { name := "ytkmcddfeadbahaa", sum := "e349d4c2f0d1a45218db9f64d4b4c74be9ac0b173cfe065fea799c9c71012dcd", checked := Try.checked }
namespace Rows
def none {H : Type} : Left H := { results := [], args := [] }

/-- 'concertinalaw6.LzPlain': WHATEVER THE INPUT: true; the input reads as it did. -/
def lzPlainSpec : ChangeSpec := { name := "lzPlain", fn := fun _ => fun
  | [d1, d2] => { results := [.lit (.bool true)], args := [d1, d2] }
  | _ => none }
def lzPlainRow : OpenClaim := { program := "ytkmcddfeadbahaa", sum := "e349d4c2f0d1a45218db9f64d4b4c74be9ac0b173cfe065fea799c9c71012dcd", func := "concertina/concertinalaw6.LzPlain", spec := "lzPlain", unfollowed := true, recurses := true, plainKeys := false, apart := false }
def LzPlainSaid : Prop := lzPlainRow.holds Try.pinned (OpenSpec.ofChange lzPlainSpec)

/-- ITS FALSE NEIGHBOUR: 'it returns false'. Refute it at one input. -/
def lzPlainWrong : ChangeSpec := { name := "lzPlain", fn := fun _ => fun
  | [d1, d2] => { results := [.lit (.bool false)], args := [d1, d2] }
  | _ => none }
def LzPlainWrongFalsely : Prop := lzPlainRow.holds Try.pinned (OpenSpec.ofChange lzPlainWrong)

/-- 'concertinalaw6.LzFar': WHATEVER THE INPUT: true; the input reads as it did. -/
def lzFarSpec : ChangeSpec := { name := "lzFar", fn := fun _ => fun
  | [d1, d2, d3] => { results := [.lit (.bool true)], args := [d1, d2, d3] }
  | _ => none }
def lzFarRow : OpenClaim := { program := "ytkmcddfeadbahaa", sum := "e349d4c2f0d1a45218db9f64d4b4c74be9ac0b173cfe065fea799c9c71012dcd", func := "concertina/concertinalaw6.LzFar", spec := "lzFar", unfollowed := true, recurses := true, plainKeys := false, apart := false }
def LzFarSaid : Prop := lzFarRow.holds Try.pinned (OpenSpec.ofChange lzFarSpec)

/-- ITS FALSE NEIGHBOUR: 'it returns false'. Refute it at one input. -/
def lzFarWrong : ChangeSpec := { name := "lzFar", fn := fun _ => fun
  | [d1, d2, d3] => { results := [.lit (.bool false)], args := [d1, d2, d3] }
  | _ => none }
def LzFarWrongFalsely : Prop := lzFarRow.holds Try.pinned (OpenSpec.ofChange lzFarWrong)

/-- 'concertinalaw6.LzReads': WHATEVER THE INPUT: true; the input reads as it did. -/
def lzReadsSpec : ChangeSpec := { name := "lzReads", fn := fun _ => fun
  | [d1, d2] => { results := [.lit (.bool true)], args := [d1, d2] }
  | _ => none }
def lzReadsRow : OpenClaim := { program := "ytkmcddfeadbahaa", sum := "e349d4c2f0d1a45218db9f64d4b4c74be9ac0b173cfe065fea799c9c71012dcd", func := "concertina/concertinalaw6.LzReads", spec := "lzReads", unfollowed := true, recurses := true, plainKeys := false, apart := false }
def LzReadsSaid : Prop := lzReadsRow.holds Try.pinned (OpenSpec.ofChange lzReadsSpec)

/-- ITS FALSE NEIGHBOUR: 'it returns false'. Refute it at one input. -/
def lzReadsWrong : ChangeSpec := { name := "lzReads", fn := fun _ => fun
  | [d1, d2] => { results := [.lit (.bool false)], args := [d1, d2] }
  | _ => none }
def LzReadsWrongFalsely : Prop := lzReadsRow.holds Try.pinned (OpenSpec.ofChange lzReadsWrong)

/-- 'concertinalaw6.LzBack': WHATEVER THE INPUT: true; the input reads as it did. -/
def lzBackSpec : ChangeSpec := { name := "lzBack", fn := fun _ => fun
  | [d1, d2] => { results := [.lit (.bool true)], args := [d1, d2] }
  | _ => none }
def lzBackRow : OpenClaim := { program := "ytkmcddfeadbahaa", sum := "e349d4c2f0d1a45218db9f64d4b4c74be9ac0b173cfe065fea799c9c71012dcd", func := "concertina/concertinalaw6.LzBack", spec := "lzBack", unfollowed := true, recurses := true, plainKeys := false, apart := false }
def LzBackSaid : Prop := lzBackRow.holds Try.pinned (OpenSpec.ofChange lzBackSpec)

/-- ITS FALSE NEIGHBOUR: 'it returns false'. Refute it at one input. -/
def lzBackWrong : ChangeSpec := { name := "lzBack", fn := fun _ => fun
  | [d1, d2] => { results := [.lit (.bool false)], args := [d1, d2] }
  | _ => none }
def LzBackWrongFalsely : Prop := lzBackRow.holds Try.pinned (OpenSpec.ofChange lzBackWrong)

/-- 'concertinalaw6.LzSmall': WHATEVER THE INPUT: true; the input reads as it did. -/
def lzSmallSpec : ChangeSpec := { name := "lzSmall", fn := fun _ => fun
  | [d1, d2] => { results := [.lit (.bool true)], args := [d1, d2] }
  | _ => none }
def lzSmallRow : OpenClaim := { program := "ytkmcddfeadbahaa", sum := "e349d4c2f0d1a45218db9f64d4b4c74be9ac0b173cfe065fea799c9c71012dcd", func := "concertina/concertinalaw6.LzSmall", spec := "lzSmall", unfollowed := true, recurses := true, plainKeys := false, apart := false }
def LzSmallSaid : Prop := lzSmallRow.holds Try.pinned (OpenSpec.ofChange lzSmallSpec)

/-- ITS FALSE NEIGHBOUR: 'it returns false'. Refute it at one input. -/
def lzSmallWrong : ChangeSpec := { name := "lzSmall", fn := fun _ => fun
  | [d1, d2] => { results := [.lit (.bool false)], args := [d1, d2] }
  | _ => none }
def LzSmallWrongFalsely : Prop := lzSmallRow.holds Try.pinned (OpenSpec.ofChange lzSmallWrong)

/-- 'concertinalaw6.LzCopies': WHATEVER THE INPUT: true; the input reads as it did. -/
def lzCopiesSpec : ChangeSpec := { name := "lzCopies", fn := fun _ => fun
  | [d1, d2, d3] => { results := [.lit (.bool true)], args := [d1, d2, d3] }
  | _ => none }
def lzCopiesRow : OpenClaim := { program := "ytkmcddfeadbahaa", sum := "e349d4c2f0d1a45218db9f64d4b4c74be9ac0b173cfe065fea799c9c71012dcd", func := "concertina/concertinalaw6.LzCopies", spec := "lzCopies", unfollowed := true, recurses := true, plainKeys := false, apart := false }
def LzCopiesSaid : Prop := lzCopiesRow.holds Try.pinned (OpenSpec.ofChange lzCopiesSpec)

/-- ITS FALSE NEIGHBOUR: 'it returns false'. Refute it at one input. -/
def lzCopiesWrong : ChangeSpec := { name := "lzCopies", fn := fun _ => fun
  | [d1, d2, d3] => { results := [.lit (.bool false)], args := [d1, d2, d3] }
  | _ => none }
def LzCopiesWrongFalsely : Prop := lzCopiesRow.holds Try.pinned (OpenSpec.ofChange lzCopiesWrong)

/-- 'concertinalaw6.LzKnown': WHATEVER THE INPUT: true; the input reads as it did. -/
def lzKnownSpec : ChangeSpec := { name := "lzKnown", fn := fun _ => fun
  | [] => { results := [.lit (.bool true)], args := [] }
  | _ => none }
def lzKnownRow : OpenClaim := { program := "ytkmcddfeadbahaa", sum := "e349d4c2f0d1a45218db9f64d4b4c74be9ac0b173cfe065fea799c9c71012dcd", func := "concertina/concertinalaw6.LzKnown", spec := "lzKnown", unfollowed := true, recurses := true, plainKeys := false, apart := false }
def LzKnownSaid : Prop := lzKnownRow.holds Try.pinned (OpenSpec.ofChange lzKnownSpec)

/-- ITS FALSE NEIGHBOUR: 'it returns false'. Refute it at one input. -/
def lzKnownWrong : ChangeSpec := { name := "lzKnown", fn := fun _ => fun
  | [] => { results := [.lit (.bool false)], args := [] }
  | _ => none }
def LzKnownWrongFalsely : Prop := lzKnownRow.holds Try.pinned (OpenSpec.ofChange lzKnownWrong)

/- THE SECOND FORM. 'bulk': how many values and letters a reading holds, each counted each time it is reached (what is shared counts as often as it is met; a slice's spare places count too). A statement '..UptoSaid' is the law's where the arguments, and the package variables that the reading takes, are together of bulk at most 1048576: NARROWER than '..Said'. Prove '..Said' where nothing that the law and all that it calls make is longer than what came in: it says more and counts as full. Else prove '..UptoSaid'. A law counts once. -/
mutual
def uptoBulk {H : Type} : DataW H → Nat
  | .lit (.string bytes) => bytes.length + 1
  | .lit _ => 1
  | .nil => 1
  | .ptr d => uptoBulk d + 1
  | .slice elems spare => uptoBulkAll elems + uptoBulkAll spare + 1
  | .agg parts => uptoBulkAll parts + 1
  | .iface _ d => uptoBulk d + 1
  | .map entries => uptoBulkEntries entries + 1
  | .held _ => 1
def uptoBulkAll {H : Type} : List (DataW H) → Nat
  | [] => 0
  | d :: r => uptoBulk d + uptoBulkAll r
def uptoBulkEntries {H : Type} : List (Lit × DataW H) → Nat
  | [] => 0
  | x :: r => uptoBulkEntry x + uptoBulkEntries r
def uptoBulkEntry {H : Type} : Lit × DataW H → Nat
  | (.string bytes, d) => bytes.length + uptoBulk d + 1
  | (_, d) => uptoBulk d + 1
 end
def uptoSmall : (H : Type) → List (DataW H) → Bool := fun _ ds => decide (uptoBulkAll ds ≤ 1048576)
def OpenSpec.upto (s : _root_.Go.ChangeSpec) : _root_.Go.OpenSpec := { _root_.Go.OpenSpec.ofChange s with cond := some uptoSmall }

/-- 'concertinalaw6.LzPlain', WHERE WHAT IT READS IS OF BULK AT MOST 1048576: true; the input reads as it did. -/
def lzPlainUptoRow : OpenClaim := { program := "ytkmcddfeadbahaa", sum := "e349d4c2f0d1a45218db9f64d4b4c74be9ac0b173cfe065fea799c9c71012dcd", func := "concertina/concertinalaw6.LzPlain", spec := "lzPlain", unfollowed := true, recurses := true, plainKeys := false, apart := false, narrowed := true }
def LzPlainUptoSaid : Prop := lzPlainUptoRow.holds Try.pinned (OpenSpec.upto lzPlainSpec)

/-- 'concertinalaw6.LzFar', WHERE WHAT IT READS IS OF BULK AT MOST 1048576: true; the input reads as it did. -/
def lzFarUptoRow : OpenClaim := { program := "ytkmcddfeadbahaa", sum := "e349d4c2f0d1a45218db9f64d4b4c74be9ac0b173cfe065fea799c9c71012dcd", func := "concertina/concertinalaw6.LzFar", spec := "lzFar", unfollowed := true, recurses := true, plainKeys := false, apart := false, narrowed := true }
def LzFarUptoSaid : Prop := lzFarUptoRow.holds Try.pinned (OpenSpec.upto lzFarSpec)

/-- 'concertinalaw6.LzReads', WHERE WHAT IT READS IS OF BULK AT MOST 1048576: true; the input reads as it did. -/
def lzReadsUptoRow : OpenClaim := { program := "ytkmcddfeadbahaa", sum := "e349d4c2f0d1a45218db9f64d4b4c74be9ac0b173cfe065fea799c9c71012dcd", func := "concertina/concertinalaw6.LzReads", spec := "lzReads", unfollowed := true, recurses := true, plainKeys := false, apart := false, narrowed := true }
def LzReadsUptoSaid : Prop := lzReadsUptoRow.holds Try.pinned (OpenSpec.upto lzReadsSpec)

/-- 'concertinalaw6.LzBack', WHERE WHAT IT READS IS OF BULK AT MOST 1048576: true; the input reads as it did. -/
def lzBackUptoRow : OpenClaim := { program := "ytkmcddfeadbahaa", sum := "e349d4c2f0d1a45218db9f64d4b4c74be9ac0b173cfe065fea799c9c71012dcd", func := "concertina/concertinalaw6.LzBack", spec := "lzBack", unfollowed := true, recurses := true, plainKeys := false, apart := false, narrowed := true }
def LzBackUptoSaid : Prop := lzBackUptoRow.holds Try.pinned (OpenSpec.upto lzBackSpec)

/-- 'concertinalaw6.LzSmall', WHERE WHAT IT READS IS OF BULK AT MOST 1048576: true; the input reads as it did. -/
def lzSmallUptoRow : OpenClaim := { program := "ytkmcddfeadbahaa", sum := "e349d4c2f0d1a45218db9f64d4b4c74be9ac0b173cfe065fea799c9c71012dcd", func := "concertina/concertinalaw6.LzSmall", spec := "lzSmall", unfollowed := true, recurses := true, plainKeys := false, apart := false, narrowed := true }
def LzSmallUptoSaid : Prop := lzSmallUptoRow.holds Try.pinned (OpenSpec.upto lzSmallSpec)

/-- 'concertinalaw6.LzCopies', WHERE WHAT IT READS IS OF BULK AT MOST 1048576: true; the input reads as it did. -/
def lzCopiesUptoRow : OpenClaim := { program := "ytkmcddfeadbahaa", sum := "e349d4c2f0d1a45218db9f64d4b4c74be9ac0b173cfe065fea799c9c71012dcd", func := "concertina/concertinalaw6.LzCopies", spec := "lzCopies", unfollowed := true, recurses := true, plainKeys := false, apart := false, narrowed := true }
def LzCopiesUptoSaid : Prop := lzCopiesUptoRow.holds Try.pinned (OpenSpec.upto lzCopiesSpec)

/-- 'concertinalaw6.LzKnown', WHERE WHAT IT READS IS OF BULK AT MOST 1048576: true; the input reads as it did. -/
def lzKnownUptoRow : OpenClaim := { program := "ytkmcddfeadbahaa", sum := "e349d4c2f0d1a45218db9f64d4b4c74be9ac0b173cfe065fea799c9c71012dcd", func := "concertina/concertinalaw6.LzKnown", spec := "lzKnown", unfollowed := true, recurses := true, plainKeys := false, apart := false, narrowed := true }
def LzKnownUptoSaid : Prop := lzKnownUptoRow.holds Try.pinned (OpenSpec.upto lzKnownSpec)

end Rows
end Go.Proofs.Ytkmcddfeadbahaa

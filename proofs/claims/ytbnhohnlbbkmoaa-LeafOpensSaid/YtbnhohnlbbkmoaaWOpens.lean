/- The walk of LeafOpens. -/
import Derived.Test.YtbnhohnlbbkmoaaRefO
import Derived.Test.YtbnhohnlbbkmoaaAw5
import Derived.WalkSpells
import Derived.Outline
namespace Go.Proofs.Ytbnhohnlbbkmoaa
open Go.RowKit
set_option linter.unusedVariables false

set_option maxHeartbeats 1000000 in
theorem walkOpens (a0 : Option Addr) (len0 cap0 : Nat) (kind : B8) (w : World) (bs : List B8) (hlc : len0 ≤ cap0) (hr : Rd w w.heap.size a0 len0 bs) :
    Calls Try.prog 12 #[.slice a0 len0 cap0, .int .u8 (I8 kind)] w fun e w' => e = .returned (.bool true) ∧ Below w.heap.size w w' := by
  by_cases hhi : 5000 < len0
  · go_enter Try.func12, Try.ntmps12
    go_wp2_with (go_at_call 20; refine (awake5 _).mono ?_; rintro e w1 ⟨rfl, hb1⟩)
    go_ret
    exact ⟨rfl, hb1⟩
  have HR := Lib.hid hr
  clear hr
  go_enter Try.func12, Try.ntmps12
  go_wp2_with (go_at_call 20; refine (awake5 _).mono ?_; rintro e w1 ⟨rfl, hb1⟩)
  have O1 := Lib.hid (open_any a0 len0 cap0 bs kind w1 ((HR.out.below hb1).more hb1.size) hlc (by omega))
  refine O1.out.mono ?_
  rintro e w2 ⟨A2, n2, c2, rfl, hr2, hb2⟩
  have hB2 : Below w.heap.size w w2 := hb1.trans (hb2.mono hb1.size)
  have O2 := Lib.hid (refOpen_any a0 len0 cap0 bs kind w2 ((HR.out.below hB2).more hB2.size) hlc (by omega))
  have R2 := Lib.hid hr2
  clear hr2 O1
  go_wp2_with fail
  refine O2.out.mono ?_
  rintro e w3 ⟨A3, n3, c3, rfl, hr3, hb3⟩
  have hB3 : Below w.heap.size w w3 := hB2.trans (hb3.mono hB2.size)
  have S1 := Lib.hid (size_any a0 len0 cap0 bs w3 ((HR.out.below hB3).more hB3.size) hlc (by omega))
  have S2 := fun k => Lib.hid (refSize_any a0 len0 cap0 bs (w3.drewN k) (((HR.out.below hB3).more hB3.size).drewN k) hlc (by omega))
  have s2 := fun k => conv_str (P := Try.prog) 22 9 5 (c := c2) Try.underlying22 Try.underlying5 Try.underlying9 ((R2.out.below hb3).drewN k)
  have s3 := fun k => conv_str (P := Try.prog) 22 9 5 (c := c3) Try.underlying22 Try.underlying5 Try.underlying9 (hr3.drewN k)
  clear hr3 O2
  generalize openG bs kind = G at *
  generalize openE bs kind = E at *
  generalize sizeS bs = Z at *
  generalize headE bs = H at *
  generalize strOf (openD bs kind) = D at *
  go_wp2_with fail
  refine S1.out.mono ?_
  rintro e w' ⟨rfl, nq, rfl⟩
  go_wp2_with fail
  refine (S2 _).out.mono ?_
  rintro e w' ⟨rfl, nq2, rfl⟩
  go_wp2_with fail
  go_ret
  exact ⟨rfl, below_drewN hB3 _⟩
end Go.Proofs.Ytbnhohnlbbkmoaa

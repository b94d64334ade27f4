/- The walk of LzReads. -/
import Derived.Test.YtkmcddfeadbahaaAw6
namespace Go.Proofs.Ytkmcddfeadbahaa
open Go.RowKit
set_option linter.unusedVariables false

theorem walkReads (a0 : Option Addr) (len0 cap0 : Nat) (n : Int) (w : World) (bs : List B8) (hlc : len0 ≤ cap0) (hr : Rd w w.heap.size a0 len0 bs) :
    Calls Try.prog 5 #[.slice a0 len0 cap0, .int .i64 n] w fun e w' => e = .returned (.bool true) ∧ Below w.heap.size w w' := by
  by_cases hhi : 5000 < len0
  · go_enter Try.func5, Try.ntmps5
    go_wp2_with (go_at_call 10; refine (awake6 _).mono ?_; rintro e w1 ⟨rfl, hb1⟩)
    go_ret
    exact ⟨rfl, hb1⟩
  have HR := Lib.hid hr
  clear hr
  go_enter Try.func5, Try.ntmps5
  go_wp2_with (go_at_call 10; refine (awake6 _).mono ?_; rintro e w1 ⟨rfl, hb1⟩)
  have O1 := Lib.hid (unpack_any a0 len0 cap0 bs w1 ((HR.out.below hb1).more hb1.size) hlc (by omega) n)
  refine O1.out.mono ?_
  rintro e w2 ⟨A2, n2, c2, rfl, _, hr2, hb2⟩
  have hB2 : Below w.heap.size w w2 := hb1.trans (hb2.mono hb1.size)
  have O2 := Lib.hid (ref_any a0 len0 cap0 bs w2 ((HR.out.below hB2).more hB2.size) hlc (by omega) n)
  have R2 := Lib.hid hr2
  clear hr2 O1
  go_wp2_with fail
  refine O2.out.mono ?_
  rintro e w3 ⟨A3, n3, c3, rfl, _, hr3, hb3⟩
  have hB3 : Below w.heap.size w w3 := hB2.trans (hb3.mono hB2.size)
  have s2 := conv_str (P := Try.prog) 22 9 5 (c := c2) Try.underlying22 Try.underlying5 Try.underlying9 (R2.out.below hb3)
  have s3 := conv_str (P := Try.prog) 22 9 5 (c := c3) Try.underlying22 Try.underlying5 Try.underlying9 hr3
  clear hr3 O2
  generalize (says bs n).e = E at *
  generalize strOf (says bs n).d = D at *
  go_wp2_with fail
  go_ret
  exact ⟨rfl, hB3⟩
end Go.Proofs.Ytkmcddfeadbahaa

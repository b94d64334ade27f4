/- Contracts of the law's Crown and Same. -/
import Derived.Test.YthhgmanoifpoiaaCrS
import Derived.Test.YthhgmanoifpoiaaCrB
import Derived.Handy
namespace Go.Proofs.Ythhgmanoifpoiaa
open Go.RowKit
set_option linter.unusedVariables false
/-- A float is stored as any value of one cell. -/
theorem storeFloat (a : Addr) (x : Nat) (w : World) : (store a (.float .f64 x)).run Try.prog w = stored Try.prog w a (.float .f64 x) .plain := run_store Try.prog w a _ .plain rfl

theorem crown_any (g b s : Int) (f : Nat) (a n k h : Int) (w : World) :
    Calls Try.prog 28 #[.agg #[.int .i64 g, .int .i64 b, .int .i64 s, .float .f64 f, .int .i64 a, .int .i64 n, .int .i64 k, .int .i64 h]] w fun e w' => e = .returned (.agg #[.int .i64 g, .int .i64 b, .int .i64 s, .float .f64 f, .int .i64 a, .int .i64 n, .int .i64 k, .int .i64 h]) ∧ Below w.heap.size w w' := by
  have hst := storeFloat
  go_enter Try.func28, Try.ntmps28
  go_wp2
  go_returns
  refine ⟨rfl, ?_⟩
  repeat (first | exact Below.refl _ _ | (refine Below.setCell ?_ (by simp) _) | (refine Below.alloc ?_ (by simp) _))
set_option maxRecDepth 100000 in
set_option maxHeartbeats 2000000 in
theorem same_any (g b s : Int) (f : Nat) (a n k h : Int) (w : World) :
    Calls Try.prog 33 #[.agg #[.int .i64 g, .int .i64 b, .int .i64 s, .float .f64 f, .int .i64 a, .int .i64 n, .int .i64 k, .int .i64 h], .agg #[.int .i64 g, .int .i64 b, .int .i64 s, .float .f64 f, .int .i64 a, .int .i64 n, .int .i64 k, .int .i64 h]] w fun e w' => e = .returned (.bool true) ∧ Below w.heap.size w w' := by
  have hb1 := fun w => run_bits f w
  go_enter Try.func33, Try.ntmps33
  go_wp2
  refine wp_region_row 5 (by kernel_rfl) (by kernel_rfl) ?_
  repeat (go_big_quiet_step (fail))
  refine wpQuiet_nil ?_
  intro _ hw'
  obtain ⟨nq, rfl⟩ := hw'
  go_wp2_with fail
  go_ret
  exact ⟨rfl, below_drewN (((Below.refl _ _).alloc (Nat.le_refl _) _).alloc (by simp) _) _⟩
end Go.Proofs.Ythhgmanoifpoiaa

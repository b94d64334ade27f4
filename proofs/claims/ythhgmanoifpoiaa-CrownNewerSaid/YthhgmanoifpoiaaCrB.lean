/- The contract of the document's CrownMay. -/
import Derived.Test.YthhgmanoifpoiaaCrA
import Derived.Test.YthhgmanoifpoiaaSsa
namespace Go.Proofs.Ythhgmanoifpoiaa
open Go.RowKit
set_option linter.unusedVariables false

set_option maxRecDepth 100000 in
set_option maxHeartbeats 4000000 in
theorem refMay_any (g b s : Int) (f : Nat) (a n k h : Int) (w : World) (hf : f < 18446744073709551616) :
    Calls Try.prog 31 #[.agg #[.int .i64 g, .int .i64 b, .int .i64 s, .float .f64 f, .int .i64 a, .int .i64 n, .int .i64 k, .int .i64 h]] w fun e w' => e = .returned (.bool (mayB g b s f a n k h)) ∧ Below w.heap.size w w' := by
  have hb1 := fun w => run_bits f w
  have hb2 := fun w => run_bits (fixW f) w
  have hq := fix_beq f
  rcases tf (decide (1 ≤ g)) with h1 | h1
  rcases tf (decide (g < 268435456)) with h2 | h2
  rcases tf (decide (64 ≤ b)) with h3 | h3
  rcases tf (decide (b ≤ 8192)) with h4 | h4
  rcases tf (decide (1 ≤ s)) with h5 | h5
  rcases tf (decide (s ≤ 512)) with h6 | h6
  rcases tf (decide (fixW f = f)) with h7 | h7 <;> rw [h7] at hq
  rcases tf (decide (0 ≤ h)) with h8 | h8
  rcases tf (decide (h < 6)) with h9 | h9
  rcases tf (decide (0 ≤ k)) with h10 | h10
  rcases tf (decide (k ≤ g)) with h11 | h11
  rcases tf (decide (2 ≤ a)) with h12 | h12
  rcases tf (decide (1 ≤ n)) with h13 | h13
  rcases tf (decide (n ≤ 128)) with h14 | h14
  rcases tf (decide (a ≤ b)) with h15 | h15
  have hba : IntKind.i64.wrap (b - a) = b - a := by have := of_decide_eq_true h3; have := of_decide_eq_true h4; have := of_decide_eq_true h12; have := of_decide_eq_true h15; rw [IntKind.wrap_i64]; omega
  rcases tf (decide (n ≤ b - a)) with h16 | h16
  all_goals
    go_enter Try.func31, Try.ntmps31
    go_wp2_with fail
    simp only [List.append]
    refine wp_region_row 3 (by kernel_rfl) (by kernel_rfl) ?_
    repeat (go_big_quiet_step (first | (go_at_call 19; exact quietSame (refFix_any _ _ hf))))
    refine wpQuiet_nil ?_
    intro _ hw'
    obtain ⟨nq, rfl⟩ := hw'
    go_wp2_with fail
    go_ret
    refine ⟨congrArg (fun v => Ending.returned (Value.bool v)) ?_, below_drewN ((Below.refl _ _).alloc (Nat.le_refl _) _) _⟩
    unfold mayB inB
    simp only [decide_eq_true_eq, decide_eq_false_iff_not] at *
    first
      | (symm; simp only [Bool.and_eq_true, decide_eq_true_eq]; omega)
      | (symm; rw [Bool.eq_false_iff]; intro hh; simp only [Bool.and_eq_true, decide_eq_true_eq] at hh; omega)
end Go.Proofs.Ythhgmanoifpoiaa

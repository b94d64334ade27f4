/- Contracts of crown.within, May and the document's CrownMay. -/
import Derived.Test.YthhgmanoifpoiaaMean
import Derived.BigQuiet
import Derived.Deep.RegionWith
namespace Go.Proofs.Ythhgmanoifpoiaa
open Go.RowKit
set_option linter.unusedVariables false

def inB (x l m : Int) : Bool := decide (l ≤ x ∧ x ≤ m)
theorem within_any (x l m : Int) (w : World) : Calls Try.prog 47 #[.int .i64 x, .int .i64 l, .int .i64 m] w fun e w' => e = .returned (.bool (inB x l m)) ∧ w = w' := by
  by_cases h1 : l ≤ x
  · by_cases h2 : x ≤ m
    · rw [show inB x l m = true from decide_eq_true ⟨h1, h2⟩]
      go_enter Try.func47, Try.ntmps47
      go_wp2
      go_ret
      exact ⟨rfl, rfl⟩
    · rw [show inB x l m = false from decide_eq_false (by omega)]
      go_enter Try.func47, Try.ntmps47
      go_wp2
      go_ret
      exact ⟨rfl, rfl⟩
  · rw [show inB x l m = false from decide_eq_false (by omega)]
    go_enter Try.func47, Try.ntmps47
    go_wp2
    go_ret
    exact ⟨rfl, rfl⟩

/-- A contract that leaves the world as it is, met in a quiet region. -/
theorem quietSame {P : Program} {f : FuncId} {args : Array Value} {w : World} {n : Nat} {v : Value}
    (h : Calls P f args (w.drewN n) fun e w' => e = .returned v ∧ w.drewN n = w') : Calls P f args (w.drewN n) fun e w'' => e = .returned v ∧ ∃ m, w'' = w.drewN m :=
  h.mono fun _ _ ⟨he, hw⟩ => ⟨he, n, hw.symm⟩

def mayB (g b s : Int) (f : Nat) (a n k h : Int) : Bool :=
  inB g 1 268435455 && inB b 64 8192 && inB s 1 512 && decide (fixW f = f) && inB h 0 5 && inB k 0 g && inB n 1 128 && inB a 2 (b - n)
theorem inB_true {x l m : Int} (h : inB x l m = true) : l ≤ x ∧ x ≤ m := of_decide_eq_true h
theorem inB_false {x l m : Int} (h : inB x l m = false) : x < l ∨ (l ≤ x ∧ m < x) := by have := of_decide_eq_false h; omega
theorem tf (b : Bool) : b = true ∨ b = false := by cases b <;> simp
theorem fix_beq (f : Nat) : (((fixW f : Nat) : Int) == (f : Int)) = decide (fixW f = f) := by
  by_cases h : fixW f = f
  · rw [h]; simp
  · rw [decide_eq_false h, beq_eq_false_iff_ne]; omega

set_option maxHeartbeats 2000000 in
theorem may_any (g b s : Int) (f : Nat) (a n k h : Int) (w : World) (hf : f < 18446744073709551616) :
    Calls Try.prog 30 #[.agg #[.int .i64 g, .int .i64 b, .int .i64 s, .float .f64 f, .int .i64 a, .int .i64 n, .int .i64 k, .int .i64 h]] w fun e w' => e = .returned (.bool (mayB g b s f a n k h)) ∧ Below w.heap.size w w' := by
  have hb1 := fun w => run_bits f w
  have hb2 := fun w => run_bits (fixW f) w
  have hq := fix_beq f
  rcases tf (inB g 1 268435455) with h1 | h1
  rcases tf (inB b 64 8192) with h2 | h2
  rcases tf (inB s 1 512) with h3 | h3
  rcases tf (decide (fixW f = f)) with h4 | h4 <;> rw [h4] at hq
  rcases tf (inB h 0 5) with h5 | h5
  rcases tf (inB k 0 g) with h6 | h6
  rcases tf (inB n 1 128) with h7 | h7
  have hbn : IntKind.i64.wrap (b - n) = b - n := by have := inB_true h2; have := inB_true h7; rw [IntKind.wrap_i64]; omega
  rcases tf (inB a 2 (b - n)) with h8 | h8
  all_goals
    go_enter Try.func30, Try.ntmps30
    go_wp2_with (go_at_call 47; refine (within_any _ _ _ _).mono ?_; rintro e w' ⟨rfl, rfl⟩)
    go_quiet (first | (go_at_call 16; exact quietSame (fix_any _ _ hf)))
    go_wp2_with (go_at_call 47; refine (within_any _ _ _ _).mono ?_; rintro e w' ⟨rfl, rfl⟩)
    go_ret
    refine ⟨by unfold mayB; simp [*], ?_⟩
    exact below_drewN (((Below.refl _ _).alloc (Nat.le_refl _) _).alloc (by simp) _) _

end Go.Proofs.Ythhgmanoifpoiaa

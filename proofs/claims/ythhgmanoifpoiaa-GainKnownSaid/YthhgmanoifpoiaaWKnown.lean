/- The walk of GainKnown. -/
import Derived.Test.YthhgmanoifpoiaaWFixes
import Derived.WalkSpells
import Derived.Outline
namespace Go.Proofs.Ythhgmanoifpoiaa
open Go.RowKit
set_option linter.unusedVariables false

theorem copysign_known (w : World) : Calls Try.prog 24 #[.float .f64 0, .float .f64 13830554455654793216] w fun e w' => e = .returned (.float .f64 9223372036854775808) ∧ w = w' := by
  have c0 : ∀ w : World, (callFunc 37 #[.float .f64 0]).run Try.prog w = .ok (.value (.int .u64 0)) w := fun w => run_bits 0 w
  have c1 : ∀ w : World, (callFunc 37 #[.float .f64 13830554455654793216]).run Try.prog w = .ok (.value (.int .u64 13830554455654793216)) w := fun w => run_bits 13830554455654793216 w
  have c2 : ∀ w : World, (callFunc 41 #[.int .u64 9223372036854775808]).run Try.prog w = .ok (.value (.float .f64 9223372036854775808)) w := fun w => run_unbits 9223372036854775808 w
  have b0 : bits .andNot .u64 0 9223372036854775808 = 0 := by decide +kernel
  have b1 : bits .and .u64 13830554455654793216 9223372036854775808 = 9223372036854775808 := by decide +kernel
  have b2 : bits .or .u64 0 9223372036854775808 = 9223372036854775808 := by decide +kernel
  go_enter Try.func24, Try.ntmps24
  go_wp2
  go_ret
  exact ⟨rfl, rfl⟩

def inL : List Nat := [9221120237041090561, 9218868437227405312, 18442240474082181120, 0, 9223372036854775808, 4607182418800017408, 4598175219545276416, 1, 9223372036854775809, 4609434218613702656]
def outL : List Nat := [4607182418800017408, 4607182418800017408, 0, 0, 0, 4607182418800017408, 4598175219545276416, 1, 0, 4607182418800017408]
theorem out_fix : outL = inL.map fixW := by decide +kernel
theorem in_lt : ∀ x ∈ inL, x < 18446744073709551616 := by decide

theorem neg_inf : Go.Op.negFloat .f64 9218868437227405312 = 18442240474082181120 := by decide +kernel

theorem neg_run (w : World) : (Op.unary .neg (.float .f64 9218868437227405312)).run Try.prog w = .ok (.float .f64 18442240474082181120) w := by
  show (pure (Value.float .f64 (Go.Op.negFloat .f64 9218868437227405312)) : Sem Value).run Try.prog w = _
  rw [neg_inf]
  rfl

theorem known_cells (w1 : World) (t : TypeId) (m1 m2 : Nat × Nat) (j : Nat) (hj : j < 10) : ∃ x, x < 18446744073709551616 ∧ 
    ((w1.alloc (.cells (inL.map vF).toArray t m1)).alloc (.cells (outL.map vF).toArray t m2)).cell? ⟨w1.heap.size, j, none⟩ = some (.float .f64 x) ∧
    ((w1.alloc (.cells (inL.map vF).toArray t m1)).alloc (.cells (outL.map vF).toArray t m2)).cell? ⟨w1.heap.size + 1, j, none⟩ = some (.float .f64 (fixW x)) := by
  have hs : (w1.alloc (.cells (inL.map vF).toArray t m1)).heap.size = w1.heap.size + 1 := by show (w1.heap.push _).size = _; rw [Array.size_push]
  have a1 := heap_alloc_new (w1.alloc (.cells (inL.map vF).toArray t m1)) (.cells (outL.map vF).toArray t m2)
  rw [hs] at a1
  have a0 : ((w1.alloc (.cells (inL.map vF).toArray t m1)).alloc (.cells (outL.map vF).toArray t m2)).heap[w1.heap.size]? = some (.cells (inL.map vF).toArray t m1) := by
    rw [Below.heap_alloc _ _ _ (by omega)]
    exact heap_alloc_new w1 _
  have hl : inL.length = 10 := rfl
  refine ⟨inL[j]'(by omega), in_lt _ (List.getElem_mem _), ?_, ?_⟩
  · rw [cell_of_row _ _ j _ _ _ a0]
    rw [List.getElem?_toArray, List.getElem?_map, List.getElem?_eq_getElem (by omega)]
    rfl
  · rw [cell_of_row _ _ j _ _ _ a1]
    rw [List.getElem?_toArray, List.getElem?_map, out_fix, List.getElem?_map, List.getElem?_eq_getElem (by omega)]
    rfl

theorem mean_none : meanL [] 0 0 = some (0, 0) := rfl
theorem mean_bad : meanL [9221120237041090561, 9218868437227405312] 0 0 = some (0, 0) := by decide +kernel
theorem mean_max : meanL [9218868437227405311, 9218868437227405311] 0 0 = some (9218868437227405312, 2) := by decide +kernel

theorem max_big : (decide (rung 9218868437227405312 < inf)) = false := by decide +kernel
theorem mean_k0 (w : World) : Calls Try.prog 25 #[.slice none 0 0] w fun e w' => e = .returned (.tuple #[.float .f64 0, .bool false]) ∧ w = w' :=
  mean_any [] none 0 0 0 w ⟨rfl, fun h => absurd h (by omega)⟩ (by decide) (by simp) _ _ mean_none 0 false (.inl ⟨rfl, rfl, .inl rfl⟩)
theorem mean_k1 (w : World) : Calls Try.prog 25 #[.slice (some ⟨w.heap.size, 0, none⟩) 2 2] (w.alloc (.cells #[.float .f64 9221120237041090561, .float .f64 9218868437227405312] 22)) fun e w' => e = .returned (.tuple #[.float .f64 0, .bool false]) ∧ (w.alloc (.cells #[.float .f64 9221120237041090561, .float .f64 9218868437227405312] 22)) = w' :=
  mean_any [9221120237041090561, 9218868437227405312] _ 2 2 _ _ (reads_new w _ [vF 9221120237041090561, vF 9218868437227405312] _ _ _ rfl rfl) (by decide) (by decide) _ _ mean_bad 0 false (.inl ⟨rfl, rfl, .inl rfl⟩)
theorem mean_k2 (w : World) (o : Obj) : Calls Try.prog 25 #[.slice (some ⟨w.heap.size + 1, 0, none⟩) 2 2] ((w.alloc o).alloc (.cells #[.float .f64 9218868437227405311, .float .f64 9218868437227405311] 22)) fun e w' => e = .returned (.tuple #[.float .f64 0, .bool false]) ∧ ((w.alloc o).alloc (.cells #[.float .f64 9218868437227405311, .float .f64 9218868437227405311] 22)) = w' :=
  mean_any [9218868437227405311, 9218868437227405311] _ 2 2 _ _ (reads_new (w.alloc o) _ [vF 9218868437227405311, vF 9218868437227405311] _ _ _ (by show (w.heap.push o).size = _; rw [Array.size_push]) rfl) (by decide) (by decide) _ _ mean_max 0 false (.inl ⟨rfl, rfl, .inr max_big⟩)
theorem nan_ne : (FloatKind.f64.format.order 9221120237041090561 9221120237041090561 != some .eq) = true := by decide +kernel
theorem nan_ne' : (FloatKind.f64.format.order 9221120237041090561 9221120237041090561 == some .eq) = false := by decide +kernel
theorem inf_eq1 : (FloatKind.f64.format.order 9218868437227405312 9218868437227405312 == some .eq) = true := by decide +kernel
theorem inf_eq2 : (FloatKind.f64.format.order 18442240474082181120 18442240474082181120 == some .eq) = true := by decide +kernel
theorem wk1 : worthB 9221120237041090561 0 1 = true := by decide +kernel
theorem wk2 : worthB 0 1 9 = false := by decide +kernel
theorem wk3 : worthB 0 0 9 = true := by decide +kernel

set_option maxHeartbeats 1000000 in
theorem walkKnown (w : World) : Calls Try.prog 6 #[] w fun e w' => e = .returned (.bool true) ∧ Below w.heap.size w w' := by
  have h1 := neg_run
  go_enter Try.func6, Try.ntmps6
  go_wp2_with (first
    | (go_at_call 14; refine (awake1 _).mono ?_; rintro e w1 ⟨rfl, hb1⟩)
    | (go_at_call 23; refine (nan_any _).mono ?_; rintro e w' ⟨rfl, rfl⟩)
    | (go_at_call 22; refine (inf_any 1 _ (.inl rfl)).mono ?_; rintro e w' ⟨rfl, rfl⟩)
    | (go_at_call 24; refine (copysign_known _).mono ?_; rintro e w' ⟨rfl, rfl⟩))
  have hb2 : ∀ o1 o2 : Obj, Below w.heap.size w ((w1.alloc o1).alloc o2) := fun o1 o2 => (hb1.alloc hb1.size _).alloc (by have := hb1.size; simp; omega) _
  go_loopw [5] (fun i wr => ∃ k : Nat, k ≤ 10 ∧ i = .int .i64 (k : Int) ∧ Below w.heap.size w wr ∧ ∀ j, j < 10 → ∃ x, x < 18446744073709551616 ∧ wr.cell? ⟨w1.heap.size, j, none⟩ = some (.float .f64 x) ∧ wr.cell? ⟨w1.heap.size + 1, j, none⟩ = some (.float .f64 (fixW x))) (fun i _ => 10 - (intOf i).toNat)
  case atStart => exact ⟨0, by omega, rfl, hb2 _ _, known_cells w1 _ _ _⟩
  case round =>
    obtain ⟨k, hk, rfl, hb, hcells⟩ := hrel
    by_cases hlt : k < 10
    · obtain ⟨x, hx, hc0, hc1⟩ := hcells k hlt
      have hfl : fixW x < 18446744073709551616 := by have := fixW_le x; unfold one at this; omega
      have hfr : rung (fixW x) ≤ inf := by have := fixW_le x; unfold one at this; unfold rung inf; omega
      have HB := Lib.hid hb
      have HC := Lib.hid hcells
      clear hb hcells hb1 hb2
      go_wp2_with fail
      go_quiet (first
        | (go_at_call 16; with_reducible exact quiet_left (fix_any x _ hx))
        | (go_at_call 18; with_reducible exact quiet_left (same_num _ _ hfl hfr)))
      go_wp2
      go_roundw
      case rel => exact ⟨k + 1, by omega, by go_num, below_drewN HB.out _, HC.out⟩
      case measure => simp [intOf]; omega
    · obtain rfl : k = 10 := by omega
      have n1 := nan_ne
      have n2 := nan_ne'
      have n3 := inf_eq1
      have n4 := inf_eq2
      have k1 := wk1
      have k2 := wk2
      have k3 := wk3
      have HB := Lib.hid hb
      clear hb hcells hb1 hb2
      go_wp2_with (first
        | (go_at_call 25; with_reducible refine (mean_k0 _).mono ?_; rintro e w' ⟨rfl, rfl⟩)
        | (go_at_call 25; with_reducible refine (mean_k1 _).mono ?_; rintro e w' ⟨rfl, rfl⟩)
        | (go_at_call 25; with_reducible refine (mean_k2 _ _).mono ?_; rintro e w' ⟨rfl, rfl⟩)
        | (go_at_call 17; with_reducible refine (ratio_nan _).mono ?_; rintro e w' ⟨rfl, rfl⟩)
        | (go_at_call 17; with_reducible refine (ratio_pos 5 _ (by decide)).mono ?_; rintro e w' ⟨rfl, rfl⟩)
        | (go_at_call 17; with_reducible refine (ratio_neg (-5) _ (by decide)).mono ?_; rintro e w' ⟨rfl, rfl⟩)
        | (go_at_call 15; with_reducible refine (worth_any _ _ _ _ (by decide) (by decide)).mono ?_; rintro e w' ⟨rfl, rfl⟩))
      go_ret
      exact ⟨rfl, (HB.out.alloc HB.out.size _).alloc (by have := HB.out.size; simp; omega) _⟩
end Go.Proofs.Ythhgmanoifpoiaa

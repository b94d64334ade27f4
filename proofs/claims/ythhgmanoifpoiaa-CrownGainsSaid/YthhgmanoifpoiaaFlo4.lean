/- The plain law of binary floats: quotients of whole numbers. -/
import Derived.Test.YthhgmanoifpoiaaFlo3
namespace Go.Proofs.Ythhgmanoifpoiaa
open Ieee

theorem nearest_fin (s : Bool) (m : Nat) (p : Int) : rung (double.nearest s m p) ≤ inf ∧ double.nearest s m p < 18446744073709551616 := by
  have key : ∀ r : Nat, r ≤ 9218868437227405312 → rung (double.word s r) ≤ inf ∧ double.word s r < 18446744073709551616 := by
    intro r hr
    unfold Format.word rung inf
    rw [sw_eq]
    split <;> omega
  unfold Format.nearest
  by_cases h0 : m = 0
  · rw [if_pos h0]; exact key 0 (by omega)
  · rw [if_neg h0]
    dsimp only
    rw [inf_eq]
    exact key _ (Nat.min_le_right _ _)

theorem intW_ne {n : Nat} (h : n ≠ 0) : intW n ≠ 0 := by
  unfold intW
  rw [if_neg h]
  have := le_rung (k := 0) (N := n * unit) (r := 1) (by decide) (by
    rw [V_small (by decide)]
    have := int_ne h
    omega)
  omega

/-- A whole number with a sign, as a float. -/
theorem floatOfInt_any {n : Int} (h : n.natAbs ≤ 18446744073709551616) : floatOfInt .f64 n = double.word (decide (n < 0)) (intW n.natAbs) := by
  have hl := intW_lt h
  unfold floatOfInt FloatKind.nearest FloatKind.encode Format.write
  show double.nearest (decide (n < 0)) n.natAbs 0 = _
  unfold intW at hl ⊢
  by_cases h0 : n.natAbs = 0
  · rw [if_pos h0, h0]
    unfold Format.nearest
    rw [if_pos rfl]
  · rw [if_neg h0] at hl ⊢
    rw [nearest_rung _ n.natAbs 0 0 h0 (by omega)]
    have e : ((0 : Int) + 1074 + (0 : Nat)).toNat = 1074 := rfl
    rw [e, inf_eq, pw_eq 1074]
    unfold unit at hl ⊢
    unfold inf at hl
    rw [Nat.min_eq_left (by omega)]

theorem word_rung (s : Bool) {r : Nat} (h : r ≤ inf) : rung (double.word s r) = r ∧ fneg (double.word s r) = s := by
  unfold inf at h
  unfold Format.word rung fneg
  rw [sw_eq]
  cases s
  · simp
    exact ⟨by omega, by rw [Nat.div_eq_of_lt (by omega)]⟩
  · simp
    exact ⟨by omega, by omega⟩

theorem read_int {n : Int} (h : n.natAbs ≤ 18446744073709551616) : ∃ m p, double.read (floatOfInt .f64 n) = .number (decide (n < 0)) m p ∧ (m = 0 ↔ n = 0) := by
  have hl := intW_lt h
  rw [floatOfInt_any h]
  obtain ⟨h1, h2⟩ := word_rung (decide (n < 0)) (Nat.le_of_lt hl)
  obtain ⟨m, p, _, hr, hv⟩ := read_fin (w := double.word (decide (n < 0)) (intW n.natAbs)) (by rw [h1]; exact hl)
  rw [h2] at hr
  rw [h1] at hv
  refine ⟨m, p, hr, fun h0 => ?_, fun h0 => ?_⟩
  · subst h0
    rw [Nat.zero_mul] at hv
    by_cases hn : n = 0
    · exact hn
    · exfalso
      have := V_pos (intW_ne (n := n.natAbs) (by omega))
      omega
  · subst h0
    have e : intW (Int.natAbs 0) = 0 := rfl
    rw [e, V_zero] at hv
    have := Nat.two_pow_pos (p + 1074).toNat
    rcases Nat.eq_zero_or_pos m with hm | hm
    · exact hm
    · exact absurd hv (Nat.ne_of_gt (Nat.mul_pos hm this))

theorem div_some {p r : Int} (hp : p.natAbs ≤ 18446744073709551616) (hr : r.natAbs ≤ 18446744073709551616) (h0 : r ≠ 0) :
    ∃ q, floatBits .quo .f64 (floatOfInt .f64 p) (floatOfInt .f64 r) = some q ∧ rung q ≤ inf ∧ q < 18446744073709551616 := by
  obtain ⟨m, i, h1, _⟩ := read_int hp
  obtain ⟨n, j, h2, h3⟩ := read_int hr
  have hn : n ≠ 0 := fun e => h0 (h3.1 e)
  show ∃ q, double.div _ _ = some q ∧ _
  unfold Format.div
  rw [h1, h2]
  simp only [Datum.quotient, if_neg hn, Option.map_some, Format.write]
  exact ⟨_, rfl, nearest_fin _ _ _⟩

theorem div_zero {p : Int} (hp : p.natAbs ≤ 18446744073709551616) (h0 : p ≠ 0) :
    floatBits .quo .f64 (floatOfInt .f64 p) (floatOfInt .f64 0) = some (if p < 0 then 18442240474082181120 else 9218868437227405312) := by
  obtain ⟨m, i, h1, h4⟩ := read_int hp
  obtain ⟨n, j, h2, h3⟩ := read_int (n := 0) (by decide)
  have hn : n = 0 := h3.2 rfl
  have hm : m ≠ 0 := fun e => h0 (h4.1 e)
  show double.div _ _ = _
  unfold Format.div
  rw [h1, h2]
  simp only [Datum.quotient, if_pos hn, if_neg hm, Option.map_some, Format.write]
  by_cases hs : p < 0
  · rw [decide_eq_true hs, if_pos hs]; rfl
  · rw [decide_eq_false hs, if_neg hs]; rfl

/-- The tests of 'same'. -/
theorem eq_self {x : Nat} (h : rung x ≤ inf) : (double.order x x == some .eq) = true := by rw [order_eq h h, cmp_eq rfl]; rfl
theorem ne_nan {x : Nat} (h : inf < rung x) : (double.order x x != some .eq) = true := by rw [order_nan_left h]; rfl
theorem eq_nan {x y : Nat} (h : inf < rung x) : (double.order x y == some .eq) = false := by rw [order_nan_left h]; rfl

theorem fix_fix (x : Nat) : fixW (fixW x) = fixW x := by
  have h := fixW_le x
  have h1 := rung_pos (Nat.le_trans h one_inf)
  have h2 := one_inf
  have e : fixW (fixW x) = if inf < rung (fixW x) then one else if fneg (fixW x) then 0 else min (rung (fixW x)) one := rfl
  rw [e, h1.1, h1.2, if_neg (by omega), if_neg (by simp), Nat.min_eq_left h]

end Go.Proofs.Ythhgmanoifpoiaa

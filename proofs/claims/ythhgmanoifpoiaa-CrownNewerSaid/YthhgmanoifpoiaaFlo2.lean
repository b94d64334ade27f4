/- The plain law of binary floats, second part: words read, ordered, multiplied; whole numbers. -/
import Derived.Test.YthhgmanoifpoiaaFlo
namespace Go.Proofs.Ythhgmanoifpoiaa
open Ieee

def fneg (w : Nat) : Bool := w / 9223372036854775808 % 2 == 1
def rung (w : Nat) : Nat := w % 9223372036854775808
/-- The rung of infinity. -/
def inf : Nat := 9218868437227405312

theorem sw_eq : double.signWeight = 9223372036854775808 := by decide
theorem bin_eq : double.binade = 4503599627370496 := by decide
theorem inf_eq : double.infRung = 9218868437227405312 := by decide
theorem least_eq : double.leastPlace = -1074 := by decide

theorem read_fin {w : Nat} (h : rung w < inf) : ∃ m p, -1074 ≤ p ∧ double.read w = .number (fneg w) m p ∧ m * 2 ^ (p + 1074).toNat = V (rung w) := by
  unfold Format.read
  simp only [sw_eq, bin_eq, inf_eq, least_eq]
  unfold rung inf at h
  unfold rung fneg
  generalize w % 9223372036854775808 = r at *
  by_cases h1 : r < 4503599627370496
  · rw [if_pos h1]
    exact ⟨_, _, by omega, rfl, by rw [V_small (by omega)]; simp⟩
  · rw [if_neg h1, if_pos h]
    refine ⟨_, _, by omega, rfl, ?_⟩
    unfold V
    by_cases h2 : r < 2 ^ 53
    · rw [if_pos h2]
      have e : r / 4503599627370496 = 1 := by omega
      rw [e]
      simp
      omega
    · rw [if_neg h2]
      have e : (-1074 + ((r / 4503599627370496 - 1 : Nat) : Int) + 1074).toNat = r / 2 ^ 52 - 1 := by omega
      rw [e]

theorem read_inf {w : Nat} (h : rung w = inf) : double.read w = .infinity (fneg w) := by
  unfold Format.read
  simp only [sw_eq, bin_eq, inf_eq, least_eq]
  unfold rung inf at h
  unfold fneg
  generalize w % 9223372036854775808 = r at *
  subst h
  rfl

theorem read_nan {w : Nat} (h : inf < rung w) : ∃ f, double.read w = .nan (fneg w) f := by
  unfold Format.read
  simp only [sw_eq, bin_eq, inf_eq, least_eq]
  unfold rung inf at h
  unfold fneg
  generalize w % 9223372036854775808 = r at *
  rw [if_neg (by omega), if_neg (by omega), if_neg (by omega)]
  exact ⟨_, rfl⟩

/-- The value with its sign. -/
def sv (w : Nat) : Int := if fneg w then -(V (rung w) : Int) else (V (rung w) : Int)

theorem compare_scale (a b : Int) (c : Nat) (hc : 0 < c) : compare (a * c) (b * c) = compare a b := by
  have h1 : (a * c < b * c) ↔ a < b := Int.mul_lt_mul_right (by omega)
  have h2 : (a * c = b * c) ↔ a = b := Int.mul_eq_mul_right_iff (by omega)
  show compareOfLessAndEq _ _ = compareOfLessAndEq _ _
  unfold compareOfLessAndEq
  simp only [h1, h2]

theorem signed_scale {v : Nat} (s : Bool) (m up t : Nat) (h : m * 2 ^ (up + t) = v) : Ieee.signed s m up * (2 ^ t : Nat) = if s then -(v : Int) else (v : Int) := by
  subst h
  unfold Ieee.signed
  rw [Nat.shiftLeft_eq, Nat.pow_add]
  cases s <;> simp [Int.mul_assoc, Int.neg_mul]

theorem cmp_lt {a b : Int} (h : a < b) : compare a b = .lt := by
  show compareOfLessAndEq _ _ = _
  unfold compareOfLessAndEq
  rw [if_pos h]
theorem cmp_gt {a b : Int} (h : b < a) : compare a b = .gt := by
  show compareOfLessAndEq _ _ = _
  unfold compareOfLessAndEq
  rw [if_neg (by omega), if_neg (by omega)]
theorem cmp_eq {a b : Int} (h : a = b) : compare a b = .eq := by
  show compareOfLessAndEq _ _ = _
  unfold compareOfLessAndEq
  rw [if_neg (by omega), if_pos h]

/-- Words that are no NaN stand to each other as their values do. -/
theorem order_eq {x y : Nat} (hx : rung x ≤ inf) (hy : rung y ≤ inf) : double.order x y = some (compare (sv x) (sv y)) := by
  unfold Format.order
  rcases Nat.lt_or_eq_of_le hx with hx | hx <;> rcases Nat.lt_or_eq_of_le hy with hy | hy
  · obtain ⟨m, i, hi, h1, h2⟩ := read_fin hx
    obtain ⟨n, j, hj, h3, h4⟩ := read_fin hy
    rw [h1, h3]
    simp only [Datum.order]
    congr 1
    rw [← compare_scale _ _ (2 ^ (min i j + 1074).toNat) (Nat.two_pow_pos _)]
    rw [signed_scale (v := V (rung x)) _ _ _ _ (by rw [← h2]; congr 2; omega), signed_scale (v := V (rung y)) _ _ _ _ (by rw [← h4]; congr 2; omega)]
    rfl
  · obtain ⟨m, i, hi, h1, h2⟩ := read_fin hx
    rw [h1, read_inf hy]
    have hv := V_lt hx
    unfold sv
    rw [hy]
    cases fneg x <;> cases fneg y <;> simp [Datum.order] <;> first | (rw [cmp_lt]; omega) | (rw [cmp_gt]; omega)
  · obtain ⟨m, i, hi, h1, h2⟩ := read_fin hy
    rw [h1, read_inf hx]
    have hv := V_lt hy
    unfold sv
    rw [hx]
    cases fneg x <;> cases fneg y <;> simp [Datum.order] <;> first | (rw [cmp_lt]; omega) | (rw [cmp_gt]; omega)
  · rw [read_inf hx, read_inf hy]
    unfold sv
    rw [hx, hy]
    have hp : 0 < V inf := by have := V_lt (show 0 < inf by decide); omega
    cases fneg x <;> cases fneg y <;> simp [Datum.order] <;> first | (rw [cmp_eq rfl]; rfl) | (rw [cmp_lt]; rfl; omega) | (rw [cmp_gt]; rfl; omega) | (rw [cmp_lt]; omega) | (rw [cmp_gt]; omega)

theorem order_nan_left {x y : Nat} (hx : inf < rung x) : double.order x y = none := by
  obtain ⟨f, h⟩ := read_nan hx
  unfold Format.order
  rw [h]; rfl
theorem order_nan_right {x y : Nat} (hy : inf < rung y) : double.order x y = none := by
  obtain ⟨f, h⟩ := read_nan hy
  unfold Format.order
  rw [h]
  cases double.read x <;> rfl

/-- A product of two finite words without a sign. -/
theorem mul_pos_words {x y : Nat} (sx : fneg x = false) (sy : fneg y = false) (hx : rung x < inf) (hy : rung y < inf) :
    double.mul x y = some (if V (rung x) * V (rung y) = 0 then 0 else min (rungN 1074 (V (rung x) * V (rung y))) inf) := by
  obtain ⟨m, i, hi, h1, h2⟩ := read_fin hx
  obtain ⟨n, j, hj, h3, h4⟩ := read_fin hy
  unfold Format.mul
  rw [h1, h3, sx, sy]
  simp only [Datum.product, Option.map_some, Format.write]
  congr 1
  have hv : m * n * 2 ^ (i + j + 1074 + (1074 : Nat)).toNat = V (rung x) * V (rung y) := by
    rw [← h2, ← h4]
    have e : (i + j + 1074 + (1074 : Nat)).toNat = (i + 1074).toNat + (j + 1074).toNat := by omega
    rw [e, Nat.pow_add]
    generalize 2 ^ (i + 1074).toNat = a
    generalize 2 ^ (j + 1074).toNat = b
    rw [Nat.mul_assoc, Nat.mul_assoc, Nat.mul_left_comm n, ← Nat.mul_assoc m]
  by_cases h0 : m * n = 0
  · rw [h0, Nat.zero_mul] at hv
    rw [h0, ← hv, if_pos rfl]
    unfold Format.nearest
    rw [if_pos rfl]; rfl
  · have hp := Nat.two_pow_pos (i + j + 1074 + (1074 : Nat)).toNat
    rw [nearest_rung _ _ _ 1074 h0 (by omega), hv, if_neg (by rw [← hv]; exact Nat.mul_ne_zero h0 (by omega))]
    simp [Format.word, inf_eq, inf]

end Go.Proofs.Ythhgmanoifpoiaa

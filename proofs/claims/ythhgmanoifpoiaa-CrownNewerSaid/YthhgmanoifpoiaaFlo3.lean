/- The plain law of gain: what Fix, Worth and Ratio come to, over words. -/
import Derived.Test.YthhgmanoifpoiaaFlo2
import Derived.Laws.FloatArith
namespace Go.Proofs.Ythhgmanoifpoiaa
open Ieee

def one : Nat := 4607182418800017408

/-- The order of two doubles, closed to the walk's simp. -/
theorem fmt (x y : Nat) : FloatKind.f64.format.order x y = double.order x y := rfl

def fixW (x : Nat) : Nat := if inf < rung x then one else if fneg x then 0 else min (rung x) one

theorem fixW_le (x : Nat) : fixW x ≤ one := by
  unfold fixW
  split
  · exact Nat.le_refl _
  · split
    · unfold one; omega
    · exact Nat.min_le_right _ _

theorem rung_pos {w : Nat} (h : w ≤ inf) : rung w = w ∧ fneg w = false := by
  unfold rung fneg
  unfold inf at h
  have h1 : w % 9223372036854775808 = w := Nat.mod_eq_of_lt (by omega)
  have h2 : w / 9223372036854775808 = 0 := Nat.div_eq_of_lt (by omega)
  rw [h1, h2]
  exact ⟨rfl, rfl⟩

theorem one_inf : one ≤ inf := by unfold one inf; omega
theorem V_zero : V 0 = 0 := V_small (by decide)
theorem V_pos {r : Nat} (h : r ≠ 0) : 0 < V r := by
  have := V_lt (show 0 < r by omega)
  rw [V_zero] at this; exact this

theorem word_parts {x : Nat} (hx : x < 18446744073709551616) : x = (if fneg x then 9223372036854775808 else 0) + rung x := by
  unfold fneg rung
  by_cases h : x < 9223372036854775808
  · have h2 : x / 9223372036854775808 = 0 := Nat.div_eq_of_lt h
    rw [h2]; simp; omega
  · have h2 : x / 9223372036854775808 = 1 := by omega
    rw [h2]; simp; omega

theorem sv_pos {w : Nat} (h : w ≤ inf) : sv w = (V w : Int) := by
  obtain ⟨h1, h2⟩ := rung_pos h
  unfold sv; rw [h2, h1]; rfl

/-- The four cases of Fix, as its tests have them. -/
theorem fix_cases (x : Nat) (hx : x < 18446744073709551616) :
    ((double.order x x != some .eq) = true ∧ fixW x = one) ∨
    ((double.order x x != some .eq) = false ∧ (double.order x 4607182418800017408 == some .gt) = true ∧ fixW x = one) ∨
    ((double.order x x != some .eq) = false ∧ (double.order x 4607182418800017408 == some .gt) = false ∧ (double.order x 0 == some .lt || double.order x 0 == some .eq) = true ∧ fixW x = 0) ∨
    ((double.order x x != some .eq) = false ∧ (double.order x 4607182418800017408 == some .gt) = false ∧ (double.order x 0 == some .lt || double.order x 0 == some .eq) = false ∧ fixW x = x) := by
  by_cases hn : inf < rung x
  · left
    rw [order_nan_left hn]
    unfold fixW; rw [if_pos hn]
    exact ⟨rfl, rfl⟩
  right
  have hn' : rung x ≤ inf := by omega
  have hxx : (double.order x x != some .eq) = false := by rw [order_eq hn' hn', cmp_eq rfl]; rfl
  have ho : rung one ≤ inf := by rw [(rung_pos one_inf).1]; exact one_inf
  have hz : rung 0 ≤ inf := by rw [(rung_pos (Nat.zero_le _)).1]; exact Nat.zero_le _
  have s1 : sv one = (V one : Int) := sv_pos one_inf
  have s0 : sv 0 = 0 := by rw [sv_pos (Nat.zero_le _), V_zero]; rfl
  by_cases hs : fneg x = true
  · right; left
    have hle : sv x ≤ 0 := by unfold sv; rw [hs]; simp
    have hp := V_pos (show one ≠ 0 by decide)
    refine ⟨hxx, ?_, ?_, ?_⟩
    · show (double.order x one == some .gt) = false
      rw [order_eq hn' ho, s1, cmp_lt (by omega)]; rfl
    · rw [order_eq hn' hz, s0]
      rcases Int.lt_or_eq_of_le hle with h | h
      · rw [cmp_lt h]; rfl
      · rw [cmp_eq h]; rfl
    · unfold fixW; rw [if_neg hn, if_pos hs]
  · have hs' : fneg x = false := by simpa using hs
    have hv : sv x = (V (rung x) : Int) := by unfold sv; rw [hs']; rfl
    have hxr : x = rung x := by have := word_parts hx; rw [hs'] at this; simpa using this
    by_cases hg : one < rung x
    · left
      have := V_lt hg
      refine ⟨hxx, ?_, ?_⟩
      · show (double.order x one == some .gt) = true
        rw [order_eq hn' ho, hv, s1, cmp_gt (by omega)]; rfl
      · unfold fixW; rw [if_neg hn, if_neg (by rw [hs']; simp), Nat.min_eq_right (by omega)]
    · have h1 := V_le (show rung x ≤ one by omega)
      have hng : (double.order x one == some .gt) = false := by
        rw [order_eq hn' ho, hv, s1]
        rcases Nat.lt_or_eq_of_le h1 with h | h
        · rw [cmp_lt (by omega)]; rfl
        · rw [cmp_eq (by omega)]; rfl
      by_cases h0 : rung x = 0
      · right; left
        refine ⟨hxx, hng, ?_, ?_⟩
        · rw [order_eq hn' hz, hv, h0, s0, V_zero]; rfl
        · unfold fixW; rw [if_neg hn, if_neg (by rw [hs']; simp), h0]; rfl
      · right; right
        refine ⟨hxx, hng, ?_, ?_⟩
        · have := V_pos h0
          rw [order_eq hn' hz, hv, s0, cmp_gt (by omega)]; rfl
        · unfold fixW; rw [if_neg hn, if_neg (by rw [hs']; simp), Nat.min_eq_left (by omega)]; exact hxr.symm

/-- On words without a sign that are no NaN the order is that of the rungs. -/
theorem leq_words {a b : Nat} (ha : a ≤ inf) (hb : b ≤ inf) : (double.order a b == some .lt || double.order a b == some .eq) = decide (a ≤ b) := by
  rw [order_eq (by rw [(rung_pos ha).1]; exact ha) (by rw [(rung_pos hb).1]; exact hb), sv_pos ha, sv_pos hb]
  rcases Nat.lt_trichotomy a b with h | h | h
  · rw [cmp_lt (by have := V_lt h; omega), decide_eq_true (by omega)]; rfl
  · subst h; rw [cmp_eq rfl, decide_eq_true (by omega)]; rfl
  · rw [cmp_gt (by have := V_lt h; omega), decide_eq_false (by omega)]; rfl

/-- One, in units of 2^-1074. -/
@[irreducible] def pw (e : Nat) : Nat := 2 ^ e
theorem pw_eq (e : Nat) : 2 ^ e = pw e := by unfold pw; rfl
theorem pw_pos (e : Nat) : 0 < pw e := by unfold pw; exact Nat.two_pow_pos e
theorem pw_add (a b : Nat) : pw (a + b) = pw a * pw b := by unfold pw; exact Nat.pow_add 2 a b
def unit : Nat := pw 1074
theorem unit_pos : 0 < unit := pw_pos 1074
/-- A whole number as a float. -/
def intW (n : Nat) : Nat := if n = 0 then 0 else rungN 0 (n * unit)

theorem pow_swap (a b c d : Nat) (h : a + b = c + d) : pw a * pw b = pw c * pw d := by rw [← pw_add, ← pw_add, h]
theorem V_big (q : Nat) (hq : 2 ≤ q) : V (q * 2 ^ 52) = pw 52 * pw (q - 1) := by
  unfold V
  rw [if_neg (by omega), Nat.mul_mod_left, Nat.mul_div_cancel _ (Nat.two_pow_pos 52), ← pw_eq, ← pw_eq]

/-- The rung of 2^64. -/
theorem V_64 : V 4895412794951729152 = pw 64 * unit := by
  have h := V_big 1087 (by decide)
  have e : 1087 * 2 ^ 52 = 4895412794951729152 := by decide
  rw [e] at h
  rw [h]
  exact pow_swap 52 1086 64 1074 rfl

theorem int_ne {n : Nat} (h : n ≠ 0) : n * unit ≠ 0 := Nat.mul_ne_zero h (by have := unit_pos; omega)

theorem intW_lt {n : Nat} (h : n ≤ 18446744073709551616) : intW n < inf := by
  unfold intW
  split
  · decide
  · rename_i h0
    have hv : 18446744073709551616 * unit = V 4895412794951729152 * 2 ^ 0 := by
      have : pw 64 = 18446744073709551616 := by unfold pw; rfl
      rw [V_64, Nat.pow_zero, Nat.mul_one, this]
    have := rung_le (k := 0) (N := n * unit) (r := 4895412794951729152) (int_ne h0) (Nat.le_trans (Nat.mul_le_mul_right _ h) (Nat.le_of_eq hv))
    unfold inf; omega

theorem floatOfInt_word {n : Nat} (h : n ≤ 18446744073709551616) : floatOfInt .f64 (n : Int) = intW n := by
  have hl := intW_lt h
  unfold floatOfInt FloatKind.nearest FloatKind.encode Format.write
  show double.nearest (decide ((n : Int) < 0)) (n : Int).natAbs 0 = _
  rw [decide_eq_false (by omega), Int.natAbs_natCast]
  unfold intW at hl ⊢
  by_cases h0 : n = 0
  · rw [if_pos h0, h0]
    unfold Format.nearest
    rw [if_pos rfl]; rfl
  · rw [if_neg h0] at hl ⊢
    rw [nearest_rung false n 0 0 h0 (by omega)]
    have e : ((0 : Int) + 1074 + (0 : Nat)).toNat = 1074 := rfl
    rw [e, inf_eq]
    rw [pw_eq 1074]
    unfold unit at hl ⊢
    unfold inf at hl
    rw [Nat.min_eq_left (by omega)]
    rfl

theorem intW_mono {n m : Nat} (h : n ≤ m) : intW n ≤ intW m := by
  unfold intW
  by_cases h0 : n = 0
  · rw [if_pos h0]; exact Nat.zero_le _
  · rw [if_neg h0, if_neg (by omega)]
    exact rungN_mono (int_ne h0) (Nat.mul_le_mul_right _ h)

/-- The product of two words without a sign. -/
def prodW (a b : Nat) : Nat := if V a * V b = 0 then 0 else min (rungN 1074 (V a * V b)) inf

theorem prodW_le (a b : Nat) : prodW a b ≤ inf := by
  unfold prodW; split
  · exact Nat.zero_le _
  · exact Nat.min_le_right _ _

theorem mulBits {a b : Nat} (ha : a < inf) (hb : b < inf) : floatBits .mul .f64 a b = some (prodW a b) := by
  obtain ⟨h1, h2⟩ := rung_pos (Nat.le_of_lt ha)
  obtain ⟨h3, h4⟩ := rung_pos (Nat.le_of_lt hb)
  have := mul_pos_words (x := a) (y := b) h2 h4 (by rw [h1]; exact ha) (by rw [h3]; exact hb)
  rw [h1, h3] at this
  exact this

theorem prodW_mono {a a' b : Nat} (h : a ≤ a') : prodW a b ≤ prodW a' b := by
  have hv := Nat.mul_le_mul_right (V b) (V_le h)
  unfold prodW
  by_cases h0 : V a * V b = 0
  · rw [if_pos h0]; exact Nat.zero_le _
  · rw [if_neg h0, if_neg (by omega)]
    have := rungN_mono (k := 1074) h0 hv
    omega

/-- Worth, over words. -/
def worthB (x : Nat) (p r : Int) : Bool := decide (0 ≤ p ∧ 0 < r ∧ p < r ∧ intW p.toNat ≤ prodW (fixW x) (intW r.toNat))

theorem worth_in {x : Nat} {p r : Int} (h : worthB x p r = true) : 0 ≤ p ∧ 0 < r ∧ p < r ∧ intW p.toNat ≤ prodW (fixW x) (intW r.toNat) := of_decide_eq_true h
theorem worth_mono {x y : Nat} {p r : Int} (h : worthB x p r = true) (hf : fixW x ≤ fixW y) : worthB y p r = true := by
  obtain ⟨h1, h2, h3, h4⟩ := worth_in h
  exact decide_eq_true ⟨h1, h2, h3, Nat.le_trans h4 (prodW_mono hf)⟩
theorem worth_less {x : Nat} {p r : Int} (h : worthB x p r = true) (hp : p ≠ 0) : worthB x (p - 1) r = true := by
  obtain ⟨h1, h2, h3, h4⟩ := worth_in h
  exact decide_eq_true ⟨by omega, h2, by omega, Nat.le_trans (intW_mono (by omega)) h4⟩
theorem worth_same (x : Nat) (r : Int) : worthB x r r = false := decide_eq_false (by omega)
theorem worth_neg (x : Nat) (r : Int) : worthB x (-1) r = false := decide_eq_false (by omega)

end Go.Proofs.Ythhgmanoifpoiaa

/- The plain law of binary floats: sums, exact values, the quotient of two small whole numbers. -/
import Derived.Test.YthhgmanoifpoiaaFlo4
namespace Go.Proofs.Ythhgmanoifpoiaa
open Ieee

theorem read_mag {w : Nat} {s : Bool} {m : Nat} {p : Int} (h : double.read w = .number s m p) : m < 9007199254740992 := by
  unfold Format.read at h
  simp only [sw_eq, bin_eq, inf_eq, least_eq] at h
  split at h
  · injection h with _ h2 _; omega
  · split at h
    · injection h with _ h2 _; omega
    · split at h <;> cases h

theorem V_num (r : Nat) : V r = if r < 9007199254740992 then r else (4503599627370496 + r % 4503599627370496) * pw (r / 4503599627370496 - 1) := by
  unfold V pw
  rfl
theorem pw_zero : pw 0 = 1 := by unfold pw; rfl
theorem pw_one : pw 1 = 2 := by unfold pw; rfl
theorem V_bin (c z : Nat) (h1 : 4503599627370496 ≤ z) (h2 : z ≤ 9007199254740992) : V (c * 4503599627370496 + z) = z * pw c := by
  rw [V_num]
  rcases Nat.lt_or_eq_of_le h2 with hz | hz
  · by_cases h53 : c * 4503599627370496 + z < 9007199254740992
    · rw [if_pos h53]
      have e : c = 0 := by omega
      rw [e, pw_zero]
      omega
    · rw [if_neg h53]
      have d1 : (c * 4503599627370496 + z) / 4503599627370496 - 1 = c := by omega
      have d2 : 4503599627370496 + (c * 4503599627370496 + z) % 4503599627370496 = z := by omega
      rw [d1, d2]
  · rw [if_neg (by omega)]
    have d1 : (c * 4503599627370496 + z) / 4503599627370496 - 1 = 1 + c := by omega
    have d2 : 4503599627370496 + (c * 4503599627370496 + z) % 4503599627370496 = 4503599627370496 := by omega
    rw [d1, d2, pw_add, pw_one, ← Nat.mul_assoc, hz]

/-- n * 2^e is a float's value. -/
theorem V_exact (n e : Nat) (h0 : 0 < n) (hn : n < 9007199254740992) : ∃ r, r ≠ 0 ∧ V r = n * pw e := by
  have hl : n.log2 < 53 := (Nat.log2_lt (by omega)).2 (by omega)
  have h1 : 2 ^ n.log2 ≤ n := Nat.log2_self_le (by omega)
  have h2 : n < 2 ^ (n.log2 + 1) := Nat.lt_log2_self
  by_cases hs : n.log2 + e < 52
  · have hb : n * pw e < 2 ^ 53 := by
      have a1 : n * pw e < 2 ^ (n.log2 + 1) * pw e := Nat.mul_lt_mul_of_pos_right h2 (pw_pos e)
      have a2 : 2 ^ (n.log2 + 1) * pw e = 2 ^ (n.log2 + 1 + e) := by rw [← pw_eq e, ← Nat.pow_add]
      have a3 : 2 ^ (n.log2 + 1 + e) ≤ 2 ^ 53 := Nat.pow_le_pow_right (by decide) (by omega)
      omega
    exact ⟨n * pw e, Nat.ne_of_gt (Nat.mul_pos h0 (pw_pos e)), V_small hb⟩
  · have k1 : 2 ^ 52 ≤ n * 2 ^ (52 - n.log2) := by
      have a1 : 2 ^ n.log2 * 2 ^ (52 - n.log2) ≤ n * 2 ^ (52 - n.log2) := Nat.mul_le_mul_right _ h1
      rw [← Nat.pow_add, show n.log2 + (52 - n.log2) = 52 by omega] at a1
      exact a1
    have k2 : n * 2 ^ (52 - n.log2) < 2 ^ 53 := by
      have a1 : n * 2 ^ (52 - n.log2) < 2 ^ (n.log2 + 1) * 2 ^ (52 - n.log2) := Nat.mul_lt_mul_of_pos_right h2 (Nat.two_pow_pos _)
      rw [← Nat.pow_add, show n.log2 + 1 + (52 - n.log2) = 53 by omega] at a1
      exact a1
    generalize hg : n * 2 ^ (52 - n.log2) = g at *
    have hv : g * pw (n.log2 + e - 52) = n * pw e := by
      rw [← hg, pw_eq, Nat.mul_assoc, ← pw_add]
      congr 2
      omega
    refine ⟨(n.log2 + e - 52) * 4503599627370496 + g, by omega, ?_⟩
    rw [V_bin _ _ (by omega) (by omega), hv]

theorem V_round (n e : Nat) (h0 : 0 < n) (hn : n < 9007199254740992) : V (rungN 0 (n * pw e)) = n * pw e := by
  obtain ⟨r, hr, hv⟩ := V_exact n e h0 hn
  have := rungN_V 0 r hr
  rw [Nat.pow_zero, Nat.mul_one] at this
  rw [← hv, this]

theorem V_intW {n : Nat} (hn : n < 9007199254740992) : V (intW n) = n * unit := by
  unfold intW
  by_cases h0 : n = 0
  · rw [if_pos h0, h0, V_zero, Nat.zero_mul]
  · rw [if_neg h0]; exact V_round n 1074 (by omega) hn

/-- A sum, a difference of two words without a sign. -/
theorem addBits {a b : Nat} (ha : a < inf) (hb : b < inf) (h : V a + V b ≠ 0) : floatBits .add .f64 a b = some (min (rungN 0 (V a + V b)) inf) := by
  obtain ⟨a1, a2⟩ := rung_pos (Nat.le_of_lt ha)
  obtain ⟨b1, b2⟩ := rung_pos (Nat.le_of_lt hb)
  obtain ⟨m, i, hi, h1, h2⟩ := read_fin (w := a) (by rw [a1]; exact ha)
  obtain ⟨n, j, hj, h3, h4⟩ := read_fin (w := b) (by rw [b1]; exact hb)
  rw [a1] at h2
  rw [b1] at h4
  show double.add a b = _
  unfold Format.add
  rw [h1, h3, a2, b2]
  simp only [Datum.sum, Option.map_some, Format.write]
  congr 1
  have s1 : Ieee.signed false m (i - min i j).toNat = ((m * 2 ^ (i - min i j).toNat : Nat) : Int) := by unfold Ieee.signed; rw [Nat.shiftLeft_eq]; rfl
  have s2 : Ieee.signed false n (j - min i j).toNat = ((n * 2 ^ (j - min i j).toNat : Nat) : Int) := by unfold Ieee.signed; rw [Nat.shiftLeft_eq]; rfl
  rw [s1, s2]
  have hs : (m * 2 ^ (i - min i j).toNat + n * 2 ^ (j - min i j).toNat) * 2 ^ (min i j + 1074 + (0 : Nat)).toNat = V a + V b := by
    rw [Nat.add_mul, Nat.mul_assoc, Nat.mul_assoc, ← Nat.pow_add, ← Nat.pow_add, ← h2, ← h4]
    congr 3 <;> omega
  generalize m * 2 ^ (i - min i j).toNat = x at *
  generalize n * 2 ^ (j - min i j).toNat = y at *
  have hxy : x + y ≠ 0 := by intro e; rw [e, Nat.zero_mul] at hs; exact h hs.symm
  have e1 : ((x : Int) + (y : Int)).natAbs = x + y := by omega
  have e2 : (if (x : Int) + (y : Int) = 0 then false && false else decide ((x : Int) + (y : Int) < 0)) = false := by
    rw [if_neg (by omega), decide_eq_false (by omega)]
  rw [e1, e2, nearest_rung _ _ _ 0 hxy (by omega), hs]
  simp [Format.word, inf_eq, inf]

theorem subBits {a b : Nat} (ha : a < inf) (hb : b < inf) (h : V b < V a) : floatBits .sub .f64 a b = some (min (rungN 0 (V a - V b)) inf) := by
  obtain ⟨a1, a2⟩ := rung_pos (Nat.le_of_lt ha)
  obtain ⟨b1, b2⟩ := rung_pos (Nat.le_of_lt hb)
  obtain ⟨m, i, hi, h1, h2⟩ := read_fin (w := a) (by rw [a1]; exact ha)
  obtain ⟨n, j, hj, h3, h4⟩ := read_fin (w := b) (by rw [b1]; exact hb)
  rw [a1] at h2
  rw [b1] at h4
  show double.sub a b = _
  unfold Format.sub
  rw [h1, h3, a2, b2]
  simp only [Datum.opposite, Datum.sum, Option.map_some, Format.write]
  congr 1
  have s1 : Ieee.signed false m (i - min i j).toNat = ((m * 2 ^ (i - min i j).toNat : Nat) : Int) := by unfold Ieee.signed; rw [Nat.shiftLeft_eq]; rfl
  have s2 : Ieee.signed (!false) n (j - min i j).toNat = -((n * 2 ^ (j - min i j).toNat : Nat) : Int) := by unfold Ieee.signed; rw [Nat.shiftLeft_eq]; rfl
  rw [s1, s2]
  have hx : m * 2 ^ (i - min i j).toNat * 2 ^ (min i j + 1074 + (0 : Nat)).toNat = V a := by
    rw [Nat.mul_assoc, ← Nat.pow_add, ← h2]
    congr 2; omega
  have hy : n * 2 ^ (j - min i j).toNat * 2 ^ (min i j + 1074 + (0 : Nat)).toNat = V b := by
    rw [Nat.mul_assoc, ← Nat.pow_add, ← h4]
    congr 2; omega
  generalize m * 2 ^ (i - min i j).toNat = x at *
  generalize n * 2 ^ (j - min i j).toNat = y at *
  have hlt : y < x := by
    rcases Nat.lt_or_ge y x with hlt | hge
    · exact hlt
    · have := Nat.mul_le_mul_right (2 ^ (min i j + 1074 + (0 : Nat)).toNat) hge
      omega
  have e1 : ((x : Int) + -(y : Int)).natAbs = x - y := by omega
  have e2 : (if (x : Int) + -(y : Int) = 0 then false && !false else decide ((x : Int) + -(y : Int) < 0)) = false := by
    rw [if_neg (by omega), decide_eq_false (by omega)]
  rw [e1, e2, nearest_rung _ _ _ 0 (by omega) (by omega), Nat.sub_mul, hx, hy]
  simp [Format.word, inf_eq, inf]

theorem rel_close {w N g : Nat} (h1 : 2 * w ≤ 2 * N + g) (h2 : 2 * N ≤ 2 * w + g) (hg : g * 4503599627370496 ≤ N) :
    w * 9007199254740992 ≤ N * 9007199254740993 ∧ N * 9007199254740991 ≤ w * 9007199254740992 := by omega

/-- Rounding moves a number that is not too small by at most 2^-53 of it. -/
theorem rel {k N : Nat} (h : 2 ^ (k + 52) ≤ N) : V (rungN k N) * pw k * 9007199254740992 ≤ N * 9007199254740993 ∧ N * 9007199254740991 ≤ V (rungN k N) * pw k * 9007199254740992 := by
  have hN : N ≠ 0 := by have := Nat.two_pow_pos (k + 52); omega
  have hl : k + 52 ≤ N.log2 := (Nat.le_log2 hN).2 h
  have h1 : 2 ^ N.log2 ≤ N := Nat.log2_self_le hN
  have h2 : N < 2 ^ (N.log2 + 1) := Nat.lt_log2_self
  unfold rungN
  have hd : max (N.log2 - 52) k = N.log2 - 52 := by omega
  rw [hd]
  generalize hdd : N.log2 - 52 = d at *
  have hlog : N.log2 = d + 52 := by omega
  rw [hlog] at h1 h2
  have hp := Nat.two_pow_pos d
  have lo : 2 ^ 52 ≤ N / 2 ^ d := by
    rw [Nat.le_div_iff_mul_le hp, ← Nat.pow_add, Nat.add_comm 52 d]; exact h1
  have hi : N / 2 ^ d < 2 ^ 53 := by
    rw [Nat.div_lt_iff_lt_mul hp, ← Nat.pow_add, Nat.add_comm 53 d]; exact h2
  have hm := Nat.div_add_mod N (2 ^ d)
  have hr := Nat.mod_lt N hp
  have hg : 2 ^ d * 2 ^ 52 ≤ N := by rw [← Nat.pow_add]; exact h1
  obtain ⟨z, hz, z1, z2, z3, z4⟩ : ∃ z, rne N (2 ^ d) = z ∧ 4503599627370496 ≤ z ∧ z ≤ 9007199254740992 ∧ 2 * (2 ^ d * z) ≤ 2 * N + 2 ^ d ∧ 2 * N ≤ 2 * (2 ^ d * z) + 2 ^ d := by
    refine ⟨_, rfl, ?_⟩
    unfold rne
    generalize N / 2 ^ d = x at *
    generalize N % 2 ^ d = y at *
    generalize 2 ^ d = g at *
    by_cases c : g < 2 * y ∨ (g = 2 * y ∧ x % 2 = 1)
    · rw [if_pos c]
      have e : g * (x + 1) = g * x + g := by rw [Nat.mul_add, Nat.mul_one]
      rw [e]
      generalize g * x = w at *
      refine ⟨by omega, by omega, by omega, by omega⟩
    · rw [if_neg c, Nat.add_zero]
      generalize g * x = w at *
      refine ⟨by omega, by omega, by omega, by omega⟩
  rw [hz]
  have hV : V ((d - k) * 4503599627370496 + z) * pw k = 2 ^ d * z := by
    have hk : pw d = pw (d - k) * pw k := by rw [← pw_add]; congr 1; omega
    rw [pw_eq d, hk, V_bin _ _ z1 z2]
    generalize pw (d - k) = x
    generalize pw k = y
    rw [Nat.mul_comm z, Nat.mul_assoc, Nat.mul_comm z, ← Nat.mul_assoc]
  have e52 : (d - k) * 2 ^ 52 = (d - k) * 4503599627370496 := rfl
  rw [e52, hV]
  exact rel_close z3 z4 hg

end Go.Proofs.Ythhgmanoifpoiaa

/- The plain law of binary floats: rounding is monotone and leaves what is a float alone; order is that of the values. No program in sight. -/
import Ieee.Arith
namespace Go.Proofs.Ythhgmanoifpoiaa
open Ieee

/-- n by g, to the nearest, between two the even one. -/
def rne (n g : Nat) : Nat := n / g + (if g < 2 * (n % g) ∨ (g = 2 * (n % g) ∧ n / g % 2 = 1) then 1 else 0)

theorem rne_lo (n g : Nat) : n / g ≤ rne n g := by unfold rne; omega
theorem rne_hi (n g : Nat) : rne n g ≤ n / g + 1 := by unfold rne; split <;> omega

theorem rne_mono {n m g : Nat} (h : n ≤ m) : rne n g ≤ rne m g := by
  rcases Nat.lt_or_ge (n / g) (m / g) with hq | hq
  · exact Nat.le_trans (rne_hi n g) (Nat.le_trans hq (rne_lo m g))
  · have e : n / g = m / g := Nat.le_antisymm (Nat.div_le_div_right h) hq
    have hr : n % g ≤ m % g := by
      have h1 := Nat.div_add_mod n g
      have h2 := Nat.div_add_mod m g
      rw [e] at h1
      omega
    unfold rne
    rw [e]
    by_cases c : g < 2 * (n % g) ∨ (g = 2 * (n % g) ∧ m / g % 2 = 1)
    · rw [if_pos c, if_pos (by omega)]; omega
    · rw [if_neg c]; omega

theorem rne_scale (n g c : Nat) (hc : 0 < c) : rne (n * c) (g * c) = rne n g := by
  unfold rne
  rw [Nat.mul_div_mul_right _ _ hc, Nat.mul_mod_mul_right]
  have e1 : (g * c < 2 * (n % g * c)) ↔ g < 2 * (n % g) := by
    rw [← Nat.mul_assoc]; exact Nat.mul_lt_mul_right hc
  have e2 : (g * c = 2 * (n % g * c)) ↔ g = 2 * (n % g) := by
    rw [← Nat.mul_assoc]; exact Nat.mul_left_inj (by omega)
  simp only [e1, e2]

theorem rne_whole (k g : Nat) (hg : 0 < g) : rne (k * g) g = k := by
  unfold rne
  rw [Nat.mul_div_cancel _ hg, Nat.mul_mod_left]
  rw [if_neg (by omega)]
  rfl

theorem cut_even (neg : Bool) (n drop : Nat) : Toward.even.cut neg n drop = rne n (2 ^ drop) := by
  have hn : n < 2 ^ (n.log2 + 1) := Nat.lt_log2_self
  have core (g : Nat) : (n / g + (decide (g < 2 * (n % g)) || (g == 2 * (n % g) && n / g % 2 == 1)).toNat) = rne n g := by
    unfold rne
    have e : (decide (g < 2 * (n % g)) || (g == 2 * (n % g) && n / g % 2 == 1)) = decide (g < 2 * (n % g) ∨ (g = 2 * (n % g) ∧ n / g % 2 = 1)) := by
      rw [Bool.eq_iff_iff]; simp
    rw [e]
    by_cases c : g < 2 * (n % g) ∨ (g = 2 * (n % g) ∧ n / g % 2 = 1)
    · rw [decide_eq_true c, if_pos c]; rfl
    · rw [decide_eq_false c, if_neg c]; rfl
  unfold Toward.cut
  simp only [Nat.shiftLeft_eq, Nat.one_mul]
  rcases Nat.le_total drop (n.log2 + 2) with h | h
  · rw [Nat.min_eq_left h]
    exact core _
  · rw [Nat.min_eq_right h]
    rw [core]
    have z (j : Nat) (hj : n.log2 + 2 ≤ j) : rne n (2 ^ j) = 0 := by
      have h1 : 2 ^ (n.log2 + 2) ≤ 2 ^ j := Nat.pow_le_pow_right (by decide) hj
      have h2 : 2 ^ (n.log2 + 2) = 2 * 2 ^ (n.log2 + 1) := by rw [Nat.pow_succ]; omega
      unfold rne
      rw [Nat.div_eq_of_lt (by omega), Nat.mod_eq_of_lt (by omega), if_neg (by omega)]
    rw [z _ (Nat.le_refl _), z _ h]

/-- The rung of N units of 2^(-1074-k). -/
def rungN (k N : Nat) : Nat := (max (N.log2 - 52) k - k) * 2 ^ 52 + rne N (2 ^ max (N.log2 - 52) k)

theorem log2_le_of_le {a b : Nat} (ha : a ≠ 0) (h : a ≤ b) : a.log2 ≤ b.log2 := by
  have hb : b ≠ 0 := by omega
  exact (Nat.le_log2 hb).2 (Nat.le_trans (Nat.log2_self_le ha) h)

theorem log2_shift (a t : Nat) (ha : a ≠ 0) : (a * 2 ^ t).log2 = a.log2 + t := by
  induction t with
  | zero => simp
  | succ t ih =>
    have h0 : a * 2 ^ t ≠ 0 := Nat.mul_ne_zero ha (by have := Nat.two_pow_pos t; omega)
    rw [Nat.pow_succ, ← Nat.mul_assoc, Nat.mul_comm, Nat.log2_two_mul h0, ih]; omega

theorem rungN_mono {k N M : Nat} (hN : N ≠ 0) (h : N ≤ M) : rungN k N ≤ rungN k M := by
  have hM : M ≠ 0 := by omega
  have hl := log2_le_of_le hN h
  unfold rungN
  generalize hd : max (N.log2 - 52) k = d
  generalize hd' : max (M.log2 - 52) k = d'
  have hdd : d ≤ d' := by omega
  rcases Nat.lt_or_ge d d' with hlt | hge
  · have u1 : N < 2 ^ (d + 53) := by
      have h1 : N < 2 ^ (N.log2 + 1) := Nat.lt_log2_self
      have h2 : 2 ^ (N.log2 + 1) ≤ 2 ^ (d + 53) := Nat.pow_le_pow_right (by decide) (by omega)
      omega
    have u2 : N / 2 ^ d < 2 ^ 53 := by
      rw [Nat.div_lt_iff_lt_mul (Nat.two_pow_pos d), ← Nat.pow_add, Nat.add_comm]; exact u1
    have u3 : 2 ^ 52 ≤ M / 2 ^ d' := by
      rw [Nat.le_div_iff_mul_le (Nat.two_pow_pos d'), ← Nat.pow_add]
      have h1 : 2 ^ M.log2 ≤ M := Nat.log2_self_le hM
      have h2 : 2 ^ (52 + d') ≤ 2 ^ M.log2 := Nat.pow_le_pow_right (by decide) (by omega)
      omega
    have := rne_hi N (2 ^ d)
    have := rne_lo M (2 ^ d')
    have e : d' - k = (d - k) + 1 + (d' - d - 1) := by omega
    rw [e]
    generalize rne N (2 ^ d) = a at *
    generalize rne M (2 ^ d') = b at *
    generalize d' - d - 1 = c at *
    omega
  · have e : d' = d := by omega
    rw [e]
    have := rne_mono (g := 2 ^ d) h
    omega

theorem rungN_scale (k j N : Nat) (hN : N ≠ 0) : rungN (k + j) (N * 2 ^ j) = rungN k N := by
  unfold rungN
  rw [log2_shift N j hN]
  have e : max (N.log2 + j - 52) (k + j) = max (N.log2 - 52) k + j := by omega
  rw [e, Nat.pow_add, rne_scale _ _ _ (Nat.two_pow_pos j)]
  congr 2
  omega

theorem nearest_rung (neg : Bool) (mag : Nat) (place : Int) (k : Nat) (hm : mag ≠ 0) (hk : 0 ≤ place + 1074 + k) :
    double.nearest neg mag place = double.word neg (min (rungN k (mag * 2 ^ (place + 1074 + k).toNat)) double.infRung) := by
  unfold Format.nearest
  rw [if_neg hm]
  have hl : double.leastPlace = -1074 := by decide
  have hf : (double.fractionBits : Int) = 52 := by decide
  have hb : double.binade = 2 ^ 52 := by decide
  rw [hl, hf, hb]
  simp only [cut_even, Nat.shiftLeft_eq]
  generalize hlast : max (place + (mag.log2 : Int) - 52) (-1074) = last
  generalize ht : (place + 1074 + k).toNat = t
  unfold rungN
  rw [log2_shift mag t hm]
  have hd : max (mag.log2 + t - 52) k = (last + 1074).toNat + k := by omega
  rw [hd]
  have e1 : (last - -1074).toNat = (last + 1074).toNat + k - k := by omega
  rw [e1]
  have e2 : rne (mag * 2 ^ (place - last).toNat) (2 ^ (last - place).toNat) = rne (mag * 2 ^ t) (2 ^ ((last + 1074).toNat + k)) := by
    rcases Int.le_total last place with h | h
    · have h1 : (last - place).toNat = 0 := by omega
      have h2 : t = (place - last).toNat + ((last + 1074).toNat + k) := by omega
      rw [h1, h2, Nat.pow_add, ← Nat.mul_assoc]
      have := rne_scale (mag * 2 ^ (place - last).toNat) (2 ^ 0) (2 ^ ((last + 1074).toNat + k)) (Nat.two_pow_pos _)
      rw [Nat.pow_zero, Nat.one_mul] at this
      rw [Nat.pow_zero, this]
    · have h1 : (place - last).toNat = 0 := by omega
      have h2 : (last + 1074).toNat + k = (last - place).toNat + t := by omega
      rw [h1, h2, Nat.pow_zero, Nat.mul_one, Nat.pow_add, rne_scale _ _ _ (Nat.two_pow_pos _)]
  rw [e2]

/-- The value of a rung in units of 2^-1074 (that of infinity: beyond all others). -/
def V (r : Nat) : Nat := if r < 2 ^ 53 then r else (2 ^ 52 + r % 2 ^ 52) * 2 ^ (r / 2 ^ 52 - 1)

theorem V_small {r : Nat} (h : r < 2 ^ 53) : V r = r := by unfold V; rw [if_pos h]

theorem rungN_V (k r : Nat) (hr : r ≠ 0) : rungN k (V r * 2 ^ k) = r := by
  have h0 : V r ≠ 0 := by
    unfold V; split
    · exact hr
    · exact Nat.mul_ne_zero (by omega) (by have := Nat.two_pow_pos (r / 2 ^ 52 - 1); omega)
  have := rungN_scale 0 k (V r) h0
  rw [Nat.zero_add] at this
  rw [this]
  unfold V at h0 ⊢
  split
  · rename_i h
    have hl : r.log2 < 53 := (Nat.log2_lt hr).2 h
    unfold rungN
    have e : max (r.log2 - 52) 0 = 0 := by omega
    rw [e]
    have := rne_whole r 1 (by decide)
    rw [Nat.mul_one] at this
    rw [Nat.pow_zero, this]; omega
  · rename_i h
    have hq : 2 ≤ r / 2 ^ 52 := by omega
    generalize hf : r % 2 ^ 52 = f at *
    have hfl : f < 2 ^ 52 := by omega
    generalize hqq : r / 2 ^ 52 = q at *
    have hl : (2 ^ 52 + f).log2 = 52 := by
      have h1 : (2 ^ 52 + f).log2 < 53 := (Nat.log2_lt (by omega)).2 (by omega)
      have h2 : 52 ≤ (2 ^ 52 + f).log2 := (Nat.le_log2 (by omega)).2 (by omega)
      omega
    unfold rungN
    rw [log2_shift _ _ (by omega), hl]
    have e : max (52 + (q - 1) - 52) 0 = q - 1 := by omega
    rw [e, rne_whole _ _ (Nat.two_pow_pos _)]
    omega

/-- What is at most a float's value is rounded to it or below; what is at least it, to it or above. -/
theorem rung_le {k N r : Nat} (hN : N ≠ 0) (h : N ≤ V r * 2 ^ k) : rungN k N ≤ r := by
  have hr : r ≠ 0 := by
    rintro rfl
    rw [V_small (by decide)] at h; omega
  have := rungN_mono (k := k) hN h
  rwa [rungN_V k r hr] at this
theorem le_rung {k N r : Nat} (hr : r ≠ 0) (h : V r * 2 ^ k ≤ N) : r ≤ rungN k N := by
  have h0 : V r * 2 ^ k ≠ 0 := by
    have hv : V r ≠ 0 := by
      unfold V; split
      · exact hr
      · exact Nat.mul_ne_zero (by omega) (by have := Nat.two_pow_pos (r / 2 ^ 52 - 1); omega)
    exact Nat.mul_ne_zero hv (by have := Nat.two_pow_pos k; omega)
  have := rungN_mono (k := k) h0 h
  rwa [rungN_V k r hr] at this

theorem V_lt {r s : Nat} (h : r < s) : V r < V s := by
  rcases Nat.lt_or_ge (V r) (V s) with hl | hge
  · exact hl
  · exfalso
    have hs : s ≠ 0 := by omega
    by_cases hr : r = 0
    · subst hr
      rw [V_small (by decide)] at hge
      have hv : V s ≠ 0 := by
        unfold V; split
        · exact hs
        · exact Nat.mul_ne_zero (by omega) (by have := Nat.two_pow_pos (s / 2 ^ 52 - 1); omega)
      omega
    · have h1 := rungN_V 0 r hr
      have h2 := le_rung (k := 0) (N := V r * 2 ^ 0) hs (by simpa using hge)
      omega
theorem V_le {r s : Nat} (h : r ≤ s) : V r ≤ V s := by
  rcases Nat.lt_or_ge r s with hl | hge
  · exact Nat.le_of_lt (V_lt hl)
  · have : r = s := by omega
    rw [this]; exact Nat.le_refl _

end Go.Proofs.Ythhgmanoifpoiaa

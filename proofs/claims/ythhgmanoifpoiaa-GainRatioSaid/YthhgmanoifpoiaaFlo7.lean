/- The plain law of GainRatio. -/
import Derived.Test.YthhgmanoifpoiaaFlo6
namespace Go.Proofs.Ythhgmanoifpoiaa
open Ieee

theorem lt_words {a b : Nat} (ha : a ≤ inf) (hb : b ≤ inf) : (double.order a b == some .lt) = decide (a < b) := by
  rw [order_eq (by rw [(rung_pos ha).1]; exact ha) (by rw [(rung_pos hb).1]; exact hb), sv_pos ha, sv_pos hb]
  rcases Nat.lt_trichotomy a b with h | h | h
  · rw [cmp_lt (by have := V_lt h; omega), decide_eq_true h]; rfl
  · subst h; rw [cmp_eq rfl, decide_eq_false (by omega)]; rfl
  · rw [cmp_gt (by have := V_lt h; omega), decide_eq_false (by omega)]; rfl
theorem gt_words {a b : Nat} (ha : a ≤ inf) (hb : b ≤ inf) : (double.order a b == some .gt) = decide (b < a) := by
  rw [order_eq (by rw [(rung_pos ha).1]; exact ha) (by rw [(rung_pos hb).1]; exact hb), sv_pos ha, sv_pos hb]
  rcases Nat.lt_trichotomy a b with h | h | h
  · rw [cmp_lt (by have := V_lt h; omega), decide_eq_false (by omega)]; rfl
  · subst h; rw [cmp_eq rfl, decide_eq_false (by omega)]; rfl
  · rw [cmp_gt (by have := V_lt h; omega), decide_eq_true h]; rfl
theorem geq_words {a b : Nat} (ha : a ≤ inf) (hb : b ≤ inf) : (double.order a b == some .gt || double.order a b == some .eq) = decide (b ≤ a) := by
  rw [order_eq (by rw [(rung_pos ha).1]; exact ha) (by rw [(rung_pos hb).1]; exact hb), sv_pos ha, sv_pos hb]
  rcases Nat.lt_trichotomy a b with h | h | h
  · rw [cmp_lt (by have := V_lt h; omega), decide_eq_false (by omega)]; rfl
  · subst h; rw [cmp_eq rfl, decide_eq_true (by omega)]; rfl
  · rw [cmp_gt (by have := V_lt h; omega), decide_eq_true (by omega)]; rfl

/-- 0.5, 1 + 1e-12 and 65535 as words. -/
def half : Nat := 4602678819172646912
def near : Nat := 4607182418800021912
def top : Nat := 4679239875398991872

theorem V_half : V half = pw 1073 := by
  have h := V_big 1022 (by decide)
  have e : 1022 * 2 ^ 52 = half := by decide
  rw [e] at h
  rw [h, ← pw_add]
theorem V_near : V near = 4503599627375000 * pw 1022 := by
  have h := V_bin 1022 4503599627375000 (by decide) (by decide)
  exact h
theorem unit_half : unit = 2 * pw 1073 := by
  have h : pw (1 + 1073) = pw 1 * pw 1073 := pw_add 1 1073
  rw [pw_one] at h
  exact h
theorem unit_near : unit = 4503599627370496 * pw 1022 := by
  have h : pw (52 + 1022) = pw 52 * pw 1022 := pw_add 52 1022
  have e : pw 52 = 4503599627370496 := by unfold pw; rfl
  rw [e] at h
  exact h
theorem top_eq : intW 65535 = top := by decide +kernel
theorem intW_one : intW 1 = one := by decide +kernel

theorem half_up {p A H : Nat} (hp : p ≤ 65535) (h : A * 2251799813685248 ≤ p * (2 * H) * 2251799813685249) : A ≤ (2 * p + 1) * H := by
  have e1 : p * (2 * H) = 2 * (p * H) := by rw [Nat.mul_left_comm]
  have e2 : (2 * p + 1) * H = 2 * (p * H) + H := by rw [Nat.add_mul, Nat.one_mul, Nat.mul_assoc]
  have e3 : p * H ≤ 65535 * H := Nat.mul_le_mul_right H hp
  rw [e1] at h
  rw [e2]
  generalize p * H = B at *
  omega
theorem half_down {p A H : Nat} (hp0 : 0 < p) (hp : p ≤ 65535) (h : p * (2 * H) * 2251799813685247 ≤ A * 2251799813685248) : (2 * p - 1) * H ≤ A := by
  have e1 : p * (2 * H) = 2 * (p * H) := by rw [Nat.mul_left_comm]
  have e2 : (2 * p - 1) * H = 2 * (p * H) - H := by rw [Nat.sub_mul, Nat.one_mul, Nat.mul_assoc]
  have e3 : p * H ≤ 65535 * H := Nat.mul_le_mul_right H hp
  have e4 : 1 * H ≤ p * H := Nat.mul_le_mul_right H hp0
  rw [e1] at h
  rw [e2]
  generalize p * H = B at *
  omega

theorem near_up {A B D : Nat} (h1 : A * 2251799813685248 ≤ B * 2251799813685249) (h2 : B * 9007199254740992 ≤ D * 9007199254740993) : A * 4503599627370496 ≤ D * 4503599627375000 :=
  close (chain h1 h2) (by decide) (by decide)

/-- What GainRatio's tests come to. -/
structure RatioLaw (x p r q a b : Nat) : Prop where
  quo : floatBits .quo .f64 (intW p) (intW r) = some q
  fin : q < inf
  mul : floatBits .mul .f64 q (intW r) = some (prodW q (intW r))
  sub : floatBits .sub .f64 (intW p) 4602678819172646912 = some a
  add : floatBits .add .f64 (intW p) 4602678819172646912 = some b
  low : (double.order (prodW q (intW r)) a == some .lt) = false
  high : (double.order (prodW q (intW r)) b == some .gt) = false
  mulc : floatBits .mul .f64 (fixW x) 4607182418800021912 = some (prodW (fixW x) 4607182418800021912)
  worth : worthB x (p : Int) (r : Int) = true → (double.order q (prodW (fixW x) 4607182418800021912) == some .lt || double.order q (prodW (fixW x) 4607182418800021912) == some .eq) = true
  geq : (double.order q 0 == some .gt || double.order q 0 == some .eq) = true
  leq : (double.order q 4679239875398991872 == some .lt || double.order q 4679239875398991872 == some .eq) = true

theorem fix_inf (x : Nat) : fixW x < inf := by have := fixW_le x; unfold one at this; unfold inf; omega

theorem ratio_zero (x r : Nat) (hr0 : 0 < r) (hr : r ≤ 65536) : RatioLaw x 0 r 0 13826050856027422720 half := by
  have h0 : intW 0 = 0 := rfl
  have hri := intW_lt (n := r) (by omega)
  have hp0 : prodW 0 (intW r) = 0 := by unfold prodW; rw [V_zero, Nat.zero_mul, if_pos rfl]
  refine ⟨?_, by decide, mulBits (by decide) hri, by decide +kernel, by decide +kernel, ?_, ?_, mulBits (fix_inf x) (by decide), ?_, by decide +kernel, by decide +kernel⟩
  · obtain ⟨m, i, h1, h2⟩ := read_int (n := (0 : Int)) (by decide)
    obtain ⟨n, j, h3, h4⟩ := read_int (n := (r : Int)) (by omega)
    rw [show floatOfInt .f64 ((r : Nat) : Int) = intW r from floatOfInt_word (by omega)] at h3
    have hm : m = 0 := h2.2 rfl
    have hn : n ≠ 0 := fun e => by have := h4.1 e; omega
    rw [h0]
    show double.div 0 (intW r) = some 0
    have hz : floatOfInt .f64 0 = 0 := rfl
    rw [hz] at h1
    unfold Format.div
    rw [h1, h3, hm]
    simp only [Datum.quotient, if_neg hn, Option.map_some, Format.write]
    rw [decide_eq_false (by omega), decide_eq_false (by omega)]
    simp [Format.nearest, Format.word]
  · rw [hp0]; decide +kernel
  · rw [hp0]; decide +kernel
  · intro _
    rw [leq_words (Nat.zero_le _) (prodW_le _ _)]
    exact decide_eq_true (Nat.zero_le _)

theorem ratio_law (x p r : Nat) (hp0 : 0 < p) (hp : p ≤ 65535) (hr0 : 0 < r) (hr : r ≤ 65536) : ∃ q a b, RatioLaw x p r q a b := by
  obtain ⟨q, hq, hq0, hqt, hA1, hA2⟩ := div_small hp0 hp hr0 hr
  have htop := intW_lt (n := 65535) (by decide)
  have hqi : q < inf := by omega
  have hpi := intW_lt (n := p) (by omega)
  have hri := intW_lt (n := r) (by omega)
  have hhi : half < inf := by decide
  have hVp := V_intW (n := p) (by omega)
  have hVr := V_intW (n := r) (by omega)
  have hup := unit_pos
  have hH := pw_pos 1073
  have hVq := V_pos hq0
  have hprod : prodW q (intW r) = min (rungN 1074 (V q * r * unit)) inf := by
    unfold prodW
    rw [hVr, ← Nat.mul_assoc, if_neg]
    exact Nat.mul_ne_zero (Nat.mul_ne_zero (by omega) (by omega)) (by omega)
  have hN0 : V q * r * unit ≠ 0 := Nat.mul_ne_zero (Nat.mul_ne_zero (by omega) (by omega)) (by omega)
  -- the lower bound
  have ea : V (intW p) - V half = (2 * p - 1) * pw 1073 := by
    rw [hVp, V_half, unit_half, Nat.sub_mul, Nat.one_mul, Nat.mul_left_comm, Nat.mul_assoc]
  have eb : V (intW p) + V half = (2 * p + 1) * pw 1073 := by
    rw [hVp, V_half, unit_half, Nat.add_mul, Nat.one_mul, Nat.mul_left_comm, Nat.mul_assoc]
  have hlt : V half < V (intW p) := by
    have e1 : 1 * unit ≤ p * unit := Nat.mul_le_mul_right _ hp0
    rw [hVp, V_half]
    have := unit_half
    omega
  have hsub := subBits hpi hhi hlt
  have hadd := addBits hpi hhi (by omega)
  rw [ea] at hsub
  rw [eb] at hadd
  have va := V_round (2 * p - 1) 1073 (by omega) (by omega)
  have vb := V_round (2 * p + 1) 1073 (by omega) (by omega)
  have la : rungN 0 ((2 * p - 1) * pw 1073) ≤ intW p := by
    refine rung_le (Nat.mul_ne_zero (by omega) (by omega)) ?_
    rw [Nat.pow_zero, Nat.mul_one, ← ea]
    exact Nat.sub_le _ _
  have lb : rungN 0 ((2 * p + 1) * pw 1073) ≤ intW (p + 1) := by
    refine rung_le (Nat.mul_ne_zero (by omega) (by omega)) ?_
    rw [Nat.pow_zero, Nat.mul_one, V_intW (by omega), unit_half, ← Nat.mul_assoc]
    exact Nat.mul_le_mul_right _ (by omega)
  have hp1 := intW_lt (n := p + 1) (by omega)
  generalize hga : rungN 0 ((2 * p - 1) * pw 1073) = a at *
  generalize hgb : rungN 0 ((2 * p + 1) * pw 1073) = b at *
  rw [Nat.min_eq_left (by omega)] at hsub
  rw [Nat.min_eq_left (by omega)] at hadd
  have hA1' := hA1
  have hA2' := hA2
  rw [unit_half] at hA1' hA2'
  have up := half_up hp hA1'
  have down := half_down hp0 hp hA2'
  have ha0 : a ≠ 0 := by
    rintro rfl
    rw [V_zero] at va
    have : 0 < (2 * p - 1) * pw 1073 := Nat.mul_pos (by omega) hH
    omega
  have low : a ≤ rungN 1074 (V q * r * unit) := by
    refine le_rung ha0 ?_
    rw [va, pw_eq 1074]
    exact Nat.mul_le_mul_right (pw 1074) down
  have high : rungN 1074 (V q * r * unit) ≤ b := by
    refine rung_le hN0 ?_
    rw [vb, pw_eq 1074]
    exact Nat.mul_le_mul_right (pw 1074) up
  have hpr : prodW q (intW r) = rungN 1074 (V q * r * unit) := by rw [hprod]; exact Nat.min_eq_left (by omega)
  refine ⟨q, a, b, hq, hqi, mulBits hqi hri, hsub, hadd, ?_, ?_, mulBits (fix_inf x) (by decide), ?_, ?_, ?_⟩
  · rw [hpr, lt_words (by omega) (by omega)]; exact decide_eq_false (by omega)
  · rw [hpr, gt_words (by omega) (by omega)]; exact decide_eq_false (by omega)
  · intro hw
    have hw4 := (worth_in hw).2.2.2
    simp only [Int.toNat_natCast] at hw4
    rw [leq_words (by omega) (prodW_le _ _)]
    refine decide_eq_true ?_
    have hone : intW 1 ≤ intW p := intW_mono hp0
    rw [intW_one] at hone
    unfold prodW at hw4
    rw [hVr, ← Nat.mul_assoc] at hw4
    by_cases hF : V (fixW x) * r * unit = 0
    · rw [if_pos hF] at hw4
      unfold one at hone
      omega
    · rw [if_neg hF] at hw4
      have hVF : V (fixW x) ≠ 0 := by
        intro e
        rw [e, Nat.zero_mul, Nat.zero_mul] at hF
        exact hF rfl
      have hge : intW p ≤ rungN 1074 (V (fixW x) * r * unit) := Nat.le_trans hw4 (Nat.min_le_left _ _)
      have hbig : 2 ^ (1074 + 52) ≤ V (fixW x) * r * unit := by
        rcases Nat.lt_or_ge (V (fixW x) * r * unit) (2 ^ (1074 + 52)) with hs | hs
        · exfalso
          have e1 : 2 ^ (1074 + 52) = V 4503599627370496 * 2 ^ 1074 := by
            have e : pw 52 = 4503599627370496 := by unfold pw; rfl
            have e2 : pw (1074 + 52) = pw 52 * pw 1074 := by rw [pw_add, Nat.mul_comm]
            rw [V_small (by decide), pw_eq (1074 + 52), pw_eq 1074, e2, e]
          rw [e1] at hs
          have := rung_le (k := 1074) hF (Nat.le_of_lt hs)
          unfold one at hone
          omega
        · exact hs
      obtain ⟨r1, _⟩ := rel (k := 1074) hbig
      have v1 := V_le hge
      rw [hVp] at v1
      have h3 : p * unit * 9007199254740992 ≤ V (fixW x) * r * 9007199254740993 := by
        have k1 : p * unit * unit * 9007199254740992 ≤ V (fixW x) * r * unit * 9007199254740993 :=
          Nat.le_trans (Nat.mul_le_mul_right _ (Nat.mul_le_mul_right unit v1)) r1
        have z : ∀ y c : Nat, y * unit * c = y * c * unit := fun y c => by rw [Nat.mul_assoc, Nat.mul_comm unit, ← Nat.mul_assoc]
        rw [z (p * unit), z (V (fixW x) * r)] at k1
        exact Nat.le_of_mul_le_mul_right k1 hup
      have h4 := near_up hA1 h3
      have h5 : V q * 4503599627370496 ≤ V (fixW x) * 4503599627375000 := by
        have z : ∀ y c : Nat, y * r * c = y * c * r := fun y c => by rw [Nat.mul_assoc, Nat.mul_comm r, ← Nat.mul_assoc]
        rw [z (V q), z (V (fixW x))] at h4
        exact Nat.le_of_mul_le_mul_right h4 hr0
      have h6 : V q * 2 ^ 1074 ≤ V (fixW x) * V 4607182418800021912 := by
        rw [pw_eq 1074]
        have hvn : V 4607182418800021912 = 4503599627375000 * pw 1022 := V_near
        have hun : pw 1074 = 4503599627370496 * pw 1022 := unit_near
        rw [hvn, hun, ← Nat.mul_assoc, ← Nat.mul_assoc]
        exact Nat.mul_le_mul_right _ h5
      have h7 := le_rung (k := 1074) hq0 h6
      unfold prodW
      rw [if_neg (Nat.mul_ne_zero hVF (by have := V_pos (show (4607182418800021912 : Nat) ≠ 0 by decide); omega))]
      exact Nat.le_min.2 ⟨h7, by omega⟩
  · rw [geq_words (by omega) (Nat.zero_le _)]; exact decide_eq_true (Nat.zero_le _)
  · have : q ≤ 4679239875398991872 := by have := top_eq; unfold top at this; omega
    rw [leq_words (by omega) (by decide)]; exact decide_eq_true this

end Go.Proofs.Ythhgmanoifpoiaa

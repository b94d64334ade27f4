/- The walk of GainFixes. -/
import Derived.Test.YthhgmanoifpoiaaAw1
import Derived.Test.YthhgmanoifpoiaaFlo4
namespace Go.Proofs.Ythhgmanoifpoiaa
open Go.RowKit

theorem inf_any (s : Int) (w : World) (hs : s = 1 ∨ s = -1) : Calls Try.prog 22 #[.int .i64 s] w fun e w' => e = .returned (.float .f64 (if s < 0 then 18442240474082181120 else 9218868437227405312)) ∧ w = w' := by
  rcases hs with rfl | rfl
  · have hd := run_unbits 9218868437227405312
    go_enter Try.func22, Try.ntmps22
    go_wp2
    go_ret
    exact ⟨rfl, rfl⟩
  · have hd := run_unbits 18442240474082181120
    go_enter Try.func22, Try.ntmps22
    go_wp2
    go_ret
    exact ⟨rfl, rfl⟩

/-- Ratio of whole numbers: of a divisor that is none, the quotient; else by the dividend's sign. -/
theorem ratio_some (p r : Int) (q : Nat) (w : World) (h0 : r ≠ 0) (hq : floatBits .quo .f64 (floatOfInt .f64 p) (floatOfInt .f64 r) = some q) :
    Calls Try.prog 17 #[.int .i64 p, .int .i64 r] w fun e w' => e = .returned (.float .f64 q) ∧ w = w' := by
  have hm := fun W : World => run_float_arith (P := Try.prog) W .quo 22 .f64 _ _ _ hq
  have h1 : (r != 0) = true := by rw [bne_iff_ne]; exact h0
  clear h0 hq
  go_enter Try.func17, Try.ntmps17
  go_wp2
  go_ret
  exact ⟨rfl, rfl⟩
theorem ratio_nan (w : World) :
    Calls Try.prog 17 #[.int .i64 0, .int .i64 0] w fun e w' => e = .returned (.float .f64 9221120237041090561) ∧ w = w' := by
  go_enter Try.func17, Try.ntmps17
  go_wp2_with (go_at_call 23; refine (nan_any _).mono ?_; rintro e w' ⟨rfl, rfl⟩)
  go_ret
  exact ⟨rfl, rfl⟩
theorem ratio_neg (p : Int) (w : World) (h : p < 0) :
    Calls Try.prog 17 #[.int .i64 p, .int .i64 0] w fun e w' => e = .returned (.float .f64 18442240474082181120) ∧ w = w' := by
  have h1 : (p == 0) = false := by rw [beq_eq_false_iff_ne]; omega
  go_enter Try.func17, Try.ntmps17
  go_wp2_with (go_at_call 22; refine (inf_any (-1) _ (.inr rfl)).mono ?_; rintro e w' ⟨rfl, rfl⟩)
  go_ret
  exact ⟨rfl, rfl⟩
theorem ratio_pos (p : Int) (w : World) (h : 0 < p) :
    Calls Try.prog 17 #[.int .i64 p, .int .i64 0] w fun e w' => e = .returned (.float .f64 9218868437227405312) ∧ w = w' := by
  have h1 : (p == 0) = false := by rw [beq_eq_false_iff_ne]; omega
  have h2 : ¬ p < 0 := by omega
  go_enter Try.func17, Try.ntmps17
  go_wp2_with (go_at_call 22; refine (inf_any 1 _ (.inl rfl)).mono ?_; rintro e w' ⟨rfl, rfl⟩)
  go_ret
  exact ⟨rfl, rfl⟩

theorem same_num (x : Nat) (w : World) (hx : x < 18446744073709551616) (h : rung x ≤ inf) :
    Calls Try.prog 18 #[.float .f64 x, .float .f64 x] w fun e w' => e = .returned (.bool true) ∧ w = w' := by
  have h1 := eq_self h
  rw [← fmt] at h1
  go_enter Try.func18, Try.ntmps18
  go_wp2_with (go_at_call 20; refine (signbit_any _ _ hx).mono ?_; rintro e w' ⟨rfl, rfl⟩)
  go_ret
  exact ⟨by simp, rfl⟩
theorem same_nan (x y : Nat) (w : World) (h : inf < rung x) (h' : inf < rung y) :
    Calls Try.prog 18 #[.float .f64 x, .float .f64 y] w fun e w' => e = .returned (.bool true) ∧ w = w' := by
  have h1 := eq_nan (y := y) h
  have h2 := ne_nan h
  have h3 := ne_nan h'
  rw [← fmt] at h1 h2 h3
  go_enter Try.func18, Try.ntmps18
  go_wp2_with fail
  go_ret
  exact ⟨rfl, rfl⟩

theorem fixW_inf' (x : Nat) : fixW x ≤ inf := Nat.le_trans (fixW_le x) one_inf
theorem geq_zero (x : Nat) : (Ieee.double.order (fixW x) 0 == some .gt || Ieee.double.order (fixW x) 0 == some .eq) = true := by
  rw [order_eq (by rw [(rung_pos (fixW_inf' x)).1]; exact fixW_inf' x) (by decide), sv_pos (fixW_inf' x), sv_pos (Nat.zero_le _), V_zero]
  rcases Nat.eq_zero_or_pos (V (fixW x)) with h | h
  · rw [h, cmp_eq rfl]; rfl
  · rw [cmp_gt (by omega)]; rfl
theorem leq_one (x : Nat) : (Ieee.double.order (fixW x) 4607182418800017408 == some .lt || Ieee.double.order (fixW x) 4607182418800017408 == some .eq) = true := by
  have := leq_words (fixW_inf' x) one_inf
  rw [decide_eq_true (fixW_le x)] at this
  exact this

/-- The NaN that a quotient of noughts draws. -/
def nanW (w : World) : Nat := (Question.nanBits .f64 0 0).cut (w.tape w.drawn (Question.nanBits .f64 0 0))
theorem nanW_inf (w : World) : inf < rung (nanW w) := by
  unfold nanW Question.cut rung inf
  dsimp only
  generalize w.tape w.drawn _ = t
  have hf : t / 2 % (2 ^ 52 - 1) < 4503599627370495 := Nat.mod_lt _ (by decide)
  generalize t / 2 % (2 ^ 52 - 1) = f at *
  rcases Nat.mod_two_eq_zero_or_one t with h | h <;> rw [h] <;> omega
theorem run_zero_zero (w : World) : (binOp .quo 22 (.float .f64 0) (.float .f64 0)).run Try.prog w = .ok (.float .f64 (nanW w)) w.drew := by
  have h : (FloatKind.f64.format.div 0 0) = none := by decide
  simp only [binOp, Op.floatArith, h]
  rfl

set_option maxHeartbeats 1000000 in
theorem fixes_some (x : Nat) (p r : Int) (q : Nat) (w : World) (hx : x < 18446744073709551616) (hr : r ≤ 9223372036854775807) (h0 : r ≠ 0) (hq : floatBits .quo .f64 (floatOfInt .f64 p) (floatOfInt .f64 r) = some q) (hq1 : rung q ≤ inf) (hq2 : q < 18446744073709551616) :
    Calls Try.prog 5 #[.float .f64 x, .int .i64 p, .int .i64 r] w fun e w' => e = .returned (.bool true) ∧ Below w.heap.size w w' := by
  have HQ := Lib.hid hq
  have HQ1 := Lib.hid hq1
  have hm := fun W : World => run_float_arith (P := Try.prog) W .quo 22 .f64 _ _ _ hq
  clear hq hq1
  have hy1 := rung_pos (fixW_inf' x)
  have hy2 : fixW x < 18446744073709551616 := by have := fixW_inf' x; unfold inf at this; omega
  have hs := hy1.2
  have g1 := geq_zero x
  have g2 := leq_one x
  rw [← fmt] at g1 g2
  have HI : Hid (rung (fixW x) ≤ inf) := by rw [hy1.1]; exact fixW_inf' x
  have hfy : ∀ w : World, Calls Try.prog 16 #[.float .f64 (fixW x)] w fun e w' => e = .returned (.float .f64 (fixW x)) ∧ w = w' := by
    intro w
    have := fix_any (fixW x) w hy2
    rwa [fix_fix] at this
  have HFY := Lib.hid hfy
  clear hfy hy1
  go_enter Try.func5, Try.ntmps5
  go_wp2_with (first
    | (go_at_call 14; refine (awake1 _).mono ?_; rintro e w1 ⟨rfl, hb1⟩)
    | (go_at_call 16; (first | ((with_reducible refine (fix_any x _ hx).mono ?_)) | ((with_reducible refine (HFY.out _).mono ?_))); rintro e w' ⟨rfl, rfl⟩)
    | (go_at_call 19; refine (refFix_any x _ hx).mono ?_; rintro e w' ⟨rfl, rfl⟩)
    | (go_at_call 20; refine (signbit_any _ _ hy2).mono ?_; rintro e w' ⟨rfl, rfl⟩)
    | (go_at_call 15; refine (worth_any x _ _ _ hx hr).mono ?_; rintro e w' ⟨rfl, rfl⟩)
    | (go_at_call 21; refine (refWorth_any x _ _ _ hx hr).mono ?_; rintro e w' ⟨rfl, rfl⟩)
    | (go_at_call 17; refine (ratio_some p r q _ (Lib.hid h0).out HQ.out).mono ?_; rintro e w' ⟨rfl, rfl⟩)
    | (go_at_call 18; (first | ((with_reducible refine (same_num (fixW x) _ hy2 HI.out).mono ?_)) | ((with_reducible refine (same_num q _ hq2 HQ1.out).mono ?_))); rintro e w' ⟨rfl, rfl⟩))
  go_ret
  exact ⟨rfl, hb1⟩

set_option maxHeartbeats 1000000 in
theorem fixes_nan (x : Nat)  (w : World) (hx : x < 18446744073709551616) :
    Calls Try.prog 5 #[.float .f64 x, .int .i64 0, .int .i64 0] w fun e w' => e = .returned (.bool true) ∧ Below w.heap.size w w' := by
  have hr : (0 : Int) ≤ 9223372036854775807 := by omega
  have hi0 : floatOfInt .f64 0 = 0 := rfl
  have hm := run_zero_zero
  have hy1 := rung_pos (fixW_inf' x)
  have hy2 : fixW x < 18446744073709551616 := by have := fixW_inf' x; unfold inf at this; omega
  have hs := hy1.2
  have g1 := geq_zero x
  have g2 := leq_one x
  rw [← fmt] at g1 g2
  have HI : Hid (rung (fixW x) ≤ inf) := by rw [hy1.1]; exact fixW_inf' x
  have hfy : ∀ w : World, Calls Try.prog 16 #[.float .f64 (fixW x)] w fun e w' => e = .returned (.float .f64 (fixW x)) ∧ w = w' := by
    intro w
    have := fix_any (fixW x) w hy2
    rwa [fix_fix] at this
  have HFY := Lib.hid hfy
  clear hfy hy1
  go_enter Try.func5, Try.ntmps5
  go_wp2_with (first
    | (go_at_call 14; refine (awake1 _).mono ?_; rintro e w1 ⟨rfl, hb1⟩)
    | (go_at_call 16; (first | ((with_reducible refine (fix_any x _ hx).mono ?_)) | ((with_reducible refine (HFY.out _).mono ?_))); rintro e w' ⟨rfl, rfl⟩)
    | (go_at_call 19; refine (refFix_any x _ hx).mono ?_; rintro e w' ⟨rfl, rfl⟩)
    | (go_at_call 20; refine (signbit_any _ _ hy2).mono ?_; rintro e w' ⟨rfl, rfl⟩)
    | (go_at_call 15; refine (worth_any x _ _ _ hx hr).mono ?_; rintro e w' ⟨rfl, rfl⟩)
    | (go_at_call 21; refine (refWorth_any x _ _ _ hx hr).mono ?_; rintro e w' ⟨rfl, rfl⟩)
    | (go_at_call 17; refine (ratio_nan _).mono ?_; rintro e w' ⟨rfl, rfl⟩)
    | (go_at_call 18; (first | ((with_reducible refine (same_num (fixW x) _ hy2 HI.out).mono ?_)) | ((with_reducible refine (same_nan 9221120237041090561 (nanW _) _ (by decide) (nanW_inf _)).mono ?_))); rintro e w' ⟨rfl, rfl⟩))
  go_ret
  exact ⟨rfl, hb1.drew⟩

set_option maxHeartbeats 1000000 in
theorem fixes_neg (x : Nat) (p : Int) (w : World) (hx : x < 18446744073709551616) (hp : p < 0) (hq : floatBits .quo .f64 (floatOfInt .f64 p) (floatOfInt .f64 0) = some 18442240474082181120) :
    Calls Try.prog 5 #[.float .f64 x, .int .i64 p, .int .i64 0] w fun e w' => e = .returned (.bool true) ∧ Below w.heap.size w w' := by
  have hr : (0 : Int) ≤ 9223372036854775807 := by omega
  have hm := fun W : World => run_float_arith (P := Try.prog) W .quo 22 .f64 _ _ _ hq
  clear hq
  have hy1 := rung_pos (fixW_inf' x)
  have hy2 : fixW x < 18446744073709551616 := by have := fixW_inf' x; unfold inf at this; omega
  have hs := hy1.2
  have g1 := geq_zero x
  have g2 := leq_one x
  rw [← fmt] at g1 g2
  have HI : Hid (rung (fixW x) ≤ inf) := by rw [hy1.1]; exact fixW_inf' x
  have hfy : ∀ w : World, Calls Try.prog 16 #[.float .f64 (fixW x)] w fun e w' => e = .returned (.float .f64 (fixW x)) ∧ w = w' := by
    intro w
    have := fix_any (fixW x) w hy2
    rwa [fix_fix] at this
  have HFY := Lib.hid hfy
  clear hfy hy1
  go_enter Try.func5, Try.ntmps5
  go_wp2_with (first
    | (go_at_call 14; refine (awake1 _).mono ?_; rintro e w1 ⟨rfl, hb1⟩)
    | (go_at_call 16; (first | ((with_reducible refine (fix_any x _ hx).mono ?_)) | ((with_reducible refine (HFY.out _).mono ?_))); rintro e w' ⟨rfl, rfl⟩)
    | (go_at_call 19; refine (refFix_any x _ hx).mono ?_; rintro e w' ⟨rfl, rfl⟩)
    | (go_at_call 20; refine (signbit_any _ _ hy2).mono ?_; rintro e w' ⟨rfl, rfl⟩)
    | (go_at_call 15; refine (worth_any x _ _ _ hx hr).mono ?_; rintro e w' ⟨rfl, rfl⟩)
    | (go_at_call 21; refine (refWorth_any x _ _ _ hx hr).mono ?_; rintro e w' ⟨rfl, rfl⟩)
    | (go_at_call 17; refine (ratio_neg p _ hp).mono ?_; rintro e w' ⟨rfl, rfl⟩)
    | (go_at_call 18; (first | ((with_reducible refine (same_num (fixW x) _ hy2 HI.out).mono ?_)) | ((with_reducible refine (same_num 18442240474082181120 _ (by decide) (by decide)).mono ?_))); rintro e w' ⟨rfl, rfl⟩))
  go_ret
  exact ⟨rfl, hb1⟩

set_option maxHeartbeats 1000000 in
theorem fixes_pos (x : Nat) (p : Int) (w : World) (hx : x < 18446744073709551616) (hp : 0 < p) (hq : floatBits .quo .f64 (floatOfInt .f64 p) (floatOfInt .f64 0) = some 9218868437227405312) :
    Calls Try.prog 5 #[.float .f64 x, .int .i64 p, .int .i64 0] w fun e w' => e = .returned (.bool true) ∧ Below w.heap.size w w' := by
  have hr : (0 : Int) ≤ 9223372036854775807 := by omega
  have hm := fun W : World => run_float_arith (P := Try.prog) W .quo 22 .f64 _ _ _ hq
  clear hq
  have hy1 := rung_pos (fixW_inf' x)
  have hy2 : fixW x < 18446744073709551616 := by have := fixW_inf' x; unfold inf at this; omega
  have hs := hy1.2
  have g1 := geq_zero x
  have g2 := leq_one x
  rw [← fmt] at g1 g2
  have HI : Hid (rung (fixW x) ≤ inf) := by rw [hy1.1]; exact fixW_inf' x
  have hfy : ∀ w : World, Calls Try.prog 16 #[.float .f64 (fixW x)] w fun e w' => e = .returned (.float .f64 (fixW x)) ∧ w = w' := by
    intro w
    have := fix_any (fixW x) w hy2
    rwa [fix_fix] at this
  have HFY := Lib.hid hfy
  clear hfy hy1
  go_enter Try.func5, Try.ntmps5
  go_wp2_with (first
    | (go_at_call 14; refine (awake1 _).mono ?_; rintro e w1 ⟨rfl, hb1⟩)
    | (go_at_call 16; (first | ((with_reducible refine (fix_any x _ hx).mono ?_)) | ((with_reducible refine (HFY.out _).mono ?_))); rintro e w' ⟨rfl, rfl⟩)
    | (go_at_call 19; refine (refFix_any x _ hx).mono ?_; rintro e w' ⟨rfl, rfl⟩)
    | (go_at_call 20; refine (signbit_any _ _ hy2).mono ?_; rintro e w' ⟨rfl, rfl⟩)
    | (go_at_call 15; refine (worth_any x _ _ _ hx hr).mono ?_; rintro e w' ⟨rfl, rfl⟩)
    | (go_at_call 21; refine (refWorth_any x _ _ _ hx hr).mono ?_; rintro e w' ⟨rfl, rfl⟩)
    | (go_at_call 17; refine (ratio_pos p _ hp).mono ?_; rintro e w' ⟨rfl, rfl⟩)
    | (go_at_call 18; (first | ((with_reducible refine (same_num (fixW x) _ hy2 HI.out).mono ?_)) | ((with_reducible refine (same_num 9218868437227405312 _ (by decide) (by decide)).mono ?_))); rintro e w' ⟨rfl, rfl⟩))
  go_ret
  exact ⟨rfl, hb1⟩

theorem walkFixes (x : Nat) (p r : Int) (w : World) (hx : x < 18446744073709551616) (hp1 : -9223372036854775808 ≤ p) (hp2 : p ≤ 9223372036854775807) (hr1 : -9223372036854775808 ≤ r) (hr2 : r ≤ 9223372036854775807) :
    Calls Try.prog 5 #[.float .f64 x, .int .i64 p, .int .i64 r] w fun e w' => e = .returned (.bool true) ∧ Below w.heap.size w w' := by
  by_cases h0 : r = 0
  · subst h0
    rcases Int.lt_trichotomy p 0 with h | h | h
    · have := div_zero (p := p) (by omega) (by omega)
      rw [if_pos h] at this
      exact fixes_neg x p w hx h this
    · subst h
      exact fixes_nan x w hx
    · have := div_zero (p := p) (by omega) (by omega)
      rw [if_neg (by omega)] at this
      exact fixes_pos x p w hx h this
  · obtain ⟨q, h1, h2, h3⟩ := div_some (p := p) (r := r) (by omega) (by omega) h0
    exact fixes_some x p r q w hx hr2 h0 h1 h2 h3

end Go.Proofs.Ythhgmanoifpoiaa

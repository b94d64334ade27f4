/- The walk of GainRatio. -/
import Derived.Test.YthhgmanoifpoiaaWFixes
import Derived.Test.YthhgmanoifpoiaaFlo7
namespace Go.Proofs.Ythhgmanoifpoiaa
open Go.RowKit
set_option linter.unusedVariables false

set_option maxHeartbeats 1000000 in
theorem ratio_walk (x p r1 q a b : Nat) (w : World) (hx : x < 18446744073709551616) (hp : p ≤ 65535) (hr : r1 ≤ 65535) (L : RatioLaw x p (r1 + 1) q a b) :
    Calls Try.prog 4 #[.int .u16 (p : Int), .int .u16 (r1 : Int), .float .f64 x] w fun e w' => e = .returned (.bool true) ∧ Below w.heap.size w w' := by
  obtain ⟨quo, fin, mul, sub, add, low, high, mulc, worth, geq, leq⟩ := L
  have hpw := floatOfInt_word (n := p) (by omega)
  have hrw := floatOfInt_word (n := r1 + 1) (by omega)
  have hcast : ((r1 + 1 : Nat) : Int) = 1 + (r1 : Int) := by omega
  rw [hcast] at hrw
  have hq := ratio_some (p : Int) (1 + (r1 : Int)) q
  have HQ : ∀ w : World, Hid (Calls Try.prog 17 #[.int .i64 (p : Int), .int .i64 (1 + (r1 : Int))] w fun e w' => e = .returned (.float .f64 q) ∧ w = w') :=
    fun w => hq w (by omega) (by rw [hpw, hrw]; exact quo)
  have HW : ∀ w : World, Hid (Calls Try.prog 15 #[.float .f64 x, .int .i64 (p : Int), .int .i64 (1 + (r1 : Int))] w fun e w' => e = .returned (.bool (worthB x (p : Int) (1 + (r1 : Int)))) ∧ w = w') :=
    fun w => worth_any x _ _ w hx (by omega)
  rw [hcast] at worth
  clear hq
  have m1 := fun W : World => run_float_arith (P := Try.prog) W .mul 22 .f64 _ _ _ mul
  have m2 := fun W : World => run_float_arith (P := Try.prog) W .sub 22 .f64 _ _ _ sub
  have m3 := fun W : World => run_float_arith (P := Try.prog) W .add 22 .f64 _ _ _ add
  have m4 := fun W : World => run_float_arith (P := Try.prog) W .mul 22 .f64 _ _ _ mulc
  have m5 := fun W : World => run_float_arith (P := Try.prog) W .mul 22 .f64 _ _ _ (mulBits (fix_inf x) (intW_lt (n := r1 + 1) (by omega)))
  have lw := leq_words (Nat.le_of_lt (intW_lt (n := p) (by omega))) (prodW_le (fixW x) (intW (r1 + 1)))
  rw [← fmt] at low high worth geq leq lw
  clear mul sub add mulc quo hcast
  have HL := Lib.hid lw
  cases hw : worthB x (p : Int) (1 + (r1 : Int)) with
  | true =>
    have h4 := worth_in hw
    have e1 : (1 + (r1 : Int)).toNat = r1 + 1 := by omega
    have hle : intW p ≤ prodW (fixW x) (intW (r1 + 1)) := by
      have := h4.2.2.2
      rwa [e1, Int.toNat_natCast] at this
    have hlt : (p : Int) < 1 + (r1 : Int) := h4.2.2.1
    rw [decide_eq_true hle] at lw
    have hwo := worth hw
    clear worth h4 e1 HL
    go_enter Try.func4, Try.ntmps4
    go_wp2_with (first
      | (go_at_call 14; refine (awake1 _).mono ?_; rintro e w1 ⟨rfl, hb1⟩)
      | (go_at_call 17; refine ((HQ _).out).mono ?_; rintro e w' ⟨rfl, rfl⟩)
      | (go_at_call 15; refine ((HW _).out).mono ?_; rintro e w' ⟨rfl, rfl⟩)
      | (go_at_call 16; refine (fix_any x _ hx).mono ?_; rintro e w' ⟨rfl, rfl⟩))
    go_ret
    exact ⟨rfl, hb1⟩
  | false =>
    clear worth
    by_cases hlt : (p : Int) < 1 + (r1 : Int)
    · have e1 : (1 + (r1 : Int)).toNat = r1 + 1 := by omega
      have hle : ¬ intW p ≤ prodW (fixW x) (intW (r1 + 1)) := by
        intro h
        have : worthB x (p : Int) (1 + (r1 : Int)) = true := decide_eq_true ⟨by omega, by omega, hlt, by rw [e1, Int.toNat_natCast]; exact h⟩
        rw [this] at hw
        cases hw
      rw [decide_eq_false hle, Bool.or_eq_false_iff] at lw
      obtain ⟨lw1, lw2⟩ := lw
      clear HL e1 hle
      go_enter Try.func4, Try.ntmps4
      go_wp2_with (first
        | (go_at_call 14; refine (awake1 _).mono ?_; rintro e w1 ⟨rfl, hb1⟩)
        | (go_at_call 17; refine ((HQ _).out).mono ?_; rintro e w' ⟨rfl, rfl⟩)
        | (go_at_call 15; refine ((HW _).out).mono ?_; rintro e w' ⟨rfl, rfl⟩)
        | (go_at_call 16; refine (fix_any x _ hx).mono ?_; rintro e w' ⟨rfl, rfl⟩))
      go_ret
      exact ⟨rfl, hb1⟩
    · clear lw HL
      go_enter Try.func4, Try.ntmps4
      go_wp2_with (first
        | (go_at_call 14; refine (awake1 _).mono ?_; rintro e w1 ⟨rfl, hb1⟩)
        | (go_at_call 17; refine ((HQ _).out).mono ?_; rintro e w' ⟨rfl, rfl⟩)
        | (go_at_call 15; refine ((HW _).out).mono ?_; rintro e w' ⟨rfl, rfl⟩)
        | (go_at_call 16; refine (fix_any x _ hx).mono ?_; rintro e w' ⟨rfl, rfl⟩))
      go_ret
      exact ⟨rfl, hb1⟩

theorem walkRatio (x p r1 : Nat) (w : World) (hx : x < 18446744073709551616) (hp : p ≤ 65535) (hr : r1 ≤ 65535) :
    Calls Try.prog 4 #[.int .u16 (p : Int), .int .u16 (r1 : Int), .float .f64 x] w fun e w' => e = .returned (.bool true) ∧ Below w.heap.size w w' := by
  by_cases h0 : p = 0
  · subst h0
    exact ratio_walk x 0 r1 0 _ _ w hx hp hr (ratio_zero x (r1 + 1) (by omega) (by omega))
  · obtain ⟨q, a, b, L⟩ := ratio_law x p (r1 + 1) (by omega) hp (by omega) (by omega)
    exact ratio_walk x p r1 q a b w hx hp hr L

end Go.Proofs.Ythhgmanoifpoiaa

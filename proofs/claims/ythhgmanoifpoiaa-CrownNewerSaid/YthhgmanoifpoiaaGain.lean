/- What gain.Fix, gain.Worth and their like return. -/
import Derived.Test.YthhgmanoifpoiaaProg
import Derived.Test.YthhgmanoifpoiaaFlo3
import Derived.WalkKit
import Derived.WalkLawsBesides
import Derived.IntWalk
import Derived.Below
import Derived.Lib.Hide
import Derived.Outline
import Derived.KernelRfl
namespace Go.Proofs.Ythhgmanoifpoiaa
open Go.RowKit

theorem isNaN_any (x : Nat) (w : World) :
    Calls Try.prog 40 #[.float .f64 x] w fun e w' => e = .returned (.bool (FloatKind.f64.format.order x x != some .eq)) ∧ w = w' := by
  go_enter Try.func40, Try.ntmps40
  go_wp2
  all_goals (go_ret; exact ⟨rfl, rfl⟩)

theorem fix_any (x : Nat) (w : World) (hx : x < 18446744073709551616) :
    Calls Try.prog 16 #[.float .f64 x] w fun e w' => e = .returned (.float .f64 (fixW x)) ∧ w = w' := by
  rcases fix_cases x hx with ⟨h1, h2⟩ | ⟨h1, h3, h2⟩ | ⟨h1, h3, h4, h2⟩ | ⟨h1, h3, h4, h2⟩
  · rw [h2]
    clear h2
    simp only [← fmt] at *
    go_enter Try.func16, Try.ntmps16
    go_wp2_with fail
    refine (isNaN_any _ _).mono ?_
    rintro e w' ⟨rfl, rfl⟩
    go_wp2
    go_ret
    exact ⟨rfl, rfl⟩
  · rw [h2]
    clear h2
    simp only [← fmt] at *
    go_enter Try.func16, Try.ntmps16
    go_wp2_with fail
    refine (isNaN_any _ _).mono ?_
    rintro e w' ⟨rfl, rfl⟩
    go_wp2
    go_ret
    exact ⟨rfl, rfl⟩
  · rw [h2]
    clear h2
    simp only [← fmt] at *
    go_enter Try.func16, Try.ntmps16
    go_wp2_with fail
    refine (isNaN_any _ _).mono ?_
    rintro e w' ⟨rfl, rfl⟩
    go_wp2
    go_ret
    exact ⟨rfl, rfl⟩
  · rw [h2]
    clear h2
    rw [Bool.or_eq_false_iff] at h4
    obtain ⟨h4, h5⟩ := h4
    simp only [← fmt] at *
    go_enter Try.func16, Try.ntmps16
    go_wp2_with fail
    refine (isNaN_any _ _).mono ?_
    rintro e w' ⟨rfl, rfl⟩
    go_wp2
    go_ret
    exact ⟨rfl, rfl⟩

theorem refFix_any (x : Nat) (w : World) (hx : x < 18446744073709551616) :
    Calls Try.prog 19 #[.float .f64 x] w fun e w' => e = .returned (.float .f64 (fixW x)) ∧ w = w' := by
  rcases fix_cases x hx with ⟨h1, h2⟩ | ⟨h1, h3, h2⟩ | ⟨h1, h3, h4, h2⟩ | ⟨h1, h3, h4, h2⟩
  · rw [h2]
    clear h2
    simp only [← fmt] at *
    go_enter Try.func19, Try.ntmps19
    go_wp2
    go_ret
    exact ⟨rfl, rfl⟩
  · rw [h2]
    clear h2
    simp only [← fmt] at *
    go_enter Try.func19, Try.ntmps19
    go_wp2
    go_ret
    exact ⟨rfl, rfl⟩
  · rw [h2]
    clear h2
    simp only [← fmt] at *
    go_enter Try.func19, Try.ntmps19
    go_wp2
    go_ret
    exact ⟨rfl, rfl⟩
  · rw [h2]
    clear h2
    rw [Bool.or_eq_false_iff] at h4
    obtain ⟨h4, h5⟩ := h4
    simp only [← fmt] at *
    go_enter Try.func19, Try.ntmps19
    go_wp2
    go_ret
    exact ⟨rfl, rfl⟩

theorem worth_no {x : Nat} {p r : Int} (h : ¬ (0 ≤ p ∧ 0 < r ∧ p < r)) : worthB x p r = false := decide_eq_false (by omega)

theorem worth_any (x : Nat) (p r : Int) (w : World) (hx : x < 18446744073709551616) (hr : r ≤ 9223372036854775807) :
    Calls Try.prog 15 #[.float .f64 x, .int .i64 p, .int .i64 r] w fun e w' => e = .returned (.bool (worthB x p r)) ∧ w = w' := by
  by_cases h1 : 0 ≤ p
  · by_cases h2 : 0 < r
    · by_cases h3 : p < r
      · obtain ⟨pn, rfl⟩ := Int.eq_ofNat_of_zero_le h1
        obtain ⟨rn, rfl⟩ := Int.eq_ofNat_of_zero_le (Int.le_of_lt h2)
        have hf : fixW x < inf := by have := fixW_le x; unfold one at this; unfold inf; omega
        have hm := fun W : World => run_float_arith (P := Try.prog) W .mul 22 .f64 _ _ _ (mulBits hf (intW_lt (n := rn) (by omega)))
        have hp := floatOfInt_word (n := pn) (by omega)
        have hq := floatOfInt_word (n := rn) (by omega)
        have hl := leq_words (Nat.le_of_lt (intW_lt (n := pn) (by omega))) (prodW_le (fixW x) (intW rn))
        rw [← fmt] at hl
        have HW : Hid (worthB x (pn : Int) (rn : Int) = decide (intW pn ≤ prodW (fixW x) (intW rn))) := by
          unfold worthB
          show decide _ = decide _
          apply decide_eq_decide.2
          constructor
          · exact fun h => h.2.2.2
          · exact fun h => ⟨h1, h2, h3, h⟩
        have HL := Lib.hid hl
        clear hl
        go_enter Try.func15, Try.ntmps15
        go_wp2_with (go_at_call 16; refine (fix_any _ _ hx).mono ?_; rintro e w' ⟨rfl, rfl⟩)
        go_ret
        exact ⟨congrArg (fun b => Ending.returned (.bool b)) (HL.out.trans HW.out.symm), rfl⟩
      · rw [worth_no (by omega)]
        go_enter Try.func15, Try.ntmps15
        go_wp2_with fail
        go_ret
        exact ⟨rfl, rfl⟩
    · rw [worth_no (by omega)]
      go_enter Try.func15, Try.ntmps15
      go_wp2_with fail
      go_ret
      exact ⟨rfl, rfl⟩
  · rw [worth_no (by omega)]
    go_enter Try.func15, Try.ntmps15
    go_wp2_with fail
    go_ret
    exact ⟨rfl, rfl⟩

theorem refWorth_any (x : Nat) (p r : Int) (w : World) (hx : x < 18446744073709551616) (hr : r ≤ 9223372036854775807) :
    Calls Try.prog 21 #[.float .f64 x, .int .i64 p, .int .i64 r] w fun e w' => e = .returned (.bool (worthB x p r)) ∧ w = w' := by
  by_cases h1 : 0 ≤ p
  · by_cases h2 : 0 < r
    · by_cases h3 : p < r
      · obtain ⟨pn, rfl⟩ := Int.eq_ofNat_of_zero_le h1
        obtain ⟨rn, rfl⟩ := Int.eq_ofNat_of_zero_le (Int.le_of_lt h2)
        have hf : fixW x < inf := by have := fixW_le x; unfold one at this; unfold inf; omega
        have hm := fun W : World => run_float_arith (P := Try.prog) W .mul 22 .f64 _ _ _ (mulBits hf (intW_lt (n := rn) (by omega)))
        have hp := floatOfInt_word (n := pn) (by omega)
        have hq := floatOfInt_word (n := rn) (by omega)
        have hl := leq_words (Nat.le_of_lt (intW_lt (n := pn) (by omega))) (prodW_le (fixW x) (intW rn))
        rw [← fmt] at hl
        have HW : Hid (worthB x (pn : Int) (rn : Int) = decide (intW pn ≤ prodW (fixW x) (intW rn))) := by
          unfold worthB
          show decide _ = decide _
          apply decide_eq_decide.2
          constructor
          · exact fun h => h.2.2.2
          · exact fun h => ⟨h1, h2, h3, h⟩
        have HL := Lib.hid hl
        clear hl
        go_enter Try.func21, Try.ntmps21
        go_wp2_with (go_at_call 19; refine (refFix_any _ _ hx).mono ?_; rintro e w' ⟨rfl, rfl⟩)
        go_ret
        exact ⟨congrArg (fun b => Ending.returned (.bool b)) (HL.out.trans HW.out.symm), rfl⟩
      · rw [worth_no (by omega)]
        go_enter Try.func21, Try.ntmps21
        go_wp2_with fail
        go_ret
        exact ⟨rfl, rfl⟩
    · rw [worth_no (by omega)]
      go_enter Try.func21, Try.ntmps21
      go_wp2_with fail
      go_ret
      exact ⟨rfl, rfl⟩
  · rw [worth_no (by omega)]
    go_enter Try.func21, Try.ntmps21
    go_wp2_with fail
    go_ret
    exact ⟨rfl, rfl⟩

end Go.Proofs.Ythhgmanoifpoiaa

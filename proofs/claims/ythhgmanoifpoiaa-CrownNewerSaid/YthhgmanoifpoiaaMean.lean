/- What math.Signbit, IsInf, gain.number, gain.Mean return. -/
import Derived.Test.YthhgmanoifpoiaaGain
import Derived.Laws.BitsAllLaws
import Derived.Laws.Externs
import Derived.Test.YthhgmanoifpoiaaWords
namespace Go.Proofs.Ythhgmanoifpoiaa
open Go.RowKit

theorem run_bits (x : Nat) (w : World) : (callFunc 37 #[.float .f64 x]).run Try.prog w = .ok (.value (.int .u64 (x : Int))) w := by
  rw [run_callFunc_extern Try.func37 (by kernel_rfl) (by kernel_rfl) (by kernel_rfl) (e := Extern.MathFloatBits.float64bits) (by kernel_rfl)]; rfl
theorem run_unbits (x : Int) (w : World) : (callFunc 41 #[.int .u64 x]).run Try.prog w = .ok (.value (.float .f64 x.toNat)) w := by
  rw [run_callFunc_extern Try.func41 (by kernel_rfl) (by kernel_rfl) (by kernel_rfl) (e := Extern.MathFloatBits.float64frombits) (by kernel_rfl)]; rfl

theorem nan_any (w : World) : Calls Try.prog 23 #[] w fun e w' => e = .returned (.float .f64 9221120237041090561) ∧ w = w' := by
  have hd := run_unbits 9221120237041090561
  go_enter Try.func23, Try.ntmps23
  go_wp2
  go_ret
  exact ⟨rfl, rfl⟩

theorem abs_bits (x : Nat) (hx : x < 18446744073709551616) : bits .andNot .u64 (x : Int) 9223372036854775808 = ((rung x : Nat) : Int) := by
  have h := u64_andNot_nat x 9223372036854775808 hx (by decide)
  have e : x &&& (18446744073709551615 - 9223372036854775808) = rung x := by
    have h1 : (18446744073709551615 - 9223372036854775808 : Nat) = 2 ^ 63 - 1 := by decide
    rw [h1, Nat.and_two_pow_sub_one_eq_mod]; rfl
  rw [e] at h
  exact h

theorem abs_any (x : Nat) (w : World) (hx : x < 18446744073709551616) : Calls Try.prog 55 #[.float .f64 x] w fun e w' => e = .returned (.float .f64 (rung x)) ∧ w = w' := by
  have h0 := run_bits x
  have h1 := run_unbits (rung x : Int)
  have h2 := abs_bits x hx
  go_enter Try.func55, Try.ntmps55
  go_wp2
  go_ret
  exact ⟨rfl, rfl⟩

/-- A finite float that is none or infinite: the test of IsInf. -/
theorem beyond (x : Nat) (h : rung x ≤ inf) : (FloatKind.f64.format.order (rung x) 9218868437227405311 == some .gt) = decide (rung x = inf) := by
  rw [fmt, order_eq (by rw [(rung_pos h).1]; exact h) (by rw [(rung_pos (by decide)).1]; decide), sv_pos h, sv_pos (by decide)]
  by_cases e : rung x = inf
  · rw [e, decide_eq_true rfl, cmp_gt]
    · rfl
    · have := V_lt (show 9218868437227405311 < inf by decide)
      omega
  · rw [decide_eq_false e]
    have h1 : rung x ≤ 9218868437227405311 := by unfold inf at h e; omega
    have h2 := V_le h1
    rcases Nat.lt_or_eq_of_le h2 with h3 | h3
    · rw [cmp_lt (by omega)]; rfl
    · rw [cmp_eq (by omega)]; rfl

theorem isInf_any (x : Nat) (w : World) (hx : x < 18446744073709551616) (h : rung x ≤ inf) : Calls Try.prog 52 #[.float .f64 x, .int .i64 0] w fun e w' => e = .returned (.bool (decide (rung x = inf))) ∧ w = w' := by
  have hb := beyond x h
  rw [← hb]
  clear hb
  go_enter Try.func52, Try.ntmps52
  go_wp2_with (go_at_call 55; refine (abs_any _ _ hx).mono ?_; rintro e w' ⟨rfl, rfl⟩)
  go_ret
  exact ⟨rfl, rfl⟩

theorem nan_test (x : Nat) : (FloatKind.f64.format.order x x != some .eq) = decide (inf < rung x) := by
  rw [fmt]
  by_cases h : inf < rung x
  · rw [order_nan_left h, decide_eq_true h]; rfl
  · rw [order_eq (by omega) (by omega), cmp_eq rfl, decide_eq_false h]; rfl

theorem number_any (x : Nat) (w : World) (hx : x < 18446744073709551616) : Calls Try.prog 42 #[.float .f64 x] w fun e w' => e = .returned (.bool (decide (rung x < inf))) ∧ w = w' := by
  by_cases hn : inf < rung x
  · have ht : (FloatKind.f64.format.order x x != some .eq) = true := by rw [nan_test, decide_eq_true hn]
    rw [decide_eq_false (by omega)]
    go_enter Try.func42, Try.ntmps42
    go_wp2_with (go_at_call 40; refine (isNaN_any _ _).mono ?_; rintro e w' ⟨rfl, rfl⟩)
    go_ret
    exact ⟨rfl, rfl⟩
  · have ht : (FloatKind.f64.format.order x x != some .eq) = false := by rw [nan_test, decide_eq_false hn]
    have he : decide (rung x < inf) = !decide (rung x = inf) := by
      by_cases e : rung x = inf
      · rw [decide_eq_true e, decide_eq_false (by omega)]; rfl
      · rw [decide_eq_false e, decide_eq_true (by omega)]; rfl
    rw [he]
    clear he
    go_enter Try.func42, Try.ntmps42
    go_wp2_with (first
      | (go_at_call 40; refine (isNaN_any _ _).mono ?_; rintro e w' ⟨rfl, rfl⟩)
      | (go_at_call 52; refine (isInf_any _ _ hx (by omega)).mono ?_; rintro e w' ⟨rfl, rfl⟩))
    go_ret
    exact ⟨by simp, rfl⟩

theorem signbit_any (x : Nat) (w : World) (hx : x < 18446744073709551616) : Calls Try.prog 20 #[.float .f64 x] w fun e w' => e = .returned (.bool (fneg x)) ∧ w = w' := by
  have h0 := run_bits x
  by_cases h : x < 9223372036854775808
  · have hs : fneg x = false := by
      unfold fneg
      rw [Nat.div_eq_of_lt h]; rfl
    rw [hs]
    go_enter Try.func20, Try.ntmps20
    go_wp2
    go_ret
    exact ⟨rfl, rfl⟩
  · have hs : fneg x = true := by
      unfold fneg
      rw [show x / 9223372036854775808 = 1 by omega]; rfl
    rw [hs]
    go_enter Try.func20, Try.ntmps20
    go_wp2
    go_ret
    exact ⟨congrArg (fun b => Ending.returned (.bool b)) (decide_eq_true (by unfold wrap64; omega)), rfl⟩

/-- The sum of those that are numbers, and how many they are. -/
def meanL : List Nat → Nat → Nat → Option (Nat × Nat)
  | [], s, n => some (s, n)
  | x :: l, s, n => if rung x < inf then (floatBits .add .f64 s x).bind fun t => meanL l t (n + 1) else meanL l s n

def vF (x : Nat) : Value := .float .f64 x

set_option maxHeartbeats 1000000 in
theorem mean_any (l : List Nat) (A : Option Addr) (len c B : Nat) (w : World) (hr : Reads w B 1 A len (l.map vF)) (hl : len ≤ 1000) (hx : ∀ x ∈ l, x < 18446744073709551616)
    (s n : Nat) (hm : meanL l 0 0 = some (s, n)) (q : Nat) (ok : Bool)
    (hres : (ok = false ∧ q = 0 ∧ (n = 0 ∨ (decide (rung s < inf)) = false)) ∨ (ok = true ∧ n ≠ 0 ∧ decide (rung s < inf) = true ∧ floatBits .quo .f64 s (intW n) = some q)) :
    Calls Try.prog 25 #[.slice A len c] w fun e w' => e = .returned (.tuple #[.float .f64 q, .bool ok]) ∧ w = w' := by
  have hll : l.length = len := by have := hr.1; simpa using this
  have HL := Lib.hid hll
  clear hll
  have HX := Lib.hid hx
  have HM := Lib.hid hm
  clear hx hm
  go_enter Try.func25, Try.ntmps25
  go_wp2
  go_loop [4, 5, 10, 7] (fun t m i _ => ∃ (k t' n' : Nat), k ≤ len ∧ n' ≤ k ∧ t' < 18446744073709551616 ∧ i = .int .i64 k ∧ t = .float .f64 t' ∧ m = .int .i64 (n' : Int) ∧ meanL (l.drop k) t' n' = some (s, n)) (fun _ _ i _ => len - (intOf i).toNat)
  case atStart => exact ⟨0, 0, 0, by omega, by omega, by omega, rfl, rfl, rfl, HM.out⟩
  case round =>
    obtain ⟨k, t', n', hk, hnk, ht', rfl, rfl, rfl, hmm⟩ := hrel
    have HMM := Lib.hid hmm
    clear hmm
    by_cases hlt : k < len
    · obtain ⟨ad, u, rfl, _, hu, hc⟩ := hr.at_ hlt
      have hkl : k < l.length := by rw [HL.out]; exact hlt
      rw [List.getElem?_map, List.getElem?_eq_getElem hkl] at hu
      simp only [Option.map_some] at hu
      injection hu with hu
      subst hu
      have hc' : w.cell? (ad.add k) = some (.float .f64 l[k]) := hc
      clear hc
      have hxk := HX.out l[k] (List.getElem_mem hkl)
      have HD := Lib.hid (List.drop_eq_getElem_cons hkl)
      generalize l[k] = x at *
      by_cases hf : rung x < inf
      · have hmm := HMM.out
        rw [HD.out] at hmm
        unfold meanL at hmm
        rw [if_pos hf] at hmm
        cases ha : floatBits .add .f64 t' x with
        | none => rw [ha] at hmm; cases hmm
        | some t =>
          rw [ha] at hmm
          have HN := Lib.hid hmm
          clear hmm
          have hadd := fun W : World => run_float_arith (P := Try.prog) W .add 22 .f64 _ _ _ ha
          have hwf : t < 18446744073709551616 := by
            have := floatBits_wf ha
            simpa [Lit.wf] using this
          clear ha
          have hnum : decide (rung x < inf) = true := decide_eq_true hf
          go_wp2_with (go_at_call 42; refine (number_any _ _ hxk).mono ?_; rintro e w' ⟨rfl, rfl⟩)
          go_round
          case rel => exact ⟨k + 1, t, n' + 1, by omega, by omega, hwf, by go_num, rfl, by go_num, HN.out⟩
          case measure => simp [intOf]; omega
      · have hmm := HMM.out
        rw [HD.out] at hmm
        unfold meanL at hmm
        rw [if_neg hf] at hmm
        have HN := Lib.hid hmm
        clear hmm
        have hnum : decide (rung x < inf) = false := decide_eq_false hf
        go_wp2_with (go_at_call 42; refine (number_any _ _ hxk).mono ?_; rintro e w' ⟨rfl, rfl⟩)
        go_round
        case rel => exact ⟨k + 1, t', n', by omega, by omega, ht', by go_num, rfl, rfl, HN.out⟩
        case measure => simp [intOf]; omega
    · obtain rfl : k = len := by omega
      have hmm := HMM.out
      rw [List.drop_of_length_le (by rw [HL.out]; omega)] at hmm
      unfold meanL at hmm
      injection hmm with hmm
      injection hmm with h1 h2
      subst h1 h2
      rcases hres with ⟨rfl, rfl, h0⟩ | ⟨rfl, h0, h1, h2⟩
      · by_cases hn : n' = 0
        · subst hn
          go_wp2_with fail
          go_ret2
          exact ⟨rfl, rfl⟩
        · have hb : ((n' : Int) == 0) = false := by rw [beq_eq_false_iff_ne]; omega
          have h1 := h0.resolve_left hn
          clear h0
          go_wp2_with (go_at_call 42; refine (number_any _ _ ht').mono ?_; rintro e w' ⟨rfl, rfl⟩)
          go_ret2
          exact ⟨rfl, rfl⟩
      · have hb : ((n' : Int) == 0) = false := by rw [beq_eq_false_iff_ne]; omega
        have hq := floatOfInt_word (n := n') (by omega)
        have hdiv := fun W : World => run_float_arith (P := Try.prog) W .quo 22 .f64 _ _ _ h2
        clear h2 h0
        go_wp2_with (go_at_call 42; refine (number_any _ _ ht').mono ?_; rintro e w' ⟨rfl, rfl⟩)
        go_ret2
        exact ⟨rfl, rfl⟩

end Go.Proofs.Ythhgmanoifpoiaa

/- The walk of GainOrder. -/
import Derived.Test.YthhgmanoifpoiaaAw1
import Derived.Deep.QuietTactic
import Derived.BigQuiet
namespace Go.Proofs.Ythhgmanoifpoiaa
open Go.RowKit

theorem fixW_inf (x : Nat) : fixW x ≤ inf := Nat.le_trans (fixW_le x) one_inf

set_option maxHeartbeats 1000000 in
theorem order_tt0 (x y : Nat) (p r : Nat) (w : World) (hx : x < 18446744073709551616) (hy : y < 18446744073709551616) (hp : p ≤ 65535) (hr : r ≤ 65535) (hz : (r : Int) ≤ 9223372036854775807) (w1 : worthB x (r : Int) (r : Int) = false) (w2 : worthB x (-1) (r : Int) = false) (ha : worthB x (p : Int) (r : Int) = true) (hb : worthB y (p : Int) (r : Int) = true) (hlt : p < r) (h0 : ((p : Int) == 0) = true) :
    Calls Try.prog 3 #[.float .f64 x, .float .f64 y, .agg #[.int .u16 (p : Int), .int .u16 (r : Int)]] w fun e w' => e = .returned (.bool true) ∧ Below w.heap.size w w' := by
  have e1 : IntKind.i64.wrap (p : Int) = p := IntWalk.i64_in _ (by omega)
  have e2 : IntKind.i64.wrap (r : Int) = r := IntWalk.i64_in _ (by omega)
  have E1 := Lib.hid e1
  have E2 := Lib.hid e2
  clear e1 e2
  go_enter Try.func3, Try.ntmps3
  go_wp2_with (go_at_call 14; refine (awake1 _).mono ?_; rintro e w1 ⟨rfl, hb1⟩)
  have hc0 : w1.cell? ⟨w.heap.size, 0, none⟩ = some (.int .u16 (p : Int)) := by rw [hb1.cell (by simp)]; simp
  have hc1 : w1.cell? ⟨w.heap.size, 1, none⟩ = some (.int .u16 (r : Int)) := by rw [hb1.cell (by simp)]; simp
  have e1 := E1.out
  have e2 := E2.out
  go_quiet (fail)
  clear e1 e2 hc0 hc1
  have hb2 : Below w.heap.size w (w1.drewN nq) := below_drewN (((Below.refl _ _).alloc (Nat.le_refl _) _).trans (hb1.mono (by simp))) _
  go_wp2_with (first
    | (go_at_call 16; (first | ((with_reducible refine (fix_any x _ hx).mono ?_)) | ((with_reducible refine (fix_any y _ hy).mono ?_))); rintro e w' ⟨rfl, rfl⟩)
    | (go_at_call 15; (first | ((with_reducible refine (worth_any x _ _ _ hx hz).mono ?_)) | ((with_reducible refine (worth_any y _ _ _ hy hz).mono ?_))); rintro e w' ⟨rfl, rfl⟩))
  go_ret
  exact ⟨rfl, hb2⟩

set_option maxHeartbeats 1000000 in
theorem order_tt1 (x y : Nat) (p r : Nat) (w : World) (hx : x < 18446744073709551616) (hy : y < 18446744073709551616) (hp : p ≤ 65535) (hr : r ≤ 65535) (hz : (r : Int) ≤ 9223372036854775807) (w1 : worthB x (r : Int) (r : Int) = false) (w2 : worthB x (-1) (r : Int) = false) (ha : worthB x (p : Int) (r : Int) = true) (hb : worthB y (p : Int) (r : Int) = true) (hlt : p < r) (h0 : ((p : Int) == 0) = false) (h1 : worthB x ((p : Int) - 1) (r : Int) = true) :
    Calls Try.prog 3 #[.float .f64 x, .float .f64 y, .agg #[.int .u16 (p : Int), .int .u16 (r : Int)]] w fun e w' => e = .returned (.bool true) ∧ Below w.heap.size w w' := by
  have e1 : IntKind.i64.wrap (p : Int) = p := IntWalk.i64_in _ (by omega)
  have e2 : IntKind.i64.wrap (r : Int) = r := IntWalk.i64_in _ (by omega)
  have E1 := Lib.hid e1
  have E2 := Lib.hid e2
  clear e1 e2
  go_enter Try.func3, Try.ntmps3
  go_wp2_with (go_at_call 14; refine (awake1 _).mono ?_; rintro e w1 ⟨rfl, hb1⟩)
  have hc0 : w1.cell? ⟨w.heap.size, 0, none⟩ = some (.int .u16 (p : Int)) := by rw [hb1.cell (by simp)]; simp
  have hc1 : w1.cell? ⟨w.heap.size, 1, none⟩ = some (.int .u16 (r : Int)) := by rw [hb1.cell (by simp)]; simp
  have e1 := E1.out
  have e2 := E2.out
  go_quiet (fail)
  clear e1 e2 hc0 hc1
  have hb2 : Below w.heap.size w (w1.drewN nq) := below_drewN (((Below.refl _ _).alloc (Nat.le_refl _) _).trans (hb1.mono (by simp))) _
  go_wp2_with (first
    | (go_at_call 16; (first | ((with_reducible refine (fix_any x _ hx).mono ?_)) | ((with_reducible refine (fix_any y _ hy).mono ?_))); rintro e w' ⟨rfl, rfl⟩)
    | (go_at_call 15; (first | ((with_reducible refine (worth_any x _ _ _ hx hz).mono ?_)) | ((with_reducible refine (worth_any y _ _ _ hy hz).mono ?_))); rintro e w' ⟨rfl, rfl⟩))
  go_ret
  exact ⟨rfl, hb2⟩

set_option maxHeartbeats 1000000 in
theorem order_tf0 (x y : Nat) (p r : Nat) (w : World) (hx : x < 18446744073709551616) (hy : y < 18446744073709551616) (hp : p ≤ 65535) (hr : r ≤ 65535) (hz : (r : Int) ≤ 9223372036854775807) (w1 : worthB x (r : Int) (r : Int) = false) (w2 : worthB x (-1) (r : Int) = false) (ha : worthB x (p : Int) (r : Int) = true) (hb : worthB y (p : Int) (r : Int) = false) (hlt : p < r) (l1 : (FloatKind.f64.format.order (fixW x) (fixW y) == some .lt) = false) (l2 : (FloatKind.f64.format.order (fixW x) (fixW y) == some .eq) = false) (h0 : ((p : Int) == 0) = true) :
    Calls Try.prog 3 #[.float .f64 x, .float .f64 y, .agg #[.int .u16 (p : Int), .int .u16 (r : Int)]] w fun e w' => e = .returned (.bool true) ∧ Below w.heap.size w w' := by
  have e1 : IntKind.i64.wrap (p : Int) = p := IntWalk.i64_in _ (by omega)
  have e2 : IntKind.i64.wrap (r : Int) = r := IntWalk.i64_in _ (by omega)
  have E1 := Lib.hid e1
  have E2 := Lib.hid e2
  clear e1 e2
  go_enter Try.func3, Try.ntmps3
  go_wp2_with (go_at_call 14; refine (awake1 _).mono ?_; rintro e w1 ⟨rfl, hb1⟩)
  have hc0 : w1.cell? ⟨w.heap.size, 0, none⟩ = some (.int .u16 (p : Int)) := by rw [hb1.cell (by simp)]; simp
  have hc1 : w1.cell? ⟨w.heap.size, 1, none⟩ = some (.int .u16 (r : Int)) := by rw [hb1.cell (by simp)]; simp
  have e1 := E1.out
  have e2 := E2.out
  go_quiet (fail)
  clear e1 e2 hc0 hc1
  have hb2 : Below w.heap.size w (w1.drewN nq) := below_drewN (((Below.refl _ _).alloc (Nat.le_refl _) _).trans (hb1.mono (by simp))) _
  go_wp2_with (first
    | (go_at_call 16; (first | ((with_reducible refine (fix_any x _ hx).mono ?_)) | ((with_reducible refine (fix_any y _ hy).mono ?_))); rintro e w' ⟨rfl, rfl⟩)
    | (go_at_call 15; (first | ((with_reducible refine (worth_any x _ _ _ hx hz).mono ?_)) | ((with_reducible refine (worth_any y _ _ _ hy hz).mono ?_))); rintro e w' ⟨rfl, rfl⟩))
  go_ret
  exact ⟨rfl, hb2⟩

set_option maxHeartbeats 1000000 in
theorem order_tf1 (x y : Nat) (p r : Nat) (w : World) (hx : x < 18446744073709551616) (hy : y < 18446744073709551616) (hp : p ≤ 65535) (hr : r ≤ 65535) (hz : (r : Int) ≤ 9223372036854775807) (w1 : worthB x (r : Int) (r : Int) = false) (w2 : worthB x (-1) (r : Int) = false) (ha : worthB x (p : Int) (r : Int) = true) (hb : worthB y (p : Int) (r : Int) = false) (hlt : p < r) (l1 : (FloatKind.f64.format.order (fixW x) (fixW y) == some .lt) = false) (l2 : (FloatKind.f64.format.order (fixW x) (fixW y) == some .eq) = false) (h0 : ((p : Int) == 0) = false) (h1 : worthB x ((p : Int) - 1) (r : Int) = true) :
    Calls Try.prog 3 #[.float .f64 x, .float .f64 y, .agg #[.int .u16 (p : Int), .int .u16 (r : Int)]] w fun e w' => e = .returned (.bool true) ∧ Below w.heap.size w w' := by
  have e1 : IntKind.i64.wrap (p : Int) = p := IntWalk.i64_in _ (by omega)
  have e2 : IntKind.i64.wrap (r : Int) = r := IntWalk.i64_in _ (by omega)
  have E1 := Lib.hid e1
  have E2 := Lib.hid e2
  clear e1 e2
  go_enter Try.func3, Try.ntmps3
  go_wp2_with (go_at_call 14; refine (awake1 _).mono ?_; rintro e w1 ⟨rfl, hb1⟩)
  have hc0 : w1.cell? ⟨w.heap.size, 0, none⟩ = some (.int .u16 (p : Int)) := by rw [hb1.cell (by simp)]; simp
  have hc1 : w1.cell? ⟨w.heap.size, 1, none⟩ = some (.int .u16 (r : Int)) := by rw [hb1.cell (by simp)]; simp
  have e1 := E1.out
  have e2 := E2.out
  go_quiet (fail)
  clear e1 e2 hc0 hc1
  have hb2 : Below w.heap.size w (w1.drewN nq) := below_drewN (((Below.refl _ _).alloc (Nat.le_refl _) _).trans (hb1.mono (by simp))) _
  go_wp2_with (first
    | (go_at_call 16; (first | ((with_reducible refine (fix_any x _ hx).mono ?_)) | ((with_reducible refine (fix_any y _ hy).mono ?_))); rintro e w' ⟨rfl, rfl⟩)
    | (go_at_call 15; (first | ((with_reducible refine (worth_any x _ _ _ hx hz).mono ?_)) | ((with_reducible refine (worth_any y _ _ _ hy hz).mono ?_))); rintro e w' ⟨rfl, rfl⟩))
  go_ret
  exact ⟨rfl, hb2⟩

set_option maxHeartbeats 1000000 in
theorem order_ft (x y : Nat) (p r : Nat) (w : World) (hx : x < 18446744073709551616) (hy : y < 18446744073709551616) (hp : p ≤ 65535) (hr : r ≤ 65535) (hz : (r : Int) ≤ 9223372036854775807) (w1 : worthB x (r : Int) (r : Int) = false) (w2 : worthB x (-1) (r : Int) = false) (ha : worthB x (p : Int) (r : Int) = false) (hb : worthB y (p : Int) (r : Int) = true) (l1 : (FloatKind.f64.format.order (fixW y) (fixW x) == some .lt) = false) (l2 : (FloatKind.f64.format.order (fixW y) (fixW x) == some .eq) = false) :
    Calls Try.prog 3 #[.float .f64 x, .float .f64 y, .agg #[.int .u16 (p : Int), .int .u16 (r : Int)]] w fun e w' => e = .returned (.bool true) ∧ Below w.heap.size w w' := by
  have e1 : IntKind.i64.wrap (p : Int) = p := IntWalk.i64_in _ (by omega)
  have e2 : IntKind.i64.wrap (r : Int) = r := IntWalk.i64_in _ (by omega)
  have E1 := Lib.hid e1
  have E2 := Lib.hid e2
  clear e1 e2
  go_enter Try.func3, Try.ntmps3
  go_wp2_with (go_at_call 14; refine (awake1 _).mono ?_; rintro e w1 ⟨rfl, hb1⟩)
  have hc0 : w1.cell? ⟨w.heap.size, 0, none⟩ = some (.int .u16 (p : Int)) := by rw [hb1.cell (by simp)]; simp
  have hc1 : w1.cell? ⟨w.heap.size, 1, none⟩ = some (.int .u16 (r : Int)) := by rw [hb1.cell (by simp)]; simp
  have e1 := E1.out
  have e2 := E2.out
  go_quiet (fail)
  clear e1 e2 hc0 hc1
  have hb2 : Below w.heap.size w (w1.drewN nq) := below_drewN (((Below.refl _ _).alloc (Nat.le_refl _) _).trans (hb1.mono (by simp))) _
  go_wp2_with (first
    | (go_at_call 16; (first | ((with_reducible refine (fix_any x _ hx).mono ?_)) | ((with_reducible refine (fix_any y _ hy).mono ?_))); rintro e w' ⟨rfl, rfl⟩)
    | (go_at_call 15; (first | ((with_reducible refine (worth_any x _ _ _ hx hz).mono ?_)) | ((with_reducible refine (worth_any y _ _ _ hy hz).mono ?_))); rintro e w' ⟨rfl, rfl⟩))
  go_ret
  exact ⟨rfl, hb2⟩

set_option maxHeartbeats 1000000 in
theorem order_ff (x y : Nat) (p r : Nat) (w : World) (hx : x < 18446744073709551616) (hy : y < 18446744073709551616) (hp : p ≤ 65535) (hr : r ≤ 65535) (hz : (r : Int) ≤ 9223372036854775807) (w1 : worthB x (r : Int) (r : Int) = false) (w2 : worthB x (-1) (r : Int) = false) (ha : worthB x (p : Int) (r : Int) = false) (hb : worthB y (p : Int) (r : Int) = false) :
    Calls Try.prog 3 #[.float .f64 x, .float .f64 y, .agg #[.int .u16 (p : Int), .int .u16 (r : Int)]] w fun e w' => e = .returned (.bool true) ∧ Below w.heap.size w w' := by
  have e1 : IntKind.i64.wrap (p : Int) = p := IntWalk.i64_in _ (by omega)
  have e2 : IntKind.i64.wrap (r : Int) = r := IntWalk.i64_in _ (by omega)
  have E1 := Lib.hid e1
  have E2 := Lib.hid e2
  clear e1 e2
  go_enter Try.func3, Try.ntmps3
  go_wp2_with (go_at_call 14; refine (awake1 _).mono ?_; rintro e w1 ⟨rfl, hb1⟩)
  have hc0 : w1.cell? ⟨w.heap.size, 0, none⟩ = some (.int .u16 (p : Int)) := by rw [hb1.cell (by simp)]; simp
  have hc1 : w1.cell? ⟨w.heap.size, 1, none⟩ = some (.int .u16 (r : Int)) := by rw [hb1.cell (by simp)]; simp
  have e1 := E1.out
  have e2 := E2.out
  go_quiet (fail)
  clear e1 e2 hc0 hc1
  have hb2 : Below w.heap.size w (w1.drewN nq) := below_drewN (((Below.refl _ _).alloc (Nat.le_refl _) _).trans (hb1.mono (by simp))) _
  go_wp2_with (first
    | (go_at_call 16; (first | ((with_reducible refine (fix_any x _ hx).mono ?_)) | ((with_reducible refine (fix_any y _ hy).mono ?_))); rintro e w' ⟨rfl, rfl⟩)
    | (go_at_call 15; (first | ((with_reducible refine (worth_any x _ _ _ hx hz).mono ?_)) | ((with_reducible refine (worth_any y _ _ _ hy hz).mono ?_))); rintro e w' ⟨rfl, rfl⟩))
  go_ret
  exact ⟨rfl, hb2⟩

theorem walkOrder (x y : Nat) (p r : Nat) (w : World) (hx : x < 18446744073709551616) (hy : y < 18446744073709551616) (hp : p ≤ 65535) (hr : r ≤ 65535) :
    Calls Try.prog 3 #[.float .f64 x, .float .f64 y, .agg #[.int .u16 (p : Int), .int .u16 (r : Int)]] w fun e w' => e = .returned (.bool true) ∧ Below w.heap.size w w' := by
  have hz : (r : Int) ≤ 9223372036854775807 := by omega
  have w1 := worth_same x (r : Int)
  have w2 := worth_neg x (r : Int)
  have l1 := leq_words (fixW_inf x) (fixW_inf y)
  have l2 := leq_words (fixW_inf y) (fixW_inf x)
  rw [← fmt] at l1 l2
  cases ha : worthB x (p : Int) (r : Int) with
  | true =>
    have hlt : p < r := by have := (worth_in ha).2.2.1; omega
    cases hb : worthB y (p : Int) (r : Int) with
    | true =>
      by_cases h0 : p = 0
      · exact order_tt0 x y p r w hx hy hp hr hz w1 w2 ha hb hlt (by rw [beq_iff_eq]; omega)
      · exact order_tt1 x y p r w hx hy hp hr hz w1 w2 ha hb hlt (by rw [beq_eq_false_iff_ne]; omega) (worth_less ha (by omega))
    | false =>
      rw [decide_eq_false (fun h => by rw [worth_mono ha h] at hb; cases hb), Bool.or_eq_false_iff] at l1
      by_cases h0 : p = 0
      · exact order_tf0 x y p r w hx hy hp hr hz w1 w2 ha hb hlt l1.1 l1.2 (by rw [beq_iff_eq]; omega)
      · exact order_tf1 x y p r w hx hy hp hr hz w1 w2 ha hb hlt l1.1 l1.2 (by rw [beq_eq_false_iff_ne]; omega) (worth_less ha (by omega))
  | false =>
    cases hb : worthB y (p : Int) (r : Int) with
    | true =>
      rw [decide_eq_false (fun h => by rw [worth_mono hb h] at ha; cases ha), Bool.or_eq_false_iff] at l2
      exact order_ft x y p r w hx hy hp hr hz w1 w2 ha hb l2.1 l2.2
    | false => exact order_ff x y p r w hx hy hp hr hz w1 w2 ha hb

end Go.Proofs.Ythhgmanoifpoiaa

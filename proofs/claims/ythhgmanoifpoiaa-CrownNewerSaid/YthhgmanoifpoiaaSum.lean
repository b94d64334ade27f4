/- What tally.More, tally.Sum and the references' More and Sum return: the sum of bytes as the plain law has it. -/
import Derived.Test.YthhgmanoifpoiaaProg
import Derived.Test.YthhgmanoifpoiaaCrc
import Derived.Test.YthhgmanoifpoiaaWords
import Derived.WalkKit
import Derived.Lib.Hide
import Derived.Outline
import Derived.KernelRfl
namespace Go.Proofs.Ythhgmanoifpoiaa
open Go.RowKit

/-- Words of the walk's own, closed to its simp. -/
def inv (s : B32) : B32 := ~~~ s
def enter (x : B32) (b : B8) : B32 := x ^^^ (b.setWidth 32 <<< 24)
def twice (x : B32) : B32 := x <<< 1
def folded (x : B32) : B32 := x ^^^ 1947962583#32
def Top (x : B32) : Bool := x.msb

theorem not32 (s : B32) : bits .xor .u32 IntKind.u32.max (I32 s) = I32 (inv s) := by
  have h : IntKind.u32.max = I32 4294967295#32 := by decide
  rw [h, xor32]
  rfl
theorem shl24 (x : B32) (b : B8) : bits .xor .u32 (I32 x) (I8 b * 16777216) = I32 (enter x b) := by
  have h : I8 b * (16777216 : Int) = I32 (b.setWidth 32 <<< 24 : B32) := by
    have := b.isLt
    unfold I8 I32
    rw [BitVec.toNat_shiftLeft, BitVec.toNat_setWidth, Nat.shiftLeft_eq]; omega
  rw [h, xor32]; rfl
theorem shl1 (x : B32) : I32 x * 2 % 4294967296 = I32 (twice x) := by
  unfold I32 twice
  rw [BitVec.toNat_shiftLeft, Nat.shiftLeft_eq]; omega
theorem eats_take (r : B32) (bs : List B8) (k : Nat) (b : B8) (h : bs[k]? = some b) : eats r (bs.take (k + 1)) = eat (eats r (bs.take k)) b := by
  rw [List.take_add_one, h]; unfold eats; simp
theorem top_of (x : B32) : bits .and .u32 (I32 x) 2147483648 = if Top x then 2147483648 else 0 := by
  have h := u32_and_nat x.toNat 2147483648 x.isLt (by decide)
  have e : x.toNat &&& 2147483648 = if Top x then 2147483648 else 0 := by
    have h1 : (2147483648 : Nat) = 2 ^ 31 := by decide
    unfold Top
    rw [BitVec.msb_eq_getLsbD_last, h1]
    show _ = if x.toNat.testBit 31 then _ else _
    apply Nat.eq_of_testBit_eq
    intro i
    rw [Nat.testBit_and, Nat.testBit_two_pow]
    by_cases e : 31 = i
    · subst e
      cases x.toNat.testBit 31
      · simp
      · rw [if_pos rfl, Nat.testBit_two_pow]; simp
    · cases x.toNat.testBit 31
      · simp [e]
      · rw [if_pos rfl, Nat.testBit_two_pow]; simp [e]
  unfold I32
  rw [show ((2147483648 : Int)) = ((2147483648 : Nat) : Int) from rfl, h, e]
  cases Top x <;> rfl
theorem top_yes {x : B32} (h : Top x = true) : bits .and .u32 (I32 x) 2147483648 = 2147483648 := by rw [top_of, h]; rfl
theorem top_no {x : B32} (h : Top x = false) : bits .and .u32 (I32 x) 2147483648 = 0 := by rw [top_of, h]; rfl
theorem iter_yes {j : Nat} {x : B32} (h : Hid (Top (iter j x) = true)) : iter (j + 1) x = folded (twice (iter j x)) := by
  have h := h.out
  unfold Top at h
  show step _ = _
  unfold step; rw [h]; rfl
theorem iter_no {j : Nat} {x : B32} (h : Hid (Top (iter j x) = false)) : iter (j + 1) x = twice (iter j x) := by
  have h := h.out
  unfold Top at h
  show step _ = _
  unfold step; rw [h]; rfl
theorem xorPoly (x : B32) : bits .xor .u32 (I32 x) 1947962583 = I32 (folded x) := xor32 x 1947962583#32
theorem eat_enter (x : B32) (b : B8) : eat x b = iter 8 (enter x b) := rfl
theorem more_inv (s : B32) (bs : List B8) : more s bs = inv (eats (inv s) bs) := rfl

set_option maxHeartbeats 1000000 in
theorem more_any (s : B32) (A : Option Addr) (n c : Nat) (bs : List B8) (B : Nat) (w : World) (hr : Rd w B A n bs) (hn : n ≤ 1000000) :
    Calls Try.prog 53 #[.int .u32 (I32 s), .slice A n c] w fun e w' => e = .returned (.int .u32 (I32 (more s bs))) ∧ w = w' := by
  have hnot := not32 s
  go_enter Try.func53, Try.ntmps53
  go_wp2
  clear hnot
  go_loop [5, 13, 7, 8, 22] (fun r i _ _ _ => ∃ (k : Nat), k ≤ n ∧ i = .int .i64 k ∧ r = .int .u32 (I32 (eats (inv s) (bs.take k)))) (fun _ i _ _ _ => n - (intOf i).toNat)
  case atStart => exact ⟨0, by omega, rfl, rfl⟩
  case round =>
    obtain ⟨k, hk, rfl, rfl⟩ := hrel
    by_cases hlt : k < n
    · obtain ⟨ad, b, rfl, _, hb, hc⟩ := hr.at_ hlt
      have HB := Lib.hid hb
      clear hb
      have hb1 := (I8.bd b).1
      have hb2 := (I8.bd b).2
      go_wp2
      go_loop [5, 8, 22] (fun r _ i => ∃ (j : Nat), j ≤ 8 ∧ i = .int .i64 j ∧ r = .int .u32 (I32 (iter j (enter (eats (inv s) (bs.take k)) b)))) (fun _ _ i => 8 - (intOf i).toNat)
      case atStart => exact ⟨0, by omega, rfl, by rw [shl24]; rfl⟩
      case round =>
        obtain ⟨j, hj, rfl, rfl⟩ := hrel
        by_cases hlt2 : j < 8
        · cases hm : Top (iter j (enter (eats (inv s) (bs.take k)) b)) with
          | true =>
            have ht := top_yes hm
            have HM := Lib.hid hm
            clear hm
            go_wp2
            go_round
            case rel => exact ⟨j + 1, by omega, by go_num, by rw [iter_yes HM, shl1, xorPoly]⟩
            case measure => simp [intOf]; omega
          | false =>
            have ht := top_no hm
            have HM := Lib.hid hm
            clear hm
            go_wp2
            go_round
            case rel => exact ⟨j + 1, by omega, by go_num, by rw [iter_no HM, shl1]⟩
            case measure => simp [intOf]; omega
        · obtain rfl : j = 8 := by omega
          go_wp2
          go_round
          case rel => exact ⟨k + 1, by omega, by go_num, by rw [eats_take _ _ _ _ HB.out, eat_enter]⟩
          case measure => simp [intOf]; omega
    · obtain rfl : k = n := by omega
      have HT := Lib.hid (List.take_of_length_le (l := bs) (i := k) (by rw [hr.len]; omega))
      have hnot := not32 (eats (inv s) (bs.take k))
      go_wp2
      go_ret
      exact ⟨by rw [more_inv]; rw [HT.out] at *; rfl, rfl⟩

theorem top_half {x : B32} (h : Top x = true) : I32 x / 2147483648 = 1 := by
  unfold Top at h
  rw [BitVec.msb_eq_true_iff_two_mul_ge] at h
  unfold I32
  have := x.isLt
  omega
theorem low_half {x : B32} (h : Top x = false) : I32 x / 2147483648 = 0 := by
  unfold Top at h
  rw [BitVec.msb_eq_false_iff_two_mul_lt] at h
  unfold I32
  omega

theorem twice_low {x : B32} (h : Hid (Top x = false)) : I32 x * 2 = I32 (twice x) := by
  have h := h.out
  unfold Top at h
  rw [BitVec.msb_eq_false_iff_two_mul_lt] at h
  unfold I32 twice
  rw [BitVec.toNat_shiftLeft, Nat.shiftLeft_eq]
  omega

set_option maxHeartbeats 1000000 in
theorem refMore_any (s : B32) (A : Option Addr) (n c : Nat) (bs : List B8) (B : Nat) (w : World) (hr : Rd w B A n bs) (hn : n ≤ 1000000) :
    Calls Try.prog 54 #[.int .u32 (I32 s), .slice A n c] w fun e w' => e = .returned (.int .u32 (I32 (more s bs))) ∧ w = w' := by
  have hnot := not32 s
  go_enter Try.func54, Try.ntmps54
  go_wp2
  clear hnot
  go_loop [0, 5, 6, 7] (fun r i _ _ => ∃ (k : Nat), k ≤ n ∧ i = .int .i64 k ∧ r = .int .u32 (I32 (eats (inv s) (bs.take k)))) (fun _ i _ _ => n - (intOf i).toNat)
  case atStart => exact ⟨0, by omega, rfl, rfl⟩
  case round =>
    obtain ⟨k, hk, rfl, rfl⟩ := hrel
    by_cases hlt : k < n
    · obtain ⟨ad, b, rfl, _, hb, hc⟩ := hr.at_ hlt
      have HB := Lib.hid hb
      clear hb
      have hb1 := (I8.bd b).1
      have hb2 := (I8.bd b).2
      go_wp2
      go_loop [0, 6, 7] (fun r i _ => ∃ (j : Nat), j ≤ 8 ∧ i = .int .i64 j ∧ r = .int .u32 (I32 (iter j (enter (eats (inv s) (bs.take k)) b)))) (fun _ i _ => 8 - (intOf i).toNat)
      case atStart => exact ⟨0, by omega, rfl, by rw [shl24]; rfl⟩
      case round =>
        obtain ⟨j, hj, rfl, rfl⟩ := hrel
        have hb3 := (I32.bd (iter j (enter (eats (inv s) (bs.take k)) b))).1
        have hb4 := (I32.bd (iter j (enter (eats (inv s) (bs.take k)) b))).2
        by_cases hlt2 : j < 8
        · cases hm : Top (iter j (enter (eats (inv s) (bs.take k)) b)) with
          | true =>
            have ht := top_half hm
            have HM := Lib.hid hm
            clear hm
            go_wp2
            go_round
            case rel => exact ⟨j + 1, by omega, by go_num, by rw [iter_yes HM, shl1, xorPoly]⟩
            case measure => simp [intOf]; omega
          | false =>
            have ht := low_half hm
            have HM := Lib.hid hm
            clear hm
            go_wp2
            go_round
            case rel => exact ⟨j + 1, by omega, by go_num, by rw [iter_no HM, twice_low HM]⟩
            case measure => simp [intOf]; omega
        · obtain rfl : j = 8 := by omega
          go_wp2
          go_round
          case rel => exact ⟨k + 1, by omega, by go_num, by rw [eats_take _ _ _ _ HB.out, eat_enter]⟩
          case measure => simp [intOf]; omega
    · obtain rfl : k = n := by omega
      have HT := Lib.hid (List.take_of_length_le (l := bs) (i := k) (by rw [hr.len]; omega))
      have hnot := not32 (eats (inv s) (bs.take k))
      go_wp2
      go_ret
      exact ⟨by rw [more_inv]; rw [HT.out] at *; rfl, rfl⟩

theorem more_zero (A : Option Addr) (n c : Nat) (bs : List B8) (B : Nat) (w : World) (hr : Rd w B A n bs) (hn : n ≤ 1000000) :
    Calls Try.prog 53 #[.int .u32 0, .slice A n c] w fun e w' => e = .returned (.int .u32 (I32 (more 0#32 bs))) ∧ w = w' := more_any 0#32 A n c bs B w hr hn
theorem refMore_zero (A : Option Addr) (n c : Nat) (bs : List B8) (B : Nat) (w : World) (hr : Rd w B A n bs) (hn : n ≤ 1000000) :
    Calls Try.prog 54 #[.int .u32 0, .slice A n c] w fun e w' => e = .returned (.int .u32 (I32 (more 0#32 bs))) ∧ w = w' := refMore_any 0#32 A n c bs B w hr hn

/-- The sum of bytes. -/
def sum (bs : List B8) : B32 := more 0#32 bs

theorem sum_any (A : Option Addr) (n c : Nat) (bs : List B8) (B : Nat) (w : World) (hr : Rd w B A n bs) (hn : n ≤ 1000000) :
    Calls Try.prog 44 #[.slice A n c] w fun e w' => e = .returned (.int .u32 (I32 (sum bs))) ∧ w = w' := by
  go_enter Try.func44, Try.ntmps44
  go_wp2_with (go_at_call 53; refine (more_zero _ _ _ _ _ _ hr hn).mono ?_; rintro e w' ⟨rfl, rfl⟩)
  go_ret
  exact ⟨rfl, rfl⟩
theorem refSum_any (A : Option Addr) (n c : Nat) (bs : List B8) (B : Nat) (w : World) (hr : Rd w B A n bs) (hn : n ≤ 1000000) :
    Calls Try.prog 46 #[.slice A n c] w fun e w' => e = .returned (.int .u32 (I32 (sum bs))) ∧ w = w' := by
  go_enter Try.func46, Try.ntmps46
  go_wp2_with (go_at_call 54; refine (refMore_zero _ _ _ _ _ _ hr hn).mono ?_; rintro e w' ⟨rfl, rfl⟩)
  go_ret
  exact ⟨rfl, rfl⟩

theorem info5 : (Try.prog.info? 5).map (fun i => (i.zero, i.size, i.bytes)) = some (some (.int .u8 0), 1, 1) := by kernel_rfl
end Go.Proofs.Ythhgmanoifpoiaa

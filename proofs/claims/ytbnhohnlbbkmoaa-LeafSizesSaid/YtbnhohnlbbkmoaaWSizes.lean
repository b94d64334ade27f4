/- The walk of LeafSizes. -/
import Derived.Test.YtbnhohnlbbkmoaaAw5
import Derived.WalkSpells
import Derived.Outline
namespace Go.Proofs.Ytbnhohnlbbkmoaa
open Go.RowKit
set_option linter.unusedVariables false

theorem blocks_is (z : Int) (r : Int) (w : World) (h : (if 0 ≤ z ∧ z ≤ 4096 then ((blocksN z.toNat : Nat) : Int) else 0) = r) : Calls Try.prog 23 #[.int .i64 z] w fun e w' => e = .returned (.int .i64 r) ∧ w = w' := by
  subst h; exact blocks_any z w

theorem make_nought (k : Nat) (w1 : World) (hk : k ≤ 4096) :
    Calls Try.prog 21 #[.int .u8 1, .int .i64 0, .slice (some ⟨w1.heap.size, 0, none⟩) k k] (w1.alloc (.cells (zeros k) 5)) fun e w' =>
      (∃ g, e = .returned (.tuple #[.slice (some ⟨g, 0, none⟩) (64 * blocksN k) (64 * blocksN k), .int .i64 0])) ∧ Below w1.heap.size w1 w' := by
  have hs : (w1.alloc (.cells (zeros k) 5)).heap.size = w1.heap.size + 1 := by show (w1.heap.push _).size = _; rw [Array.size_push]
  have hr := rd_zeros w1 _ k 5 (0, 0) rfl
  rw [← hs] at hr
  refine (make_ok 1#8 0#32 _ k k _ _ hr hk (by decide)).mono ?_
  rintro e w' ⟨rfl, _, hb⟩
  exact ⟨⟨_, rfl⟩, ((Below.refl _ _).alloc (Nat.le_refl _) _).trans (hb.mono (by omega))⟩

set_option maxHeartbeats 2000000 in
theorem walkSizes (a0 a1 : Int) (w : World) (h0 : 0 ≤ a0 ∧ a0 ≤ 65535) (h1 : 0 ≤ a1 ∧ a1 ≤ 255) :
    Calls Try.prog 9 #[.int .u16 a0, .int .u8 a1] w fun e w' => e = .returned (.bool true) ∧ Below w.heap.size w w' := by
  obtain ⟨i0, hi, hz0, hz1, hz2⟩ := info_parts info5
  obtain ⟨K, hK⟩ : ∃ K : Nat, a0 % 4097 = (K : Int) := Int.eq_ofNat_of_zero_le (Int.emod_nonneg _ (by omega))
  have hKb : K ≤ 4096 := by omega
  obtain ⟨b, hb⟩ : ∃ b, b = blocksN K := ⟨_, rfl⟩
  obtain ⟨N, hN⟩ : ∃ N, N = 64 * blocksN K := ⟨_, rfl⟩
  have hNb : (b : Int) * 64 = (N : Int) := by omega
  have hbv : b = (K + 79) / 64 := by rw [hb]; rfl
  have f1 : (K : Int) + 16 ≤ (N : Int) := by omega
  have f2 : (N : Int) < (K : Int) + 16 + 64 := by omega
  have hb65 : b ≤ 65 := by omega
  obtain ⟨Z, hZ⟩ : ∃ Z, Z = zeros 4097 := ⟨_, rfl⟩
  have m1 := make_zeros (P := Try.prog) 22 5 i0 Try.underlying22 hi hz0 hz1 hz2 K (by omega)
  have m2 : ∀ w : World, (Instr.makeSlice 22 (.int .i64 4097) (.int .i64 4097)).run Try.prog w = .ok (.slice (some ⟨w.heap.size, 0, none⟩) 4097 4097) (w.alloc (.cells Z 5)) := by
    rw [hZ]
    exact make_zeros (P := Try.prog) 22 5 i0 Try.underlying22 hi hz0 hz1 hz2 4097 (by omega)
  clear hZ
  have MK := fun w1 => Lib.hid (make_nought K w1 hKb)
  rw [← hN] at MK
  have ML : ∀ (w1 : World), Hid (Calls Try.prog 21 #[.int .u8 1, .int .i64 0, .slice (some ⟨w1.heap.size, 0, none⟩) 4097 4097] (w1.alloc (.cells Z 5)) fun e w' => e = .returned (.tuple #[.slice none 0 0, .int .i64 3]) ∧ Below w1.heap.size w1 w') :=
    fun (w1 : World) => (make_long 1#8 0 (some ⟨w1.heap.size, 0, none⟩) 4097 4097 _ (by omega) (by omega) (by omega)).mono (by
      rintro e w' ⟨rfl, rfl⟩
      exact ⟨rfl, (Below.refl _ _).alloc (Nat.le_refl _) _⟩)
  have MG : ∀ w1 : World, Hid (Calls Try.prog 21 #[.int .u8 1, .int .i64 (-1), .slice none 0 0] w1 fun e w' => e = .returned (.tuple #[.slice none 0 0, .int .i64 1]) ∧ w1 = w') :=
    fun w1 => make_gen 1#8 (-1) none 0 0 w1 (.inl (by omega))
  have BK := fun w => Lib.hid (blocks_is (K : Int) (b : Int) w (by rw [if_pos ⟨by omega, by omega⟩, hb]; rfl))
  have Bm := fun w => Lib.hid (blocks_is (-1) 0 w (by decide))
  have BL := fun w => Lib.hid (blocks_is 4097 0 w (by decide))
  have B0 := fun w => Lib.hid (blocks_is 0 1 w (by decide))
  by_cases hbig : 4096 < (K : Int) + a1 * 64
  · have BM := fun w => Lib.hid (blocks_is 4096 65 w (by decide))
    have f3 : 65 - (b : Int) ≤ a1 := by omega
    clear hb hN hbv
    go_enter Try.func9, Try.ntmps9
    go_wp2_with (first
      | (go_at_call 20; refine (awake5 _).mono ?_; rintro e w1 ⟨rfl, hb1⟩)
      | (go_at_call 23; with_reducible refine (BK _).out.mono ?_; rintro e w1 ⟨rfl, rfl⟩)
      | (go_at_call 23; with_reducible refine (Bm _).out.mono ?_; rintro e w1 ⟨rfl, rfl⟩)
      | (go_at_call 23; with_reducible refine (BL _).out.mono ?_; rintro e w1 ⟨rfl, rfl⟩)
      | (go_at_call 23; with_reducible refine (B0 _).out.mono ?_; rintro e w1 ⟨rfl, rfl⟩)
      | (go_at_call 23; with_reducible refine (BM _).out.mono ?_; rintro e w1 ⟨rfl, rfl⟩)
      | (go_at_call 21; with_reducible refine (ML _).out.mono ?_; rintro e w3 ⟨rfl, hb3⟩)
      | (go_at_call 21; with_reducible refine (MG _).out.mono ?_; rintro e w4 ⟨rfl, rfl⟩)
      | (go_at_call 21; with_reducible refine (MK _).out.mono ?_; rintro e w2 ⟨⟨g, rfl⟩, hb2⟩))
    go_ret
    exact ⟨rfl, hb1.trans ((hb2.mono hb1.size).trans (hb3.mono (by have := hb1.size; have := hb2.size; omega)))⟩
  by_cases heq : (K : Int) + a1 * 64 = 4096
  · have BM := fun w => Lib.hid (blocks_is 4096 65 w (by decide))
    have f3 : 65 - (b : Int) ≤ a1 := by omega
    have f4 : (b : Int) + a1 = 65 := by omega
    clear hb hN hbv
    go_enter Try.func9, Try.ntmps9
    go_wp2_with (first
      | (go_at_call 20; refine (awake5 _).mono ?_; rintro e w1 ⟨rfl, hb1⟩)
      | (go_at_call 23; with_reducible refine (BK _).out.mono ?_; rintro e w1 ⟨rfl, rfl⟩)
      | (go_at_call 23; with_reducible refine (Bm _).out.mono ?_; rintro e w1 ⟨rfl, rfl⟩)
      | (go_at_call 23; with_reducible refine (BL _).out.mono ?_; rintro e w1 ⟨rfl, rfl⟩)
      | (go_at_call 23; with_reducible refine (B0 _).out.mono ?_; rintro e w1 ⟨rfl, rfl⟩)
      | (go_at_call 23; with_reducible refine (BM _).out.mono ?_; rintro e w1 ⟨rfl, rfl⟩)
      | (go_at_call 21; with_reducible refine (ML _).out.mono ?_; rintro e w3 ⟨rfl, hb3⟩)
      | (go_at_call 21; with_reducible refine (MG _).out.mono ?_; rintro e w4 ⟨rfl, rfl⟩)
      | (go_at_call 21; with_reducible refine (MK _).out.mono ?_; rintro e w2 ⟨⟨g, rfl⟩, hb2⟩))
    go_ret
    exact ⟨rfl, hb1.trans ((hb2.mono hb1.size).trans (hb3.mono (by have := hb1.size; have := hb2.size; omega)))⟩
  · have BM := fun w => Lib.hid (blocks_is ((K : Int) + a1 * 64) (b + a1) w (by rw [if_pos ⟨by omega, by omega⟩]; unfold blocksN; omega))
    have f3 : (b : Int) + a1 - (b : Int) ≤ a1 := by omega
    have f4 : (K : Int) + a1 * 64 < 4096 := by omega
    clear hb hN hbv
    go_enter Try.func9, Try.ntmps9
    go_wp2_with (first
      | (go_at_call 20; refine (awake5 _).mono ?_; rintro e w1 ⟨rfl, hb1⟩)
      | (go_at_call 23; with_reducible refine (BK _).out.mono ?_; rintro e w1 ⟨rfl, rfl⟩)
      | (go_at_call 23; with_reducible refine (Bm _).out.mono ?_; rintro e w1 ⟨rfl, rfl⟩)
      | (go_at_call 23; with_reducible refine (BL _).out.mono ?_; rintro e w1 ⟨rfl, rfl⟩)
      | (go_at_call 23; with_reducible refine (B0 _).out.mono ?_; rintro e w1 ⟨rfl, rfl⟩)
      | (go_at_call 23; with_reducible refine (BM _).out.mono ?_; rintro e w1 ⟨rfl, rfl⟩)
      | (go_at_call 21; with_reducible refine (ML _).out.mono ?_; rintro e w3 ⟨rfl, hb3⟩)
      | (go_at_call 21; with_reducible refine (MG _).out.mono ?_; rintro e w4 ⟨rfl, rfl⟩)
      | (go_at_call 21; with_reducible refine (MK _).out.mono ?_; rintro e w2 ⟨⟨g, rfl⟩, hb2⟩))
    go_ret
    exact ⟨rfl, hb1.trans ((hb2.mono hb1.size).trans (hb3.mono (by have := hb1.size; have := hb2.size; omega)))⟩
end Go.Proofs.Ytbnhohnlbbkmoaa

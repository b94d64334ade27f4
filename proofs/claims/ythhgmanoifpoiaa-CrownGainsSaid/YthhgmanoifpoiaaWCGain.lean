/- The walk of CrownGains. -/
import Derived.Test.YthhgmanoifpoiaaCrK
import Derived.Test.YthhgmanoifpoiaaFlo4
namespace Go.Proofs.Ythhgmanoifpoiaa
open Go.RowKit
set_option linter.unusedVariables false

theorem may_gain (x : Nat) : mayB 2 64 9 x 2 1 1 0 = decide (fixW x = x) := by
  unfold mayB
  rw [show inB 2 1 268435455 = true by decide, show inB 64 64 8192 = true by decide, show inB 9 1 512 = true by decide, show inB 0 0 5 = true by decide, show inB 1 0 2 = true by decide, show inB 1 1 128 = true by decide, show inB 2 2 (64 - 1) = true by decide]
  simp

set_option maxHeartbeats 4000000 in
theorem walkGainNo (x : Nat) (w : World) (hx : x < 18446744073709551616) (hfix : decide (fixW x = x) = false) :
    Calls Try.prog 10 #[.float .f64 x] w fun e w' => e = .returned (.bool true) ∧ Below w.heap.size w w' := by
  have hst := storeFloat
  have hfx : fixW x < 18446744073709551616 := by have := fixW_le x; unfold one at this; omega
  have hm2 : mayB 2 64 9 (fixW x) 2 1 1 0 = true := by rw [may_gain, fix_fix]; simp
  have hm1 : mayB 2 64 9 x 2 1 1 0 = false := by rw [may_gain]; exact hfix
  have hq := fix_beq x
  rw [hfix] at hq
  have hb1 := fun w => run_bits x w
  have hb2 := fun w => run_bits (fixW x) w
  obtain ⟨L, hL⟩ : ∃ L, crownL 2 64 9 2 1 1 0 (fixW x) = L := ⟨_, rfl⟩
  have EN := fun W : World => Lib.hid (enc_rd (w := W) hfx hm2)
  have DE := fun (W : World) (A : Option Addr) (c : Nat) => Lib.hid (@dec_back 2 64 9 (fixW x) 2 1 1 0 A c W hfx hm2)
  rw [hL] at EN DE
  have E1 := fun W : World => Lib.hid (enc_no 2 64 9 x 2 1 1 0 W hx hm1)
  have FX := fun W : World => Lib.hid (fix_any x W hx)
  clear hL hfix hm1 hm2
  generalize hF : fixW x = F at *
  clear hF
  go_enter Try.func10, Try.ntmps10
  go_upto_region 4 with (first
    | (go_at_call 26; refine (awake16 _).mono ?_; rintro e w1 ⟨rfl, hb1⟩; have B1 := Lib.hid hb1; clear hb1)
    | fail)
  have s1 := B1.out.size
  have C2 := Lib.hid (Blk.new w1 42 #[.int .i64 2, .int .i64 64, .int .i64 9, .float .f64 (x), .int .i64 2, .int .i64 1, .int .i64 1, .int .i64 0])
  have B2 := Lib.hid (B1.out.alloc s1 (.cells #[.int .i64 2, .int .i64 64, .int .i64 9, .float .f64 (x), .int .i64 2, .int .i64 1, .int .i64 1, .int .i64 0] 42))
  have s2 : (w1.alloc (.cells #[.int .i64 2, .int .i64 64, .int .i64 9, .float .f64 (x), .int .i64 2, .int .i64 1, .int .i64 1, .int .i64 0] 42)).heap.size = w1.heap.size + 1 := by simp
  generalize hW : w1.alloc (.cells #[.int .i64 2, .int .i64 64, .int .i64 9, .float .f64 (x), .int .i64 2, .int .i64 1, .int .i64 1, .int .i64 0] 42) = w2 at *
  clear hW B1
  generalize w1.heap.size = p at *
  have k0 := C2.out.cell 0
  have k1 := C2.out.cell 1
  have k2 := C2.out.cell 2
  have k3 := C2.out.cell 3
  have k4 := C2.out.cell 4
  have k5 := C2.out.cell 5
  have k6 := C2.out.cell 6
  have k7 := C2.out.cell 7
  simp at k0 k1 k2 k3 k4 k5 k6 k7
  go_wp2_with fail
  refine (crown_any 2 64 9 x 2 1 1 0 _).mono ?_
  rintro e w3 ⟨rfl, hb3⟩
  have s3 := hb3.size
  have C3 := Lib.hid (C2.out.below hb3 (by omega))
  have B3 := Lib.hid (B2.out.trans (hb3.mono (by omega)))
  clear C2 B2 hb3 k0 k1 k2 k3 k4 k5 k6 k7
  go_wp2_with fail
  refine (E1 _).out.mono ?_
  rintro e w4 ⟨rfl, hb4⟩
  have s4 := hb4.size
  have C4 := Lib.hid (C3.out.below hb4 (by omega))
  have B4 := Lib.hid (B3.out.trans (hb4.mono (by omega)))
  clear C3 B3 hb4
  go_upto_region 6 with (first
    | (go_at_call 16; with_reducible refine (FX _).out.mono ?_; rintro e w' ⟨rfl, rfl⟩)
    | fail)
  have k3 := C4.out.cell 3
  have g3 := C4.out.frozen 3
  simp at k3
  go_upto_region 7 with (first
    | (go_at_call 16; with_reducible refine (FX _).out.mono ?_; rintro e w' ⟨rfl, rfl⟩)
    | fail)
  have C5 : Hid (Blk (w4.setCell ⟨p, 3, none⟩ (.float .f64 F)) p 42 #[.int .i64 2, .int .i64 64, .int .i64 9, .float .f64 (F), .int .i64 2, .int .i64 1, .int .i64 1, .int .i64 0]) := by have := C4.out.set_ 3 (.float .f64 F); simp at this; exact this
  have B5 := Lib.hid (B4.out.setCell (p := ⟨p, 3, none⟩) (by show _ ≤ p; omega) (.float .f64 F))
  have s5 : (w4.setCell ⟨p, 3, none⟩ (.float .f64 F)).heap.size = w4.heap.size := by simp
  generalize hW : w4.setCell ⟨p, 3, none⟩ (.float .f64 F) = w5 at *
  clear hW k3 g3 C4 B4
  have k0 := C5.out.cell 0
  have k1 := C5.out.cell 1
  have k2 := C5.out.cell 2
  have k3 := C5.out.cell 3
  have k4 := C5.out.cell 4
  have k5 := C5.out.cell 5
  have k6 := C5.out.cell 6
  have k7 := C5.out.cell 7
  simp at k0 k1 k2 k3 k4 k5 k6 k7
  go_wp2_with fail
  refine (crown_any 2 64 9 F 2 1 1 0 _).mono ?_
  rintro e w6 ⟨rfl, hb6⟩
  have s6 := hb6.size
  have C6 := Lib.hid (C5.out.below hb6 (by omega))
  have B6 := Lib.hid (B5.out.trans (hb6.mono (by omega)))
  clear C5 B5 hb6 k0 k1 k2 k3 k4 k5 k6 k7
  go_wp2_with fail
  refine (EN _).out.mono ?_
  rintro e w7 ⟨A2, c2, rfl, hc2, hr7, hb7⟩
  have s7 := hb7.size
  have C7 := Lib.hid (C6.out.below hb7 (by omega))
  have B7 := Lib.hid (B6.out.trans (hb7.mono (by omega)))
  have R7 := Lib.hid hr7
  clear C6 B6 hb7 hr7
  go_wp2_with fail
  refine ((DE _ _ _).out R7.out hc2).mono ?_
  rintro e w8 ⟨rfl, hb8⟩
  have s8 := hb8.size
  have C8 := Lib.hid (C7.out.below hb8 (by omega))
  have B8' := Lib.hid (B7.out.trans (hb8.mono (by omega)))
  clear C7 B7 hb8 R7
  go_upto_region 9 with fail
  have C9 := Lib.hid (C8.out.alloc (.cells #[.int .i64 2, .int .i64 64, .int .i64 9, .float .f64 (F), .int .i64 2, .int .i64 1, .int .i64 1, .int .i64 0] 51))
  have D9 := Lib.hid (Blk.new w8 51 #[.int .i64 2, .int .i64 64, .int .i64 9, .float .f64 (F), .int .i64 2, .int .i64 1, .int .i64 1, .int .i64 0])
  have B9 := Lib.hid (B8'.out.alloc (by omega) (.cells #[.int .i64 2, .int .i64 64, .int .i64 9, .float .f64 (F), .int .i64 2, .int .i64 1, .int .i64 1, .int .i64 0] 51))
  generalize hW : w8.alloc (.cells #[.int .i64 2, .int .i64 64, .int .i64 9, .float .f64 (F), .int .i64 2, .int .i64 1, .int .i64 1, .int .i64 0] 51) = w9 at *
  clear hW C8 B8'
  have k3 := C9.out.cell 3
  have d3 := D9.out.cell 3
  simp at k3 d3
  go_quiet (fail)
  go_wp2_with fail
  go_ret
  exact ⟨rfl, below_drewN B9.out _⟩
set_option maxHeartbeats 4000000 in
theorem walkGainYes (x : Nat) (w : World) (hx : x < 18446744073709551616) (hfix : decide (fixW x = x) = true) :
    Calls Try.prog 10 #[.float .f64 x] w fun e w' => e = .returned (.bool true) ∧ Below w.heap.size w w' := by
  have hst := storeFloat
  have hfx : fixW x < 18446744073709551616 := by have := fixW_le x; unfold one at this; omega
  have hm2 : mayB 2 64 9 (fixW x) 2 1 1 0 = true := by rw [may_gain, fix_fix]; simp
  have hm1 : mayB 2 64 9 x 2 1 1 0 = true := by rw [may_gain]; exact hfix
  have hq := fix_beq x
  rw [hfix] at hq
  have hb1 := fun w => run_bits x w
  have hb2 := fun w => run_bits (fixW x) w
  obtain ⟨L, hL⟩ : ∃ L, crownL 2 64 9 2 1 1 0 (fixW x) = L := ⟨_, rfl⟩
  have EN := fun W : World => Lib.hid (enc_rd (w := W) hfx hm2)
  have DE := fun (W : World) (A : Option Addr) (c : Nat) => Lib.hid (@dec_back 2 64 9 (fixW x) 2 1 1 0 A c W hfx hm2)
  rw [hL] at EN DE
  have E1 := fun W : World => Lib.hid (enc_rd (w := W) hx hm1)
  have FX := fun W : World => Lib.hid (fix_any x W hx)
  clear hL hfix hm1 hm2
  generalize hF : fixW x = F at *
  clear hF
  go_enter Try.func10, Try.ntmps10
  go_upto_region 4 with (first
    | (go_at_call 26; refine (awake16 _).mono ?_; rintro e w1 ⟨rfl, hb1⟩; have B1 := Lib.hid hb1; clear hb1)
    | fail)
  have s1 := B1.out.size
  have C2 := Lib.hid (Blk.new w1 42 #[.int .i64 2, .int .i64 64, .int .i64 9, .float .f64 (x), .int .i64 2, .int .i64 1, .int .i64 1, .int .i64 0])
  have B2 := Lib.hid (B1.out.alloc s1 (.cells #[.int .i64 2, .int .i64 64, .int .i64 9, .float .f64 (x), .int .i64 2, .int .i64 1, .int .i64 1, .int .i64 0] 42))
  have s2 : (w1.alloc (.cells #[.int .i64 2, .int .i64 64, .int .i64 9, .float .f64 (x), .int .i64 2, .int .i64 1, .int .i64 1, .int .i64 0] 42)).heap.size = w1.heap.size + 1 := by simp
  generalize hW : w1.alloc (.cells #[.int .i64 2, .int .i64 64, .int .i64 9, .float .f64 (x), .int .i64 2, .int .i64 1, .int .i64 1, .int .i64 0] 42) = w2 at *
  clear hW B1
  generalize w1.heap.size = p at *
  have k0 := C2.out.cell 0
  have k1 := C2.out.cell 1
  have k2 := C2.out.cell 2
  have k3 := C2.out.cell 3
  have k4 := C2.out.cell 4
  have k5 := C2.out.cell 5
  have k6 := C2.out.cell 6
  have k7 := C2.out.cell 7
  simp at k0 k1 k2 k3 k4 k5 k6 k7
  go_wp2_with fail
  refine (crown_any 2 64 9 x 2 1 1 0 _).mono ?_
  rintro e w3 ⟨rfl, hb3⟩
  have s3 := hb3.size
  have C3 := Lib.hid (C2.out.below hb3 (by omega))
  have B3 := Lib.hid (B2.out.trans (hb3.mono (by omega)))
  clear C2 B2 hb3 k0 k1 k2 k3 k4 k5 k6 k7
  go_wp2_with fail
  refine (E1 _).out.mono ?_
  rintro e w4 ⟨A1, c1, rfl, hc1, hr4, hb4⟩
  clear hr4 hc1
  have s4 := hb4.size
  have C4 := Lib.hid (C3.out.below hb4 (by omega))
  have B4 := Lib.hid (B3.out.trans (hb4.mono (by omega)))
  clear C3 B3 hb4
  go_upto_region 6 with (first
    | (go_at_call 16; with_reducible refine (FX _).out.mono ?_; rintro e w' ⟨rfl, rfl⟩)
    | fail)
  have k3 := C4.out.cell 3
  have g3 := C4.out.frozen 3
  simp at k3
  go_upto_region 7 with (first
    | (go_at_call 16; with_reducible refine (FX _).out.mono ?_; rintro e w' ⟨rfl, rfl⟩)
    | fail)
  have C5 : Hid (Blk (w4.setCell ⟨p, 3, none⟩ (.float .f64 F)) p 42 #[.int .i64 2, .int .i64 64, .int .i64 9, .float .f64 (F), .int .i64 2, .int .i64 1, .int .i64 1, .int .i64 0]) := by have := C4.out.set_ 3 (.float .f64 F); simp at this; exact this
  have B5 := Lib.hid (B4.out.setCell (p := ⟨p, 3, none⟩) (by show _ ≤ p; omega) (.float .f64 F))
  have s5 : (w4.setCell ⟨p, 3, none⟩ (.float .f64 F)).heap.size = w4.heap.size := by simp
  generalize hW : w4.setCell ⟨p, 3, none⟩ (.float .f64 F) = w5 at *
  clear hW k3 g3 C4 B4
  have k0 := C5.out.cell 0
  have k1 := C5.out.cell 1
  have k2 := C5.out.cell 2
  have k3 := C5.out.cell 3
  have k4 := C5.out.cell 4
  have k5 := C5.out.cell 5
  have k6 := C5.out.cell 6
  have k7 := C5.out.cell 7
  simp at k0 k1 k2 k3 k4 k5 k6 k7
  go_wp2_with fail
  refine (crown_any 2 64 9 F 2 1 1 0 _).mono ?_
  rintro e w6 ⟨rfl, hb6⟩
  have s6 := hb6.size
  have C6 := Lib.hid (C5.out.below hb6 (by omega))
  have B6 := Lib.hid (B5.out.trans (hb6.mono (by omega)))
  clear C5 B5 hb6 k0 k1 k2 k3 k4 k5 k6 k7
  go_wp2_with fail
  refine (EN _).out.mono ?_
  rintro e w7 ⟨A2, c2, rfl, hc2, hr7, hb7⟩
  have s7 := hb7.size
  have C7 := Lib.hid (C6.out.below hb7 (by omega))
  have B7 := Lib.hid (B6.out.trans (hb7.mono (by omega)))
  have R7 := Lib.hid hr7
  clear C6 B6 hb7 hr7
  go_wp2_with fail
  refine ((DE _ _ _).out R7.out hc2).mono ?_
  rintro e w8 ⟨rfl, hb8⟩
  have s8 := hb8.size
  have C8 := Lib.hid (C7.out.below hb8 (by omega))
  have B8' := Lib.hid (B7.out.trans (hb8.mono (by omega)))
  clear C7 B7 hb8 R7
  go_upto_region 9 with fail
  have C9 := Lib.hid (C8.out.alloc (.cells #[.int .i64 2, .int .i64 64, .int .i64 9, .float .f64 (F), .int .i64 2, .int .i64 1, .int .i64 1, .int .i64 0] 51))
  have D9 := Lib.hid (Blk.new w8 51 #[.int .i64 2, .int .i64 64, .int .i64 9, .float .f64 (F), .int .i64 2, .int .i64 1, .int .i64 1, .int .i64 0])
  have B9 := Lib.hid (B8'.out.alloc (by omega) (.cells #[.int .i64 2, .int .i64 64, .int .i64 9, .float .f64 (F), .int .i64 2, .int .i64 1, .int .i64 1, .int .i64 0] 51))
  generalize hW : w8.alloc (.cells #[.int .i64 2, .int .i64 64, .int .i64 9, .float .f64 (F), .int .i64 2, .int .i64 1, .int .i64 1, .int .i64 0] 51) = w9 at *
  clear hW C8 B8'
  have k3 := C9.out.cell 3
  have d3 := D9.out.cell 3
  simp at k3 d3
  go_quiet (fail)
  go_wp2_with fail
  go_ret
  exact ⟨rfl, below_drewN B9.out _⟩
theorem walkGain (x : Nat) (w : World) (hx : x < 18446744073709551616) :
    Calls Try.prog 10 #[.float .f64 x] w fun e w' => e = .returned (.bool true) ∧ Below w.heap.size w w' := by
  rcases tf (decide (fixW x = x)) with h | h
  · exact walkGainYes x w hx h
  · exact walkGainNo x w hx h
end Go.Proofs.Ythhgmanoifpoiaa

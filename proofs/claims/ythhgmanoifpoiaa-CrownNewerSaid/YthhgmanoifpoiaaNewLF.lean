/- The walk of CrownNewer: the second crown is the newer one, not turned. -/
import Derived.Test.YthhgmanoifpoiaaCrQ
import Derived.Handy
import Derived.Deep.CutRange
namespace Go.Proofs.Ythhgmanoifpoiaa
open Go.RowKit
set_option linter.unusedVariables false

set_option maxHeartbeats 8000000 in
theorem walkNewLF (g1 b1 s1_ f1 a1 n1 k1_ h1 g2 b2 s2_ f2 a2 n2 k2_ h2 : Nat) (w : World) (hf1 : f1 < 18446744073709551616) (hf2 : f2 < 18446744073709551616) (hm1 : mayB g1 b1 s1_ f1 a1 n1 k1_ h1 = true) (hm2 : mayB g2 b2 s2_ f2 a2 n2 k2_ h2 = true) (hg : (((g1 : Nat) : Int) == ((g2 : Nat) : Int)) = false) (hl : g1 < g2) :
    Calls Try.prog 12 #[.agg #[.int .i64 g1, .int .i64 b1, .int .i64 s1_, .float .f64 f1, .int .i64 a1, .int .i64 n1, .int .i64 k1_, .int .i64 h1], .agg #[.int .i64 g2, .int .i64 b2, .int .i64 s2_, .float .f64 f2, .int .i64 a2, .int .i64 n2, .int .i64 k2_, .int .i64 h2], .bool false] w fun e w' => e = .returned (.bool true) ∧ Below w.heap.size w w' := by
  have hst := storeFloat
  obtain ⟨i0, hi, hz0, hz1, hz2⟩ := info_parts info5
  have hmz : ∀ W : World, (Instr.makeSlice 43 (.int .i64 64) (.int .i64 64)).run Try.prog W = .ok (.slice (some ⟨W.heap.size, 0, none⟩) 64 64) (W.alloc (.cells (zeros 64) 5)) := fun W => make_zeros (P := Try.prog) 43 5 i0 Try.underlying43 hi hz0 hz1 hz2 64 (by decide) W
  obtain ⟨Z, hZ⟩ : ∃ Z, zeros 64 = Z := ⟨_, rfl⟩
  rw [hZ] at hmz
  have E1 := fun W : World => Lib.hid (enc_rd (w := W) hf1 hm1)
  have E2 := fun W : World => Lib.hid (enc_rd (w := W) hf2 hm2)
  go_enter Try.func12, Try.ntmps12
  go_wp2_with fail
  have C0 := Lib.hid ((Blk.new w 42 #[.int .i64 g1, .int .i64 b1, .int .i64 s1_, .float .f64 f1, .int .i64 a1, .int .i64 n1, .int .i64 k1_, .int .i64 h1]).alloc (.cells #[.int .i64 g2, .int .i64 b2, .int .i64 s2_, .float .f64 f2, .int .i64 a2, .int .i64 n2, .int .i64 k2_, .int .i64 h2] 42))
  have D0 := Lib.hid (Blk.new (w.alloc (.cells #[.int .i64 g1, .int .i64 b1, .int .i64 s1_, .float .f64 f1, .int .i64 a1, .int .i64 n1, .int .i64 k1_, .int .i64 h1] 42)) 42 #[.int .i64 g2, .int .i64 b2, .int .i64 s2_, .float .f64 f2, .int .i64 a2, .int .i64 n2, .int .i64 k2_, .int .i64 h2])
  simp only [World.size_alloc] at D0
  have B0 := Lib.hid (((Below.refl w.heap.size w).alloc (Nat.le_refl _) (.cells #[.int .i64 g1, .int .i64 b1, .int .i64 s1_, .float .f64 f1, .int .i64 a1, .int .i64 n1, .int .i64 k1_, .int .i64 h1] 42)).alloc (by simp) (.cells #[.int .i64 g2, .int .i64 b2, .int .i64 s2_, .float .f64 f2, .int .i64 a2, .int .i64 n2, .int .i64 k2_, .int .i64 h2] 42))
  refine (awake16 _).mono ?_
  rintro e w1 ⟨rfl, hb1⟩
  have s1 := hb1.size
  simp only [World.size_alloc] at s1
  have C1 := Lib.hid (C0.out.below hb1 (by simp; omega))
  have D1 := Lib.hid (D0.out.below hb1 (by simp))
  have B1 := Lib.hid (B0.out.trans (hb1.mono (by simp; omega)))
  clear C0 D0 B0 hb1
  have k0 := C1.out.cell 0
  have k1 := C1.out.cell 1
  have k2 := C1.out.cell 2
  have k3 := C1.out.cell 3
  have k4 := C1.out.cell 4
  have k5 := C1.out.cell 5
  have k6 := C1.out.cell 6
  have k7 := C1.out.cell 7
  simp at k0 k1 k2 k3 k4 k5 k6 k7
  have d0 := D1.out.cell 0
  have d1 := D1.out.cell 1
  have d2 := D1.out.cell 2
  have d3 := D1.out.cell 3
  have d4 := D1.out.cell 4
  have d5 := D1.out.cell 5
  have d6 := D1.out.cell 6
  have d7 := D1.out.cell 7
  simp at d0 d1 d2 d3 d4 d5 d6 d7
  go_wp2_with fail
  refine (refMay_any _ _ _ _ _ _ _ _ _ hf1).mono ?_
  rw [hm1]
  rintro e w2 ⟨rfl, hb2⟩
  have s2 := hb2.size
  have C2 := Lib.hid (C1.out.below hb2 (by omega))
  have D2 := Lib.hid (D1.out.below hb2 (by omega))
  have B2 := Lib.hid (B1.out.trans (hb2.mono (by omega)))
  clear C1 D1 B1 hb2 k0 k1 k2 k3 k4 k5 k6 k7 d0 d1 d2 d3 d4 d5 d6 d7
  have k0 := C2.out.cell 0
  have k1 := C2.out.cell 1
  have k2 := C2.out.cell 2
  have k3 := C2.out.cell 3
  have k4 := C2.out.cell 4
  have k5 := C2.out.cell 5
  have k6 := C2.out.cell 6
  have k7 := C2.out.cell 7
  simp at k0 k1 k2 k3 k4 k5 k6 k7
  have d0 := D2.out.cell 0
  have d1 := D2.out.cell 1
  have d2 := D2.out.cell 2
  have d3 := D2.out.cell 3
  have d4 := D2.out.cell 4
  have d5 := D2.out.cell 5
  have d6 := D2.out.cell 6
  have d7 := D2.out.cell 7
  simp at d0 d1 d2 d3 d4 d5 d6 d7
  go_wp2_with fail
  refine (refMay_any _ _ _ _ _ _ _ _ _ hf2).mono ?_
  rw [hm2]
  rintro e w3 ⟨rfl, hb3⟩
  have s3 := hb3.size
  have C3 := Lib.hid (C2.out.below hb3 (by omega))
  have D3 := Lib.hid (D2.out.below hb3 (by omega))
  have B3 := Lib.hid (B2.out.trans (hb3.mono (by omega)))
  clear C2 D2 B2 hb3 k0 k1 k2 k3 k4 k5 k6 k7 d0 d1 d2 d3 d4 d5 d6 d7
  have k0 := C3.out.cell 0
  have k1 := C3.out.cell 1
  have k2 := C3.out.cell 2
  have k3 := C3.out.cell 3
  have k4 := C3.out.cell 4
  have k5 := C3.out.cell 5
  have k6 := C3.out.cell 6
  have k7 := C3.out.cell 7
  simp at k0 k1 k2 k3 k4 k5 k6 k7
  have d0 := D3.out.cell 0
  have d1 := D3.out.cell 1
  have d2 := D3.out.cell 2
  have d3 := D3.out.cell 3
  have d4 := D3.out.cell 4
  have d5 := D3.out.cell 5
  have d6 := D3.out.cell 6
  have d7 := D3.out.cell 7
  simp at d0 d1 d2 d3 d4 d5 d6 d7
  go_wp2_with fail
  refine (crown_any _ _ _ _ _ _ _ _ _).mono ?_
  rintro e w4 ⟨rfl, hb4⟩
  have s4 := hb4.size
  have C4 := Lib.hid (C3.out.below hb4 (by omega))
  have D4 := Lib.hid (D3.out.below hb4 (by omega))
  have B4 := Lib.hid (B3.out.trans (hb4.mono (by omega)))
  clear C3 D3 B3 hb4 k0 k1 k2 k3 k4 k5 k6 k7 d0 d1 d2 d3 d4 d5 d6 d7
  go_wp2_with fail
  refine (E1 _).out.mono ?_
  rintro e w5 ⟨A1, c1, rfl, hc1, hr5, hb5⟩
  have s5 := hb5.size
  have C5 := Lib.hid (C4.out.below hb5 (by omega))
  have D5 := Lib.hid (D4.out.below hb5 (by omega))
  have B5 := Lib.hid (B4.out.trans (hb5.mono (by omega)))
  have R5 := Lib.hid hr5
  clear C4 D4 B4 hb5 hr5
  have d0 := D5.out.cell 0
  have d1 := D5.out.cell 1
  have d2 := D5.out.cell 2
  have d3 := D5.out.cell 3
  have d4 := D5.out.cell 4
  have d5 := D5.out.cell 5
  have d6 := D5.out.cell 6
  have d7 := D5.out.cell 7
  simp at d0 d1 d2 d3 d4 d5 d6 d7
  go_wp2_with fail
  refine (crown_any _ _ _ _ _ _ _ _ _).mono ?_
  rintro e w6 ⟨rfl, hb6⟩
  have s6 := hb6.size
  have C6 := Lib.hid (C5.out.below hb6 (by omega))
  have D6 := Lib.hid (D5.out.below hb6 (by omega))
  have B6 := Lib.hid (B5.out.trans (hb6.mono (by omega)))
  have R6 := Lib.hid ((R5.out.below hb6).more s6)
  clear C5 D5 B5 R5 hb6 d0 d1 d2 d3 d4 d5 d6 d7
  go_wp2_with fail
  refine (E2 _).out.mono ?_
  rintro e w7 ⟨A2, c2, rfl, hc2, hr7, hb7⟩
  have s7 := hb7.size
  have C7 := Lib.hid (C6.out.below hb7 (by omega))
  have D7 := Lib.hid (D6.out.below hb7 (by omega))
  have B7 := Lib.hid (B6.out.trans (hb7.mono (by omega)))
  have X7 := Lib.hid ((R6.out.below hb7).more s7)
  have Y7 := Lib.hid hr7
  clear C6 D6 B6 R6 hb7 hr7 E1 E2
  have k0 := C7.out.cell 0
  have k1 := C7.out.cell 1
  have k2 := C7.out.cell 2
  have k3 := C7.out.cell 3
  have k4 := C7.out.cell 4
  have k5 := C7.out.cell 5
  have k6 := C7.out.cell 6
  have k7 := C7.out.cell 7
  simp at k0 k1 k2 k3 k4 k5 k6 k7
  have d0 := D7.out.cell 0
  have d1 := D7.out.cell 1
  have d2 := D7.out.cell 2
  have d3 := D7.out.cell 3
  have d4 := D7.out.cell 4
  have d5 := D7.out.cell 5
  have d6 := D7.out.cell 6
  have d7 := D7.out.cell 7
  simp at d0 d1 d2 d3 d4 d5 d6 d7
  have hgn : ¬ g1 = g2 := by have := hg; rw [beq_eq_false_iff_ne] at this; omega
  have K12 := fun (W : World) (h : Rd W W.heap.size A1 64 (crownL g1 b1 s1_ a1 n1 k1_ h1 f1)) (h' : Rd W W.heap.size A2 64 (crownL g2 b2 s2_ a2 n2 k2_ h2 f2)) => by
    have := choose_any A1 64 c1 _ A2 64 c2 _ W h hc1 h' hc2
    rw [choose_two hf1 hm1 hf2 hm2 hgn, crown_val hf1 hm1, crown_val hf2 hm2] at this
    exact Lib.hid this
  have K21 := fun (W : World) (h : Rd W W.heap.size A2 64 (crownL g2 b2 s2_ a2 n2 k2_ h2 f2)) (h' : Rd W W.heap.size A1 64 (crownL g1 b1 s1_ a1 n1 k1_ h1 f1)) => by
    have := choose_any A2 64 c2 _ A1 64 c1 _ W h hc2 h' hc1
    rw [choose_two hf2 hm2 hf1 hm1 (Ne.symm hgn), crown_val hf1 hm1, crown_val hf2 hm2] at this
    exact Lib.hid this
  have hlI : (g1 : Int) < (g2 : Int) := by omega
  rw [if_neg (by omega)] at K12
  rw [if_pos hl] at K21
  dsimp only at K12 K21
  go_wp2_with fail
  refine (K12 _ X7.out Y7.out).out.mono ?_
  rintro e w8 ⟨rfl, hb8⟩
  have s8 := hb8.size
  have C8 := Lib.hid ((C7.out.below hb8 (by omega)).alloc (.cells #[.int .i64 g2, .int .i64 b2, .int .i64 s2_, .float .f64 f2, .int .i64 a2, .int .i64 n2, .int .i64 k2_, .int .i64 h2] 51))
  have D8 := Lib.hid ((D7.out.below hb8 (by omega)).alloc (.cells #[.int .i64 g2, .int .i64 b2, .int .i64 s2_, .float .f64 f2, .int .i64 a2, .int .i64 n2, .int .i64 k2_, .int .i64 h2] 51))
  have B8 := Lib.hid (B7.out.trans (hb8.mono (by omega)))
  have X8 := Lib.hid ((X7.out.below hb8).more s8)
  have Y8 := Lib.hid ((Y7.out.below hb8).more s8)
  clear C7 D7 B7 X7 Y7 hb8 K12 K21 k0 k1 k2 k3 k4 k5 k6 k7 d0 d1 d2 d3 d4 d5 d6 d7
  have k0 := C8.out.cell 0
  have k1 := C8.out.cell 1
  have k2 := C8.out.cell 2
  have k3 := C8.out.cell 3
  have k4 := C8.out.cell 4
  have k5 := C8.out.cell 5
  have k6 := C8.out.cell 6
  have k7 := C8.out.cell 7
  simp at k0 k1 k2 k3 k4 k5 k6 k7
  have d0 := D8.out.cell 0
  have d1 := D8.out.cell 1
  have d2 := D8.out.cell 2
  have d3 := D8.out.cell 3
  have d4 := D8.out.cell 4
  have d5 := D8.out.cell 5
  have d6 := D8.out.cell 6
  have d7 := D8.out.cell 7
  simp at d0 d1 d2 d3 d4 d5 d6 d7
  have C9 := Lib.hid (C8.out.alloc (.cells #[.int .i64 g1, .int .i64 b1, .int .i64 s1_, .float .f64 f1, .int .i64 a1, .int .i64 n1, .int .i64 k1_, .int .i64 h1] 42))
  have D9 := Lib.hid (D8.out.alloc (.cells #[.int .i64 g1, .int .i64 b1, .int .i64 s1_, .float .f64 f1, .int .i64 a1, .int .i64 n1, .int .i64 k1_, .int .i64 h1] 42))
  have m0 := C9.out.cell 0
  have m1 := C9.out.cell 1
  have m2 := C9.out.cell 2
  have m3 := C9.out.cell 3
  have m4 := C9.out.cell 4
  have m5 := C9.out.cell 5
  have m6 := C9.out.cell 6
  have m7 := C9.out.cell 7
  simp at m0 m1 m2 m3 m4 m5 m6 m7
  have p0 := D9.out.cell 0
  have p1 := D9.out.cell 1
  have p2 := D9.out.cell 2
  have p3 := D9.out.cell 3
  have p4 := D9.out.cell 4
  have p5 := D9.out.cell 5
  have p6 := D9.out.cell 6
  have p7 := D9.out.cell 7
  simp at p0 p1 p2 p3 p4 p5 p6 p7
  go_wp2_with fail
  have Z9 := Lib.hid ((rd_zeros ((w8.alloc (.cells #[.int .i64 g2, .int .i64 b2, .int .i64 s2_, .float .f64 f2, .int .i64 a2, .int .i64 n2, .int .i64 k2_, .int .i64 h2] 51)).alloc (.cells #[.int .i64 g2, .int .i64 b2, .int .i64 s2_, .float .f64 f2, .int .i64 a2, .int .i64 n2, .int .i64 k2_, .int .i64 h2] 42)) ((w8.alloc (.cells #[.int .i64 g2, .int .i64 b2, .int .i64 s2_, .float .f64 f2, .int .i64 a2, .int .i64 n2, .int .i64 k2_, .int .i64 h2] 51)).alloc (.cells #[.int .i64 g2, .int .i64 b2, .int .i64 s2_, .float .f64 f2, .int .i64 a2, .int .i64 n2, .int .i64 k2_, .int .i64 h2] 42)).heap.size 64 5 (0, 0) rfl).more (B' := (((w8.alloc (.cells #[.int .i64 g2, .int .i64 b2, .int .i64 s2_, .float .f64 f2, .int .i64 a2, .int .i64 n2, .int .i64 k2_, .int .i64 h2] 51)).alloc (.cells #[.int .i64 g2, .int .i64 b2, .int .i64 s2_, .float .f64 f2, .int .i64 a2, .int .i64 n2, .int .i64 k2_, .int .i64 h2] 42)).alloc (.cells (zeros 64) 5)).heap.size) (by simp))
  rw [hZ] at Z9
  simp only [World.size_alloc] at Z9
  have X9 := Lib.hid ((((X8.out.alloc (Nat.le_refl _) (.cells #[.int .i64 g2, .int .i64 b2, .int .i64 s2_, .float .f64 f2, .int .i64 a2, .int .i64 n2, .int .i64 k2_, .int .i64 h2] 51)).alloc (by simp only [World.size_alloc]; omega) (.cells #[.int .i64 g2, .int .i64 b2, .int .i64 s2_, .float .f64 f2, .int .i64 a2, .int .i64 n2, .int .i64 k2_, .int .i64 h2] 42)).alloc (by simp only [World.size_alloc]; omega) (.cells Z 5)).more (B' := (((w8.alloc (.cells #[.int .i64 g2, .int .i64 b2, .int .i64 s2_, .float .f64 f2, .int .i64 a2, .int .i64 n2, .int .i64 k2_, .int .i64 h2] 51)).alloc (.cells #[.int .i64 g2, .int .i64 b2, .int .i64 s2_, .float .f64 f2, .int .i64 a2, .int .i64 n2, .int .i64 k2_, .int .i64 h2] 42)).alloc (.cells Z 5)).heap.size) (by simp only [World.size_alloc]; omega))
  simp only [World.size_alloc] at X9
  have P9 := Lib.hid ((C8.out.alloc (.cells #[.int .i64 g2, .int .i64 b2, .int .i64 s2_, .float .f64 f2, .int .i64 a2, .int .i64 n2, .int .i64 k2_, .int .i64 h2] 42)).alloc (.cells Z 5))
  have Q9 := Lib.hid ((D8.out.alloc (.cells #[.int .i64 g2, .int .i64 b2, .int .i64 s2_, .float .f64 f2, .int .i64 a2, .int .i64 n2, .int .i64 k2_, .int .i64 h2] 42)).alloc (.cells Z 5))
  have M9 := Lib.hid (((Blk.new w8 51 #[.int .i64 g2, .int .i64 b2, .int .i64 s2_, .float .f64 f2, .int .i64 a2, .int .i64 n2, .int .i64 k2_, .int .i64 h2]).alloc (.cells #[.int .i64 g2, .int .i64 b2, .int .i64 s2_, .float .f64 f2, .int .i64 a2, .int .i64 n2, .int .i64 k2_, .int .i64 h2] 42)).alloc (.cells Z 5))
  have N9 := Lib.hid ((Blk.new (w8.alloc (.cells #[.int .i64 g2, .int .i64 b2, .int .i64 s2_, .float .f64 f2, .int .i64 a2, .int .i64 n2, .int .i64 k2_, .int .i64 h2] 51)) 42 #[.int .i64 g2, .int .i64 b2, .int .i64 s2_, .float .f64 f2, .int .i64 a2, .int .i64 n2, .int .i64 k2_, .int .i64 h2]).alloc (.cells Z 5))
  simp only [World.size_alloc] at N9
  have B9 := Lib.hid (((B8.out.alloc (by omega) (.cells #[.int .i64 g2, .int .i64 b2, .int .i64 s2_, .float .f64 f2, .int .i64 a2, .int .i64 n2, .int .i64 k2_, .int .i64 h2] 51)).alloc (by simp only [World.size_alloc]; omega) (.cells #[.int .i64 g2, .int .i64 b2, .int .i64 s2_, .float .f64 f2, .int .i64 a2, .int .i64 n2, .int .i64 k2_, .int .i64 h2] 42)).alloc (by simp only [World.size_alloc]; omega) (.cells Z 5))
  have s9 : (((w8.alloc (.cells #[.int .i64 g2, .int .i64 b2, .int .i64 s2_, .float .f64 f2, .int .i64 a2, .int .i64 n2, .int .i64 k2_, .int .i64 h2] 51)).alloc (.cells #[.int .i64 g2, .int .i64 b2, .int .i64 s2_, .float .f64 f2, .int .i64 a2, .int .i64 n2, .int .i64 k2_, .int .i64 h2] 42)).alloc (.cells Z 5)).heap.size = w8.heap.size + 1 + 1 + 1 := by simp only [World.size_alloc]
  clear C8 D8 C9 D9 B8 X8 Y8 hmz hZ k0 k1 k2 k3 k4 k5 k6 k7 d0 d1 d2 d3 d4 d5 d6 d7 m0 m1 m2 m3 m4 m5 m6 m7 p0 p1 p2 p3 p4 p5 p6 p7
  generalize (((w8.alloc (.cells #[.int .i64 g2, .int .i64 b2, .int .i64 s2_, .float .f64 f2, .int .i64 a2, .int .i64 n2, .int .i64 k2_, .int .i64 h2] 51)).alloc (.cells #[.int .i64 g2, .int .i64 b2, .int .i64 s2_, .float .f64 f2, .int .i64 a2, .int .i64 n2, .int .i64 k2_, .int .i64 h2] 42)).alloc (.cells Z 5)) = w9 at *
  have KF := fun (W : World) (h : Rd W W.heap.size A1 64 (crownL g1 b1 s1_ a1 n1 k1_ h1 f1)) (h' : Rd W W.heap.size (some ⟨w8.heap.size + 1 + 1, 0, none⟩) 64 (List.replicate 64 0#8)) => by
    have := choose_any A1 64 c1 _ (some ⟨w8.heap.size + 1 + 1, 0, none⟩) 64 64 _ W h hc1 h' (Nat.le_refl _)
    rw [choose_first hf1 hm1, crown_val hf1 hm1] at this
    exact Lib.hid this
  rw [← s9] at X9 Z9
  by_cases h1 : g1 = 1
  · have h1H := Lib.hid (show ((g1 : Nat) : Int) = 1 by omega)
    have h1B : (((g1 : Nat) : Int) == 1) = true := by rw [h1H.out]; rfl
    rw [if_pos h1] at KF
    dsimp only at KF
    clear h1
    refine (KF _ X9.out Z9.out).out.mono ?_
    rintro e w10 ⟨rfl, hb10⟩
    have s10 := hb10.size
    have P10 := Lib.hid ((P9.out.below hb10 (by omega)).alloc (.cells #[.int .i64 g1, .int .i64 b1, .int .i64 s1_, .float .f64 f1, .int .i64 a1, .int .i64 n1, .int .i64 k1_, .int .i64 h1] 51))
    have Q10 := Lib.hid ((Q9.out.below hb10 (by omega)).alloc (.cells #[.int .i64 g1, .int .i64 b1, .int .i64 s1_, .float .f64 f1, .int .i64 a1, .int .i64 n1, .int .i64 k1_, .int .i64 h1] 51))
    have M10 := Lib.hid (((M9.out.below hb10 (by omega)).alloc (.cells #[.int .i64 g1, .int .i64 b1, .int .i64 s1_, .float .f64 f1, .int .i64 a1, .int .i64 n1, .int .i64 k1_, .int .i64 h1] 51)).alloc (.cells #[.int .i64 g1, .int .i64 b1, .int .i64 s1_, .float .f64 f1, .int .i64 a1, .int .i64 n1, .int .i64 k1_, .int .i64 h1] 42))
    have N10 := Lib.hid (((N9.out.below hb10 (by omega)).alloc (.cells #[.int .i64 g1, .int .i64 b1, .int .i64 s1_, .float .f64 f1, .int .i64 a1, .int .i64 n1, .int .i64 k1_, .int .i64 h1] 51)).alloc (.cells #[.int .i64 g1, .int .i64 b1, .int .i64 s1_, .float .f64 f1, .int .i64 a1, .int .i64 n1, .int .i64 k1_, .int .i64 h1] 42))
    have U10 := Lib.hid ((Blk.new w10 51 #[.int .i64 g1, .int .i64 b1, .int .i64 s1_, .float .f64 f1, .int .i64 a1, .int .i64 n1, .int .i64 k1_, .int .i64 h1]).alloc (.cells #[.int .i64 g1, .int .i64 b1, .int .i64 s1_, .float .f64 f1, .int .i64 a1, .int .i64 n1, .int .i64 k1_, .int .i64 h1] 42))
    have V10 := Lib.hid (Blk.new (w10.alloc (.cells #[.int .i64 g1, .int .i64 b1, .int .i64 s1_, .float .f64 f1, .int .i64 a1, .int .i64 n1, .int .i64 k1_, .int .i64 h1] 51)) 42 #[.int .i64 g1, .int .i64 b1, .int .i64 s1_, .float .f64 f1, .int .i64 a1, .int .i64 n1, .int .i64 k1_, .int .i64 h1])
    simp only [World.size_alloc] at V10
    have B10 := Lib.hid (((B9.out.trans (hb10.mono (by omega))).alloc (by omega) (.cells #[.int .i64 g1, .int .i64 b1, .int .i64 s1_, .float .f64 f1, .int .i64 a1, .int .i64 n1, .int .i64 k1_, .int .i64 h1] 51)).alloc (by simp only [World.size_alloc]; omega) (.cells #[.int .i64 g1, .int .i64 b1, .int .i64 s1_, .float .f64 f1, .int .i64 a1, .int .i64 n1, .int .i64 k1_, .int .i64 h1] 42))
    have s11 : ((w10.alloc (.cells #[.int .i64 g1, .int .i64 b1, .int .i64 s1_, .float .f64 f1, .int .i64 a1, .int .i64 n1, .int .i64 k1_, .int .i64 h1] 51)).alloc (.cells #[.int .i64 g1, .int .i64 b1, .int .i64 s1_, .float .f64 f1, .int .i64 a1, .int .i64 n1, .int .i64 k1_, .int .i64 h1] 42)).heap.size = w10.heap.size + 1 + 1 := by simp only [World.size_alloc]
    clear X9 Z9 P9 Q9 M9 N9 B9 hb10 KF
    have k0 := P10.out.cell 0
    have k1 := P10.out.cell 1
    have k2 := P10.out.cell 2
    have k3 := P10.out.cell 3
    have k4 := P10.out.cell 4
    have k5 := P10.out.cell 5
    have k6 := P10.out.cell 6
    have k7 := P10.out.cell 7
    simp at k0 k1 k2 k3 k4 k5 k6 k7
    have x0 := M10.out.cell 0
    have x1 := M10.out.cell 1
    have x2 := M10.out.cell 2
    have x3 := M10.out.cell 3
    have x4 := M10.out.cell 4
    have x5 := M10.out.cell 5
    have x6 := M10.out.cell 6
    have x7 := M10.out.cell 7
    simp at x0 x1 x2 x3 x4 x5 x6 x7
    have y0 := N10.out.cell 0
    have y1 := N10.out.cell 1
    have y2 := N10.out.cell 2
    have y3 := N10.out.cell 3
    have y4 := N10.out.cell 4
    have y5 := N10.out.cell 5
    have y6 := N10.out.cell 6
    have y7 := N10.out.cell 7
    simp at y0 y1 y2 y3 y4 y5 y6 y7
    have u0 := U10.out.cell 0
    have u1 := U10.out.cell 1
    have u2 := U10.out.cell 2
    have u3 := U10.out.cell 3
    have u4 := U10.out.cell 4
    have u5 := U10.out.cell 5
    have u6 := U10.out.cell 6
    have u7 := U10.out.cell 7
    simp at u0 u1 u2 u3 u4 u5 u6 u7
    have v0 := V10.out.cell 0
    have v1 := V10.out.cell 1
    have v2 := V10.out.cell 2
    have v3 := V10.out.cell 3
    have v4 := V10.out.cell 4
    have v5 := V10.out.cell 5
    have v6 := V10.out.cell 6
    have v7 := V10.out.cell 7
    simp at v0 v1 v2 v3 v4 v5 v6 v7
    go_wp2_with fail
    refine (same_any _ _ _ _ _ _ _ _ _).mono ?_
    rintro e w12 ⟨rfl, hb12⟩
    have s12 := hb12.size
    rw [s11] at s12
    have B12 := Lib.hid (B10.out.trans (hb12.mono (by rw [s11]; omega)))
    have U12 := Lib.hid (U10.out.below hb12 (by rw [s11]; omega))
    have V12 := Lib.hid (V10.out.below hb12 (by rw [s11]; omega))
    clear P10 Q10 M10 N10 U10 V10 B10 hb12 k0 k1 k2 k3 k4 k5 k6 k7 x0 x1 x2 x3 x4 x5 x6 x7 y0 y1 y2 y3 y4 y5 y6 y7 v0 v1 v2 v3 v4 v5 v6 v7 u0 u1 u2 u3 u4 u5 u6 u7
    have u0 := U12.out.cell 0
    have u1 := U12.out.cell 1
    have u2 := U12.out.cell 2
    have u3 := U12.out.cell 3
    have u4 := U12.out.cell 4
    have u5 := U12.out.cell 5
    have u6 := U12.out.cell 6
    have u7 := U12.out.cell 7
    simp at u0 u1 u2 u3 u4 u5 u6 u7
    have v0 := V12.out.cell 0
    have v1 := V12.out.cell 1
    have v2 := V12.out.cell 2
    have v3 := V12.out.cell 3
    have v4 := V12.out.cell 4
    have v5 := V12.out.cell 5
    have v6 := V12.out.cell 6
    have v7 := V12.out.cell 7
    simp at v0 v1 v2 v3 v4 v5 v6 v7
    go_wp2_with fail
    refine (same_any _ _ _ _ _ _ _ _ _).mono ?_
    rintro e w13 ⟨rfl, hb13⟩
    have B13 := Lib.hid (B12.out.trans (hb13.mono (by omega)))
    go_wp2_with fail
    go_ret
    exact ⟨rfl, B13.out⟩
  · have h1I : ¬ ((g1 : Nat) : Int) = 1 := by omega
    have h1B : (((g1 : Nat) : Int) == 1) = false := by rw [beq_eq_false_iff_ne]; exact h1I
    rw [if_neg h1] at KF
    dsimp only at KF
    unfold zeroV at KF
    clear h1
    refine (KF _ X9.out Z9.out).out.mono ?_
    rintro e w10 ⟨rfl, hb10⟩
    have s10 := hb10.size
    have P10 := Lib.hid ((P9.out.below hb10 (by omega)).alloc (.cells #[.int .i64 0, .int .i64 0, .int .i64 0, .float .f64 0, .int .i64 0, .int .i64 0, .int .i64 0, .int .i64 0] 51))
    have Q10 := Lib.hid ((Q9.out.below hb10 (by omega)).alloc (.cells #[.int .i64 0, .int .i64 0, .int .i64 0, .float .f64 0, .int .i64 0, .int .i64 0, .int .i64 0, .int .i64 0] 51))
    have M10 := Lib.hid (((M9.out.below hb10 (by omega)).alloc (.cells #[.int .i64 0, .int .i64 0, .int .i64 0, .float .f64 0, .int .i64 0, .int .i64 0, .int .i64 0, .int .i64 0] 51)).alloc (.cells #[.int .i64 g1, .int .i64 b1, .int .i64 s1_, .float .f64 f1, .int .i64 a1, .int .i64 n1, .int .i64 k1_, .int .i64 h1] 42))
    have N10 := Lib.hid (((N9.out.below hb10 (by omega)).alloc (.cells #[.int .i64 0, .int .i64 0, .int .i64 0, .float .f64 0, .int .i64 0, .int .i64 0, .int .i64 0, .int .i64 0] 51)).alloc (.cells #[.int .i64 g1, .int .i64 b1, .int .i64 s1_, .float .f64 f1, .int .i64 a1, .int .i64 n1, .int .i64 k1_, .int .i64 h1] 42))
    have U10 := Lib.hid ((Blk.new w10 51 #[.int .i64 0, .int .i64 0, .int .i64 0, .float .f64 0, .int .i64 0, .int .i64 0, .int .i64 0, .int .i64 0]).alloc (.cells #[.int .i64 g1, .int .i64 b1, .int .i64 s1_, .float .f64 f1, .int .i64 a1, .int .i64 n1, .int .i64 k1_, .int .i64 h1] 42))
    have V10 := Lib.hid (Blk.new (w10.alloc (.cells #[.int .i64 0, .int .i64 0, .int .i64 0, .float .f64 0, .int .i64 0, .int .i64 0, .int .i64 0, .int .i64 0] 51)) 42 #[.int .i64 g1, .int .i64 b1, .int .i64 s1_, .float .f64 f1, .int .i64 a1, .int .i64 n1, .int .i64 k1_, .int .i64 h1])
    simp only [World.size_alloc] at V10
    have B10 := Lib.hid (((B9.out.trans (hb10.mono (by omega))).alloc (by omega) (.cells #[.int .i64 0, .int .i64 0, .int .i64 0, .float .f64 0, .int .i64 0, .int .i64 0, .int .i64 0, .int .i64 0] 51)).alloc (by simp only [World.size_alloc]; omega) (.cells #[.int .i64 g1, .int .i64 b1, .int .i64 s1_, .float .f64 f1, .int .i64 a1, .int .i64 n1, .int .i64 k1_, .int .i64 h1] 42))
    have s11 : ((w10.alloc (.cells #[.int .i64 0, .int .i64 0, .int .i64 0, .float .f64 0, .int .i64 0, .int .i64 0, .int .i64 0, .int .i64 0] 51)).alloc (.cells #[.int .i64 g1, .int .i64 b1, .int .i64 s1_, .float .f64 f1, .int .i64 a1, .int .i64 n1, .int .i64 k1_, .int .i64 h1] 42)).heap.size = w10.heap.size + 1 + 1 := by simp only [World.size_alloc]
    clear X9 Z9 P9 Q9 M9 N9 B9 hb10 KF
    have k0 := P10.out.cell 0
    have k1 := P10.out.cell 1
    have k2 := P10.out.cell 2
    have k3 := P10.out.cell 3
    have k4 := P10.out.cell 4
    have k5 := P10.out.cell 5
    have k6 := P10.out.cell 6
    have k7 := P10.out.cell 7
    simp at k0 k1 k2 k3 k4 k5 k6 k7
    have x0 := M10.out.cell 0
    have x1 := M10.out.cell 1
    have x2 := M10.out.cell 2
    have x3 := M10.out.cell 3
    have x4 := M10.out.cell 4
    have x5 := M10.out.cell 5
    have x6 := M10.out.cell 6
    have x7 := M10.out.cell 7
    simp at x0 x1 x2 x3 x4 x5 x6 x7
    have y0 := N10.out.cell 0
    have y1 := N10.out.cell 1
    have y2 := N10.out.cell 2
    have y3 := N10.out.cell 3
    have y4 := N10.out.cell 4
    have y5 := N10.out.cell 5
    have y6 := N10.out.cell 6
    have y7 := N10.out.cell 7
    simp at y0 y1 y2 y3 y4 y5 y6 y7
    have v0 := V10.out.cell 0
    have v1 := V10.out.cell 1
    have v2 := V10.out.cell 2
    have v3 := V10.out.cell 3
    have v4 := V10.out.cell 4
    have v5 := V10.out.cell 5
    have v6 := V10.out.cell 6
    have v7 := V10.out.cell 7
    simp at v0 v1 v2 v3 v4 v5 v6 v7
    go_wp2_with fail
    refine (same_any _ _ _ _ _ _ _ _ _).mono ?_
    rintro e w12 ⟨rfl, hb12⟩
    have s12 := hb12.size
    rw [s11] at s12
    have B12 := Lib.hid (B10.out.trans (hb12.mono (by rw [s11]; omega)))
    clear P10 Q10 M10 N10 U10 V10 B10 hb12 k0 k1 k2 k3 k4 k5 k6 k7 x0 x1 x2 x3 x4 x5 x6 x7 y0 y1 y2 y3 y4 y5 y6 y7 v0 v1 v2 v3 v4 v5 v6 v7
    go_wp2_with fail
    go_ret
    exact ⟨rfl, B12.out⟩
end Go.Proofs.Ythhgmanoifpoiaa

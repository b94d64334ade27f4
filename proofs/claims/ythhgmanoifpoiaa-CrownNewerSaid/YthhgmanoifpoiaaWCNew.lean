/- The walk of CrownNewer: the ways that return early, and the join of all ways. -/
import Derived.Test.YthhgmanoifpoiaaNewLF
import Derived.Test.YthhgmanoifpoiaaNewLT
import Derived.Test.YthhgmanoifpoiaaNewGF
import Derived.Test.YthhgmanoifpoiaaNewGT
import Derived.Handy
import Derived.Deep.CutRange
namespace Go.Proofs.Ythhgmanoifpoiaa
open Go.RowKit
set_option linter.unusedVariables false

set_option maxHeartbeats 8000000 in
theorem walkNewNo1 (g1 b1 s1_ : Int) (f1 : Nat) (a1 n1 k1_ h1 : Int) (g2 b2 s2_ : Int) (f2 : Nat) (a2 n2 k2_ h2 : Int) (t : Bool) (w : World) (hf1 : f1 < 18446744073709551616) (hf2 : f2 < 18446744073709551616) (hm1 : mayB g1 b1 s1_ f1 a1 n1 k1_ h1 = false) :
    Calls Try.prog 12 #[.agg #[.int .i64 g1, .int .i64 b1, .int .i64 s1_, .float .f64 f1, .int .i64 a1, .int .i64 n1, .int .i64 k1_, .int .i64 h1], .agg #[.int .i64 g2, .int .i64 b2, .int .i64 s2_, .float .f64 f2, .int .i64 a2, .int .i64 n2, .int .i64 k2_, .int .i64 h2], .bool t] w fun e w' => e = .returned (.bool true) ∧ Below w.heap.size w w' := by
  have hst := storeFloat
  go_enter Try.func12, Try.ntmps12
  go_wp2_with fail
  have C0 := Lib.hid ((Blk.new w 42 #[.int .i64 g1, .int .i64 b1, .int .i64 s1_, .float .f64 f1, .int .i64 a1, .int .i64 n1, .int .i64 k1_, .int .i64 h1]).alloc (.cells #[.int .i64 g2, .int .i64 b2, .int .i64 s2_, .float .f64 f2, .int .i64 a2, .int .i64 n2, .int .i64 k2_, .int .i64 h2] 42))
  have D0 := Lib.hid (Blk.new (w.alloc (.cells #[.int .i64 g1, .int .i64 b1, .int .i64 s1_, .float .f64 f1, .int .i64 a1, .int .i64 n1, .int .i64 k1_, .int .i64 h1] 42)) 42 #[.int .i64 g2, .int .i64 b2, .int .i64 s2_, .float .f64 f2, .int .i64 a2, .int .i64 n2, .int .i64 k2_, .int .i64 h2])
  simp only [World.size_alloc] at D0
  have B0 := Lib.hid (((Below.refl w.heap.size w).alloc (Nat.le_refl _) (.cells #[.int .i64 g1, .int .i64 b1, .int .i64 s1_, .float .f64 f1, .int .i64 a1, .int .i64 n1, .int .i64 k1_, .int .i64 h1] 42)).alloc (by simp) (.cells #[.int .i64 g2, .int .i64 b2, .int .i64 s2_, .float .f64 f2, .int .i64 a2, .int .i64 n2, .int .i64 k2_, .int .i64 h2] 42))
  refine (awake16 _).mono ?_
  rintro e w1 ⟨rfl, hb1⟩
  have s1 := hb1.size
  simp only [World.size_alloc] at s1
  have C1 := Lib.hid (C0.out.below hb1 (by simp; omega))
  have D1 := Lib.hid (D0.out.below hb1 (by simp))
  have B1 := Lib.hid (B0.out.trans (hb1.mono (by simp; omega)))
  clear C0 D0 B0 hb1
  have k0 := C1.out.cell 0
  have k1 := C1.out.cell 1
  have k2 := C1.out.cell 2
  have k3 := C1.out.cell 3
  have k4 := C1.out.cell 4
  have k5 := C1.out.cell 5
  have k6 := C1.out.cell 6
  have k7 := C1.out.cell 7
  simp at k0 k1 k2 k3 k4 k5 k6 k7
  have d0 := D1.out.cell 0
  have d1 := D1.out.cell 1
  have d2 := D1.out.cell 2
  have d3 := D1.out.cell 3
  have d4 := D1.out.cell 4
  have d5 := D1.out.cell 5
  have d6 := D1.out.cell 6
  have d7 := D1.out.cell 7
  simp at d0 d1 d2 d3 d4 d5 d6 d7
  go_wp2_with fail
  refine (refMay_any _ _ _ _ _ _ _ _ _ hf1).mono ?_
  rw [hm1]
  rintro e w2 ⟨rfl, hb2⟩
  have s2 := hb2.size
  have C2 := Lib.hid (C1.out.below hb2 (by omega))
  have D2 := Lib.hid (D1.out.below hb2 (by omega))
  have B2 := Lib.hid (B1.out.trans (hb2.mono (by omega)))
  clear C1 D1 B1 hb2 k0 k1 k2 k3 k4 k5 k6 k7 d0 d1 d2 d3 d4 d5 d6 d7
  go_wp2_with fail
  go_ret
  exact ⟨rfl, B2.out⟩
set_option maxHeartbeats 8000000 in
theorem walkNewNo2 (g1 b1 s1_ : Int) (f1 : Nat) (a1 n1 k1_ h1 : Int) (g2 b2 s2_ : Int) (f2 : Nat) (a2 n2 k2_ h2 : Int) (t : Bool) (w : World) (hf1 : f1 < 18446744073709551616) (hf2 : f2 < 18446744073709551616) (hm1 : mayB g1 b1 s1_ f1 a1 n1 k1_ h1 = true) (hm2 : mayB g2 b2 s2_ f2 a2 n2 k2_ h2 = false) :
    Calls Try.prog 12 #[.agg #[.int .i64 g1, .int .i64 b1, .int .i64 s1_, .float .f64 f1, .int .i64 a1, .int .i64 n1, .int .i64 k1_, .int .i64 h1], .agg #[.int .i64 g2, .int .i64 b2, .int .i64 s2_, .float .f64 f2, .int .i64 a2, .int .i64 n2, .int .i64 k2_, .int .i64 h2], .bool t] w fun e w' => e = .returned (.bool true) ∧ Below w.heap.size w w' := by
  have hst := storeFloat
  go_enter Try.func12, Try.ntmps12
  go_wp2_with fail
  have C0 := Lib.hid ((Blk.new w 42 #[.int .i64 g1, .int .i64 b1, .int .i64 s1_, .float .f64 f1, .int .i64 a1, .int .i64 n1, .int .i64 k1_, .int .i64 h1]).alloc (.cells #[.int .i64 g2, .int .i64 b2, .int .i64 s2_, .float .f64 f2, .int .i64 a2, .int .i64 n2, .int .i64 k2_, .int .i64 h2] 42))
  have D0 := Lib.hid (Blk.new (w.alloc (.cells #[.int .i64 g1, .int .i64 b1, .int .i64 s1_, .float .f64 f1, .int .i64 a1, .int .i64 n1, .int .i64 k1_, .int .i64 h1] 42)) 42 #[.int .i64 g2, .int .i64 b2, .int .i64 s2_, .float .f64 f2, .int .i64 a2, .int .i64 n2, .int .i64 k2_, .int .i64 h2])
  simp only [World.size_alloc] at D0
  have B0 := Lib.hid (((Below.refl w.heap.size w).alloc (Nat.le_refl _) (.cells #[.int .i64 g1, .int .i64 b1, .int .i64 s1_, .float .f64 f1, .int .i64 a1, .int .i64 n1, .int .i64 k1_, .int .i64 h1] 42)).alloc (by simp) (.cells #[.int .i64 g2, .int .i64 b2, .int .i64 s2_, .float .f64 f2, .int .i64 a2, .int .i64 n2, .int .i64 k2_, .int .i64 h2] 42))
  refine (awake16 _).mono ?_
  rintro e w1 ⟨rfl, hb1⟩
  have s1 := hb1.size
  simp only [World.size_alloc] at s1
  have C1 := Lib.hid (C0.out.below hb1 (by simp; omega))
  have D1 := Lib.hid (D0.out.below hb1 (by simp))
  have B1 := Lib.hid (B0.out.trans (hb1.mono (by simp; omega)))
  clear C0 D0 B0 hb1
  have k0 := C1.out.cell 0
  have k1 := C1.out.cell 1
  have k2 := C1.out.cell 2
  have k3 := C1.out.cell 3
  have k4 := C1.out.cell 4
  have k5 := C1.out.cell 5
  have k6 := C1.out.cell 6
  have k7 := C1.out.cell 7
  simp at k0 k1 k2 k3 k4 k5 k6 k7
  have d0 := D1.out.cell 0
  have d1 := D1.out.cell 1
  have d2 := D1.out.cell 2
  have d3 := D1.out.cell 3
  have d4 := D1.out.cell 4
  have d5 := D1.out.cell 5
  have d6 := D1.out.cell 6
  have d7 := D1.out.cell 7
  simp at d0 d1 d2 d3 d4 d5 d6 d7
  go_wp2_with fail
  refine (refMay_any _ _ _ _ _ _ _ _ _ hf1).mono ?_
  rw [hm1]
  rintro e w2 ⟨rfl, hb2⟩
  have s2 := hb2.size
  have C2 := Lib.hid (C1.out.below hb2 (by omega))
  have D2 := Lib.hid (D1.out.below hb2 (by omega))
  have B2 := Lib.hid (B1.out.trans (hb2.mono (by omega)))
  clear C1 D1 B1 hb2 k0 k1 k2 k3 k4 k5 k6 k7 d0 d1 d2 d3 d4 d5 d6 d7
  have k0 := C2.out.cell 0
  have k1 := C2.out.cell 1
  have k2 := C2.out.cell 2
  have k3 := C2.out.cell 3
  have k4 := C2.out.cell 4
  have k5 := C2.out.cell 5
  have k6 := C2.out.cell 6
  have k7 := C2.out.cell 7
  simp at k0 k1 k2 k3 k4 k5 k6 k7
  have d0 := D2.out.cell 0
  have d1 := D2.out.cell 1
  have d2 := D2.out.cell 2
  have d3 := D2.out.cell 3
  have d4 := D2.out.cell 4
  have d5 := D2.out.cell 5
  have d6 := D2.out.cell 6
  have d7 := D2.out.cell 7
  simp at d0 d1 d2 d3 d4 d5 d6 d7
  go_wp2_with fail
  refine (refMay_any _ _ _ _ _ _ _ _ _ hf2).mono ?_
  rw [hm2]
  rintro e w3 ⟨rfl, hb3⟩
  have s3 := hb3.size
  have C3 := Lib.hid (C2.out.below hb3 (by omega))
  have D3 := Lib.hid (D2.out.below hb3 (by omega))
  have B3 := Lib.hid (B2.out.trans (hb3.mono (by omega)))
  clear C2 D2 B2 hb3 k0 k1 k2 k3 k4 k5 k6 k7 d0 d1 d2 d3 d4 d5 d6 d7
  go_wp2_with fail
  go_ret
  exact ⟨rfl, B3.out⟩
set_option maxHeartbeats 8000000 in
theorem walkNewSame (g1 b1 s1_ : Int) (f1 : Nat) (a1 n1 k1_ h1 : Int) (g2 b2 s2_ : Int) (f2 : Nat) (a2 n2 k2_ h2 : Int) (t : Bool) (w : World) (hf1 : f1 < 18446744073709551616) (hf2 : f2 < 18446744073709551616) (hm1 : mayB g1 b1 s1_ f1 a1 n1 k1_ h1 = true) (hm2 : mayB g2 b2 s2_ f2 a2 n2 k2_ h2 = true) (hg : (g1 == g2) = true) :
    Calls Try.prog 12 #[.agg #[.int .i64 g1, .int .i64 b1, .int .i64 s1_, .float .f64 f1, .int .i64 a1, .int .i64 n1, .int .i64 k1_, .int .i64 h1], .agg #[.int .i64 g2, .int .i64 b2, .int .i64 s2_, .float .f64 f2, .int .i64 a2, .int .i64 n2, .int .i64 k2_, .int .i64 h2], .bool t] w fun e w' => e = .returned (.bool true) ∧ Below w.heap.size w w' := by
  have hst := storeFloat
  go_enter Try.func12, Try.ntmps12
  go_wp2_with fail
  have C0 := Lib.hid ((Blk.new w 42 #[.int .i64 g1, .int .i64 b1, .int .i64 s1_, .float .f64 f1, .int .i64 a1, .int .i64 n1, .int .i64 k1_, .int .i64 h1]).alloc (.cells #[.int .i64 g2, .int .i64 b2, .int .i64 s2_, .float .f64 f2, .int .i64 a2, .int .i64 n2, .int .i64 k2_, .int .i64 h2] 42))
  have D0 := Lib.hid (Blk.new (w.alloc (.cells #[.int .i64 g1, .int .i64 b1, .int .i64 s1_, .float .f64 f1, .int .i64 a1, .int .i64 n1, .int .i64 k1_, .int .i64 h1] 42)) 42 #[.int .i64 g2, .int .i64 b2, .int .i64 s2_, .float .f64 f2, .int .i64 a2, .int .i64 n2, .int .i64 k2_, .int .i64 h2])
  simp only [World.size_alloc] at D0
  have B0 := Lib.hid (((Below.refl w.heap.size w).alloc (Nat.le_refl _) (.cells #[.int .i64 g1, .int .i64 b1, .int .i64 s1_, .float .f64 f1, .int .i64 a1, .int .i64 n1, .int .i64 k1_, .int .i64 h1] 42)).alloc (by simp) (.cells #[.int .i64 g2, .int .i64 b2, .int .i64 s2_, .float .f64 f2, .int .i64 a2, .int .i64 n2, .int .i64 k2_, .int .i64 h2] 42))
  refine (awake16 _).mono ?_
  rintro e w1 ⟨rfl, hb1⟩
  have s1 := hb1.size
  simp only [World.size_alloc] at s1
  have C1 := Lib.hid (C0.out.below hb1 (by simp; omega))
  have D1 := Lib.hid (D0.out.below hb1 (by simp))
  have B1 := Lib.hid (B0.out.trans (hb1.mono (by simp; omega)))
  clear C0 D0 B0 hb1
  have k0 := C1.out.cell 0
  have k1 := C1.out.cell 1
  have k2 := C1.out.cell 2
  have k3 := C1.out.cell 3
  have k4 := C1.out.cell 4
  have k5 := C1.out.cell 5
  have k6 := C1.out.cell 6
  have k7 := C1.out.cell 7
  simp at k0 k1 k2 k3 k4 k5 k6 k7
  have d0 := D1.out.cell 0
  have d1 := D1.out.cell 1
  have d2 := D1.out.cell 2
  have d3 := D1.out.cell 3
  have d4 := D1.out.cell 4
  have d5 := D1.out.cell 5
  have d6 := D1.out.cell 6
  have d7 := D1.out.cell 7
  simp at d0 d1 d2 d3 d4 d5 d6 d7
  go_wp2_with fail
  refine (refMay_any _ _ _ _ _ _ _ _ _ hf1).mono ?_
  rw [hm1]
  rintro e w2 ⟨rfl, hb2⟩
  have s2 := hb2.size
  have C2 := Lib.hid (C1.out.below hb2 (by omega))
  have D2 := Lib.hid (D1.out.below hb2 (by omega))
  have B2 := Lib.hid (B1.out.trans (hb2.mono (by omega)))
  clear C1 D1 B1 hb2 k0 k1 k2 k3 k4 k5 k6 k7 d0 d1 d2 d3 d4 d5 d6 d7
  have k0 := C2.out.cell 0
  have k1 := C2.out.cell 1
  have k2 := C2.out.cell 2
  have k3 := C2.out.cell 3
  have k4 := C2.out.cell 4
  have k5 := C2.out.cell 5
  have k6 := C2.out.cell 6
  have k7 := C2.out.cell 7
  simp at k0 k1 k2 k3 k4 k5 k6 k7
  have d0 := D2.out.cell 0
  have d1 := D2.out.cell 1
  have d2 := D2.out.cell 2
  have d3 := D2.out.cell 3
  have d4 := D2.out.cell 4
  have d5 := D2.out.cell 5
  have d6 := D2.out.cell 6
  have d7 := D2.out.cell 7
  simp at d0 d1 d2 d3 d4 d5 d6 d7
  go_wp2_with fail
  refine (refMay_any _ _ _ _ _ _ _ _ _ hf2).mono ?_
  rw [hm2]
  rintro e w3 ⟨rfl, hb3⟩
  have s3 := hb3.size
  have C3 := Lib.hid (C2.out.below hb3 (by omega))
  have D3 := Lib.hid (D2.out.below hb3 (by omega))
  have B3 := Lib.hid (B2.out.trans (hb3.mono (by omega)))
  clear C2 D2 B2 hb3 k0 k1 k2 k3 k4 k5 k6 k7 d0 d1 d2 d3 d4 d5 d6 d7
  have k0 := C3.out.cell 0
  have k1 := C3.out.cell 1
  have k2 := C3.out.cell 2
  have k3 := C3.out.cell 3
  have k4 := C3.out.cell 4
  have k5 := C3.out.cell 5
  have k6 := C3.out.cell 6
  have k7 := C3.out.cell 7
  simp at k0 k1 k2 k3 k4 k5 k6 k7
  have d0 := D3.out.cell 0
  have d1 := D3.out.cell 1
  have d2 := D3.out.cell 2
  have d3 := D3.out.cell 3
  have d4 := D3.out.cell 4
  have d5 := D3.out.cell 5
  have d6 := D3.out.cell 6
  have d7 := D3.out.cell 7
  simp at d0 d1 d2 d3 d4 d5 d6 d7
  go_wp2_with fail
  go_ret
  exact ⟨rfl, B3.out⟩

theorem walkNewer (g1 b1 s1_ : Int) (f1 : Nat) (a1 n1 k1_ h1 : Int) (g2 b2 s2_ : Int) (f2 : Nat) (a2 n2 k2_ h2 : Int) (t : Bool) (w : World) (hf1 : f1 < 18446744073709551616) (hf2 : f2 < 18446744073709551616) :
    Calls Try.prog 12 #[.agg #[.int .i64 g1, .int .i64 b1, .int .i64 s1_, .float .f64 f1, .int .i64 a1, .int .i64 n1, .int .i64 k1_, .int .i64 h1], .agg #[.int .i64 g2, .int .i64 b2, .int .i64 s2_, .float .f64 f2, .int .i64 a2, .int .i64 n2, .int .i64 k2_, .int .i64 h2], .bool t] w fun e w' => e = .returned (.bool true) ∧ Below w.heap.size w w' := by
  rcases tf (mayB g1 b1 s1_ f1 a1 n1 k1_ h1) with hm1 | hm1
  · rcases tf (mayB g2 b2 s2_ f2 a2 n2 k2_ h2) with hm2 | hm2
    · rcases tf (g1 == g2) with hg | hg
      · exact walkNewSame g1 b1 s1_ f1 a1 n1 k1_ h1 g2 b2 s2_ f2 a2 n2 k2_ h2 t w hf1 hf2 hm1 hm2 hg
      · obtain ⟨x1, _, _, _, _, _, _, rfl, rfl, rfl, rfl, rfl, rfl, rfl⟩ := enc_nat hm1
        obtain ⟨x2, _, _, _, _, _, _, rfl, rfl, rfl, rfl, rfl, rfl, rfl⟩ := enc_nat hm2
        have hne : ¬ x1 = x2 := by have := hg; rw [beq_eq_false_iff_ne] at this; omega
        by_cases hl : x1 < x2
        · cases t
          · exact walkNewLF _ _ _ f1 _ _ _ _ _ _ _ f2 _ _ _ _ w hf1 hf2 hm1 hm2 hg hl
          · exact walkNewLT _ _ _ f1 _ _ _ _ _ _ _ f2 _ _ _ _ w hf1 hf2 hm1 hm2 hg hl
        · have hl' : x2 < x1 := by omega
          cases t
          · exact walkNewGF _ _ _ f1 _ _ _ _ _ _ _ f2 _ _ _ _ w hf1 hf2 hm1 hm2 hg hl'
          · exact walkNewGT _ _ _ f1 _ _ _ _ _ _ _ f2 _ _ _ _ w hf1 hf2 hm1 hm2 hg hl'
    · exact walkNewNo2 g1 b1 s1_ f1 a1 n1 k1_ h1 g2 b2 s2_ f2 a2 n2 k2_ h2 t w hf1 hf2 hm1 hm2
  · exact walkNewNo1 g1 b1 s1_ f1 a1 n1 k1_ h1 g2 b2 s2_ f2 a2 n2 k2_ h2 t w hf1 hf2 hm1
end Go.Proofs.Ythhgmanoifpoiaa

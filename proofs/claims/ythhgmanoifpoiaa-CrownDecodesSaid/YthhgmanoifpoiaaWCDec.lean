/- The walk of CrownDecodes. -/
import Derived.Test.YthhgmanoifpoiaaCrB2
import Derived.Test.YthhgmanoifpoiaaCrK
namespace Go.Proofs.Ythhgmanoifpoiaa
open Go.RowKit
set_option linter.unusedVariables false
theorem decV_bad {bs : List B8} (h : ¬ decE bs = 0) : decV bs = zeroV := by unfold decV; rw [if_neg h]
theorem decV_ok {bs : List B8} (h : decE bs = 0) : decV bs = crownV bs := by unfold decV; rw [if_pos h]

set_option maxHeartbeats 4000000 in
theorem walkDecBad (A : Option Addr) (n c : Nat) (bs : List B8) (w : World) (hr : Rd w w.heap.size A n bs) (hc : n ≤ c) (hn : n ≤ 500) (h : ¬ decE bs = 0) :
    Calls Try.prog 8 #[.slice A n c] w fun e w' => e = .returned (.bool true) ∧ Below w.heap.size w w' := by
  have hst := storeFloat
  have D := fun (W : World) (h' : Rd W W.heap.size A n bs) => Lib.hid (dec_any A n c bs W h' hc)
  have F := fun (W : World) (h' : Rd W W.heap.size A n bs) => Lib.hid (refDec_any A n c bs W h' hc)
  rw [decV_bad h] at D F
  unfold zeroV at D F
  generalize hE : decE bs = E at *
  have h1 : (E != 0) = true := by rw [bne_iff_ne]; exact h
  have h2 : (E == 0) = false := by rw [beq_eq_false_iff_ne]; exact h
  clear hE
  have HR := Lib.hid hr
  clear hr h
  go_enter Try.func8, Try.ntmps8
  go_wp2_with (first
    | (go_at_call 26
       refine (awake16 _).mono ?_
       rintro e w1 ⟨rfl, hb1⟩
       have B1 := Lib.hid hb1
       have R1 := Lib.hid ((HR.out.below hb1).more hb1.size)
       have s1 := hb1.size
       clear hb1)
    | fail)
  refine (D _ R1.out).out.mono ?_
  rintro e w2 ⟨rfl, hb2⟩
  have s2 := hb2.size
  have B2 := Lib.hid ((B1.out.trans (hb2.mono (by omega))).alloc (by omega) (.cells #[.int .i64 0, .int .i64 0, .int .i64 0, .float .f64 0, .int .i64 0, .int .i64 0, .int .i64 0, .int .i64 0] 51))
  have C2 := Lib.hid (Blk.new w2 51 #[.int .i64 0, .int .i64 0, .int .i64 0, .float .f64 0, .int .i64 0, .int .i64 0, .int .i64 0, .int .i64 0])
  have R2 := Lib.hid (((R1.out.below hb2).alloc s2 (.cells #[.int .i64 0, .int .i64 0, .int .i64 0, .float .f64 0, .int .i64 0, .int .i64 0, .int .i64 0, .int .i64 0] 51)).more (B' := (w2.alloc (.cells #[.int .i64 0, .int .i64 0, .int .i64 0, .float .f64 0, .int .i64 0, .int .i64 0, .int .i64 0, .int .i64 0] 51)).heap.size) (by simp; omega))
  clear B1 R1 hb2
  go_wp2_with fail
  refine (F _ R2.out).out.mono ?_
  rintro e w3 ⟨rfl, hb3⟩
  have s3 := hb3.size
  simp only [World.size_alloc] at s3
  have C3 := Lib.hid (C2.out.below hb3 (by simp))
  have B3 := Lib.hid (B2.out.trans (hb3.mono (by simp; omega)))
  have R3 := Lib.hid ((R2.out.below hb3).more hb3.size)
  clear C2 B2 R2 hb3
  go_upto_region 7 with fail
  have C4 := Lib.hid (C3.out.alloc (.cells #[.int .i64 0, .int .i64 0, .int .i64 0, .float .f64 0, .int .i64 0, .int .i64 0, .int .i64 0, .int .i64 0] 42))
  have D4 := Lib.hid (Blk.new w3 42 #[.int .i64 0, .int .i64 0, .int .i64 0, .float .f64 0, .int .i64 0, .int .i64 0, .int .i64 0, .int .i64 0])
  have B4 := Lib.hid (B3.out.alloc (by omega) (.cells #[.int .i64 0, .int .i64 0, .int .i64 0, .float .f64 0, .int .i64 0, .int .i64 0, .int .i64 0, .int .i64 0] 42))
  have R4 := Lib.hid ((R3.out.alloc (Nat.le_refl _) (.cells #[.int .i64 0, .int .i64 0, .int .i64 0, .float .f64 0, .int .i64 0, .int .i64 0, .int .i64 0, .int .i64 0] 42)).more (B' := (w3.alloc (.cells #[.int .i64 0, .int .i64 0, .int .i64 0, .float .f64 0, .int .i64 0, .int .i64 0, .int .i64 0, .int .i64 0] 42)).heap.size) (by simp))
  have s4 : (w3.alloc (.cells #[.int .i64 0, .int .i64 0, .int .i64 0, .float .f64 0, .int .i64 0, .int .i64 0, .int .i64 0, .int .i64 0] 42)).heap.size = w3.heap.size + 1 := by simp
  generalize hW : w3.alloc (.cells #[.int .i64 0, .int .i64 0, .int .i64 0, .float .f64 0, .int .i64 0, .int .i64 0, .int .i64 0, .int .i64 0] 42) = w4 at *
  clear hW C3 B3 R3
  obtain ⟨v, hv⟩ : ∃ v, blankB bs = v := ⟨_, rfl⟩
  have hvv : (v == v) = true := by simp
  have B5 := B4
  have R5 := R4
  have s5 := Nat.le_refl w4.heap.size
  have BL := fun W h' => Lib.hid (blank_any A n c bs W h')
  have RB := fun W h' => Lib.hid (refBlank_any A n c bs (World.heap W).size W h' (by omega))
  rw [hv] at BL RB
  clear hv
  go_wp2_with fail
  refine (BL _ R5.out).out.mono ?_
  rintro e w6 ⟨rfl, hb6⟩
  have B6 := Lib.hid (B5.out.trans (hb6.mono (by omega)))
  have R6 := Lib.hid ((R5.out.below hb6).more hb6.size)
  clear B5 R5 hb6
  go_wp2_with fail
  refine (RB _ R6.out).out.mono ?_
  rintro e w7 ⟨rfl, rfl⟩
  cases v
  all_goals
    go_wp2_with fail
    go_ret
    exact ⟨rfl, B6.out⟩
set_option maxHeartbeats 4000000 in
theorem walkDecOk (A : Option Addr) (n c : Nat) (bs : List B8) (w : World) (hr : Rd w w.heap.size A n bs) (hc : n ≤ c) (hn : n ≤ 500) (h : decE bs = 0) :
    Calls Try.prog 8 #[.slice A n c] w fun e w' => e = .returned (.bool true) ∧ Below w.heap.size w w' := by
  have hst := storeFloat
  have D := fun (W : World) (h' : Rd W W.heap.size A n bs) => Lib.hid (dec_any A n c bs W h' hc)
  have F := fun (W : World) (h' : Rd W W.heap.size A n bs) => Lib.hid (refDec_any A n c bs W h' hc)
  rw [decV_ok h, h] at D F
  unfold crownV at D F
  have HR := Lib.hid hr
  clear hr h
  go_enter Try.func8, Try.ntmps8
  go_wp2_with (first
    | (go_at_call 26
       refine (awake16 _).mono ?_
       rintro e w1 ⟨rfl, hb1⟩
       have B1 := Lib.hid hb1
       have R1 := Lib.hid ((HR.out.below hb1).more hb1.size)
       have s1 := hb1.size
       clear hb1)
    | fail)
  refine (D _ R1.out).out.mono ?_
  rintro e w2 ⟨rfl, hb2⟩
  have s2 := hb2.size
  have B2 := Lib.hid ((B1.out.trans (hb2.mono (by omega))).alloc (by omega) (.cells #[.int .i64 (numAt bs 2), .int .i64 (numAt bs 6), .int .i64 (numAt bs 10), .float .f64 (gainAt bs), .int .i64 (numAt bs 14), .int .i64 (numAt bs 18), .int .i64 (numAt bs 22), .int .i64 (numAt bs 26)] 51))
  have C2 := Lib.hid (Blk.new w2 51 #[.int .i64 (numAt bs 2), .int .i64 (numAt bs 6), .int .i64 (numAt bs 10), .float .f64 (gainAt bs), .int .i64 (numAt bs 14), .int .i64 (numAt bs 18), .int .i64 (numAt bs 22), .int .i64 (numAt bs 26)])
  have R2 := Lib.hid (((R1.out.below hb2).alloc s2 (.cells #[.int .i64 (numAt bs 2), .int .i64 (numAt bs 6), .int .i64 (numAt bs 10), .float .f64 (gainAt bs), .int .i64 (numAt bs 14), .int .i64 (numAt bs 18), .int .i64 (numAt bs 22), .int .i64 (numAt bs 26)] 51)).more (B' := (w2.alloc (.cells #[.int .i64 (numAt bs 2), .int .i64 (numAt bs 6), .int .i64 (numAt bs 10), .float .f64 (gainAt bs), .int .i64 (numAt bs 14), .int .i64 (numAt bs 18), .int .i64 (numAt bs 22), .int .i64 (numAt bs 26)] 51)).heap.size) (by simp; omega))
  clear B1 R1 hb2
  go_wp2_with fail
  refine (F _ R2.out).out.mono ?_
  rintro e w3 ⟨rfl, hb3⟩
  have s3 := hb3.size
  simp only [World.size_alloc] at s3
  have C3 := Lib.hid (C2.out.below hb3 (by simp))
  have B3 := Lib.hid (B2.out.trans (hb3.mono (by simp; omega)))
  have R3 := Lib.hid ((R2.out.below hb3).more hb3.size)
  clear C2 B2 R2 hb3
  go_upto_region 7 with fail
  have C4 := Lib.hid (C3.out.alloc (.cells #[.int .i64 (numAt bs 2), .int .i64 (numAt bs 6), .int .i64 (numAt bs 10), .float .f64 (gainAt bs), .int .i64 (numAt bs 14), .int .i64 (numAt bs 18), .int .i64 (numAt bs 22), .int .i64 (numAt bs 26)] 42))
  have D4 := Lib.hid (Blk.new w3 42 #[.int .i64 (numAt bs 2), .int .i64 (numAt bs 6), .int .i64 (numAt bs 10), .float .f64 (gainAt bs), .int .i64 (numAt bs 14), .int .i64 (numAt bs 18), .int .i64 (numAt bs 22), .int .i64 (numAt bs 26)])
  have B4 := Lib.hid (B3.out.alloc (by omega) (.cells #[.int .i64 (numAt bs 2), .int .i64 (numAt bs 6), .int .i64 (numAt bs 10), .float .f64 (gainAt bs), .int .i64 (numAt bs 14), .int .i64 (numAt bs 18), .int .i64 (numAt bs 22), .int .i64 (numAt bs 26)] 42))
  have R4 := Lib.hid ((R3.out.alloc (Nat.le_refl _) (.cells #[.int .i64 (numAt bs 2), .int .i64 (numAt bs 6), .int .i64 (numAt bs 10), .float .f64 (gainAt bs), .int .i64 (numAt bs 14), .int .i64 (numAt bs 18), .int .i64 (numAt bs 22), .int .i64 (numAt bs 26)] 42)).more (B' := (w3.alloc (.cells #[.int .i64 (numAt bs 2), .int .i64 (numAt bs 6), .int .i64 (numAt bs 10), .float .f64 (gainAt bs), .int .i64 (numAt bs 14), .int .i64 (numAt bs 18), .int .i64 (numAt bs 22), .int .i64 (numAt bs 26)] 42)).heap.size) (by simp))
  have s4 : (w3.alloc (.cells #[.int .i64 (numAt bs 2), .int .i64 (numAt bs 6), .int .i64 (numAt bs 10), .float .f64 (gainAt bs), .int .i64 (numAt bs 14), .int .i64 (numAt bs 18), .int .i64 (numAt bs 22), .int .i64 (numAt bs 26)] 42)).heap.size = w3.heap.size + 1 := by simp
  generalize hW : w3.alloc (.cells #[.int .i64 (numAt bs 2), .int .i64 (numAt bs 6), .int .i64 (numAt bs 10), .float .f64 (gainAt bs), .int .i64 (numAt bs 14), .int .i64 (numAt bs 18), .int .i64 (numAt bs 22), .int .i64 (numAt bs 26)] 42) = w4 at *
  clear hW C3 B3 R3
  obtain ⟨v, hv⟩ : ∃ v, blankB bs = v := ⟨_, rfl⟩
  have hvv : (v == v) = true := by simp
  have k0 := C4.out.cell 0
  have k1 := C4.out.cell 1
  have k2 := C4.out.cell 2
  have k3 := C4.out.cell 3
  have k4 := C4.out.cell 4
  have k5 := C4.out.cell 5
  have k6 := C4.out.cell 6
  have k7 := C4.out.cell 7
  simp at k0 k1 k2 k3 k4 k5 k6 k7
  have d0 := D4.out.cell 0
  have d1 := D4.out.cell 1
  have d2 := D4.out.cell 2
  have d3 := D4.out.cell 3
  have d4 := D4.out.cell 4
  have d5 := D4.out.cell 5
  have d6 := D4.out.cell 6
  have d7 := D4.out.cell 7
  simp at d0 d1 d2 d3 d4 d5 d6 d7
  go_wp2_with fail
  refine (same_any _ _ _ _ _ _ _ _ _).mono ?_
  rintro e w5 ⟨rfl, hb5⟩
  have B5 := Lib.hid (B4.out.trans (hb5.mono (by omega)))
  have R5 := Lib.hid ((R4.out.below hb5).more hb5.size)
  have s5 := hb5.size
  clear C4 D4 B4 R4 hb5 k0 k1 k2 k3 k4 k5 k6 k7 d0 d1 d2 d3 d4 d5 d6 d7
  have BL := fun W h' => Lib.hid (blank_any A n c bs W h')
  have RB := fun W h' => Lib.hid (refBlank_any A n c bs (World.heap W).size W h' (by omega))
  rw [hv] at BL RB
  clear hv
  go_wp2_with fail
  refine (BL _ R5.out).out.mono ?_
  rintro e w6 ⟨rfl, hb6⟩
  have B6 := Lib.hid (B5.out.trans (hb6.mono (by omega)))
  have R6 := Lib.hid ((R5.out.below hb6).more hb6.size)
  clear B5 R5 hb6
  go_wp2_with fail
  refine (RB _ R6.out).out.mono ?_
  rintro e w7 ⟨rfl, rfl⟩
  cases v
  all_goals
    go_wp2_with fail
    go_ret
    exact ⟨rfl, B6.out⟩
theorem walkDec (A : Option Addr) (n c : Nat) (bs : List B8) (w : World) (hr : Rd w w.heap.size A n bs) (hc : n ≤ c) :
    Calls Try.prog 8 #[.slice A n c] w fun e w' => e = .returned (.bool true) ∧ Below w.heap.size w w' := by
  by_cases hn : n ≤ 500
  · by_cases h : decE bs = 0
    · exact walkDecOk A n c bs w hr hc hn h
    · exact walkDecBad A n c bs w hr hc hn h
  · have hnI : (500 : Int) < (n : Int) := by omega
    clear hr
    go_enter Try.func8, Try.ntmps8
    go_wp2_with (go_at_call 26; refine (awake16 _).mono ?_; rintro e w1 ⟨rfl, hb1⟩)
    go_ret
    exact ⟨rfl, hb1⟩
end Go.Proofs.Ythhgmanoifpoiaa

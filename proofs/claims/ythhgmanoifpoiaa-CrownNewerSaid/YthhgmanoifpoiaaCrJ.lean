/- The contract of Choose. -/
import Derived.Test.YthhgmanoifpoiaaCrH
namespace Go.Proofs.Ythhgmanoifpoiaa
open Go.RowKit
set_option linter.unusedVariables false

set_option maxHeartbeats 4000000 in
theorem ch_both (A : Option Addr) (n c : Nat) (a : List B8) (A2 : Option Addr) (n2 c2 : Nat) (b : List B8) (w : World) (hra : Rd w w.heap.size A n a) (hca : n ≤ c) (hrb : Rd w w.heap.size A2 n2 b) (hcb : n2 ≤ c2) (hba : blankB a = true) (hbb : blankB b = true) :
    Calls Try.prog 38 #[.slice A n c, .slice A2 n2 c2] w fun e w' => e = .returned (.tuple #[zeroV, .int .i64 0, .int .i64 8]) ∧ Below w.heap.size w w' := by
  have hst := storeFloat
  have BA := fun (W : World) (h' : Rd W W.heap.size A n a) => Lib.hid (blank_any A n c a W h')
  rw [hba] at BA
  have BB := fun (W : World) (h' : Rd W W.heap.size A2 n2 b) => Lib.hid (blank_any A2 n2 c2 b W h')
  rw [hbb] at BB
  have X1 := Lib.hid ((hra.alloc (Nat.le_refl _) (.cells #[.int .i64 0, .int .i64 0, .int .i64 0, .float .f64 0, .int .i64 0, .int .i64 0, .int .i64 0, .int .i64 0] 51)).more (B' := (w.alloc (.cells #[.int .i64 0, .int .i64 0, .int .i64 0, .float .f64 0, .int .i64 0, .int .i64 0, .int .i64 0, .int .i64 0] 51)).heap.size) (by simp))
  have Y1 := Lib.hid ((hrb.alloc (Nat.le_refl _) (.cells #[.int .i64 0, .int .i64 0, .int .i64 0, .float .f64 0, .int .i64 0, .int .i64 0, .int .i64 0, .int .i64 0] 51)).more (B' := (w.alloc (.cells #[.int .i64 0, .int .i64 0, .int .i64 0, .float .f64 0, .int .i64 0, .int .i64 0, .int .i64 0, .int .i64 0] 51)).heap.size) (by simp))
  have Q1 := Lib.hid (Blk.new w 51 #[.int .i64 0, .int .i64 0, .int .i64 0, .float .f64 0, .int .i64 0, .int .i64 0, .int .i64 0, .int .i64 0])
  have B1 := Lib.hid ((Below.refl w.heap.size w).alloc (Nat.le_refl _) (.cells #[.int .i64 0, .int .i64 0, .int .i64 0, .float .f64 0, .int .i64 0, .int .i64 0, .int .i64 0, .int .i64 0] 51))
  have s1 : (w.alloc (.cells #[.int .i64 0, .int .i64 0, .int .i64 0, .float .f64 0, .int .i64 0, .int .i64 0, .int .i64 0, .int .i64 0] 51)).heap.size = w.heap.size + 1 := by simp
  have hst := storeFloat
  clear hra hrb
  go_enter Try.func38, Try.ntmps38
  go_upto_region 1 with fail
  generalize w.alloc (.cells #[.int .i64 0, .int .i64 0, .int .i64 0, .float .f64 0, .int .i64 0, .int .i64 0, .int .i64 0, .int .i64 0] 51) = w1 at *
  go_wp2_with fail
  refine (BA _ X1.out).out.mono ?_
  rintro e w2 ⟨rfl, hb2⟩
  have s2 := hb2.size
  have X2 := Lib.hid ((X1.out.below hb2).more s2)
  have Y2 := Lib.hid ((Y1.out.below hb2).more s2)
  have Q2 := Lib.hid (Q1.out.below hb2 (by omega))
  have B2 := Lib.hid (B1.out.trans (hb2.mono (by omega)))
  clear hb2 X1 Y1 Q1 B1
  go_wp2_with fail
  refine (BB _ Y2.out).out.mono ?_
  rintro e w3 ⟨rfl, hb3⟩
  have s3 := hb3.size
  have X3 := Lib.hid ((X2.out.below hb3).more s3)
  have Y3 := Lib.hid ((Y2.out.below hb3).more s3)
  have Q3 := Lib.hid (Q2.out.below hb3 (by omega))
  have B3 := Lib.hid (B2.out.trans (hb3.mono (by omega)))
  clear hb3 X2 Y2 Q2 B2
  go_upto_region 2 with fail
  have q0 := Q3.out.cell 0
  have g0 := Q3.out.frozen 0
  have q1 := Q3.out.cell 1
  have g1 := Q3.out.frozen 1
  have q2 := Q3.out.cell 2
  have g2 := Q3.out.frozen 2
  have q3 := Q3.out.cell 3
  have g3 := Q3.out.frozen 3
  have q4 := Q3.out.cell 4
  have g4 := Q3.out.frozen 4
  have q5 := Q3.out.cell 5
  have g5 := Q3.out.frozen 5
  have q6 := Q3.out.cell 6
  have g6 := Q3.out.frozen 6
  have q7 := Q3.out.cell 7
  have g7 := Q3.out.frozen 7
  simp at q0 q1 q2 q3 q4 q5 q6 q7
  go_wp2_with fail
  have Y := ((((((((Q3.out).set_ 0 (.int .i64 0)).set_ 1 (.int .i64 0)).set_ 2 (.int .i64 0)).set_ 3 (.float .f64 0)).set_ 4 (.int .i64 0)).set_ 5 (.int .i64 0)).set_ 6 (.int .i64 0)).set_ 7 (.int .i64 0)
  have BY := ((((((((B3.out).setCell (p := ⟨w.heap.size, 0, none⟩) (Nat.le_refl _) (.int .i64 0)).setCell (p := ⟨w.heap.size, 1, none⟩) (Nat.le_refl _) (.int .i64 0)).setCell (p := ⟨w.heap.size, 2, none⟩) (Nat.le_refl _) (.int .i64 0)).setCell (p := ⟨w.heap.size, 3, none⟩) (Nat.le_refl _) (.float .f64 0)).setCell (p := ⟨w.heap.size, 4, none⟩) (Nat.le_refl _) (.int .i64 0)).setCell (p := ⟨w.heap.size, 5, none⟩) (Nat.le_refl _) (.int .i64 0)).setCell (p := ⟨w.heap.size, 6, none⟩) (Nat.le_refl _) (.int .i64 0)).setCell (p := ⟨w.heap.size, 7, none⟩) (Nat.le_refl _) (.int .i64 0)
  generalize ((((((((w3.setCell ⟨w.heap.size, 0, none⟩ (.int .i64 0)).setCell ⟨w.heap.size, 1, none⟩ (.int .i64 0)).setCell ⟨w.heap.size, 2, none⟩ (.int .i64 0)).setCell ⟨w.heap.size, 3, none⟩ (.float .f64 0)).setCell ⟨w.heap.size, 4, none⟩ (.int .i64 0)).setCell ⟨w.heap.size, 5, none⟩ (.int .i64 0)).setCell ⟨w.heap.size, 6, none⟩ (.int .i64 0)).setCell ⟨w.heap.size, 7, none⟩ (.int .i64 0)) = wz at *
  have y0 := Y.cell 0
  have y1 := Y.cell 1
  have y2 := Y.cell 2
  have y3 := Y.cell 3
  have y4 := Y.cell 4
  have y5 := Y.cell 5
  have y6 := Y.cell 6
  have y7 := Y.cell 7
  simp at y0 y1 y2 y3 y4 y5 y6 y7
  (try simp only [Exit.inBlock, Exit.then])
  refine bodyPost_ret (by simp [results, Try.results38, go_sem, y0, y1, y2, y3, y4, y5, y6, y7]; try rfl) rfl ?_
  exact ⟨rfl, BY⟩
set_option maxHeartbeats 4000000 in
theorem ch_b_one (A : Option Addr) (n c : Nat) (a : List B8) (A2 : Option Addr) (n2 c2 : Nat) (b : List B8) (w : World) (hra : Rd w w.heap.size A n a) (hca : n ≤ c) (hrb : Rd w w.heap.size A2 n2 b) (hcb : n2 ≤ c2) (hba : blankB a = true) (hbb : blankB b = false) (ho : oneB b = true) :
    Calls Try.prog 38 #[.slice A n c, .slice A2 n2 c2] w fun e w' => e = .returned (.tuple #[crownV b, .int .i64 1, .int .i64 0]) ∧ Below w.heap.size w w' := by
  have hst := storeFloat
  have BA := fun (W : World) (h' : Rd W W.heap.size A n a) => Lib.hid (blank_any A n c a W h')
  rw [hba] at BA
  have BB := fun (W : World) (h' : Rd W W.heap.size A2 n2 b) => Lib.hid (blank_any A2 n2 c2 b W h')
  rw [hbb] at BB
  have AL := fun (W : World) (h' : Rd W W.heap.size A2 n2 b) => Lib.hid (alone_any A2 n2 c2 b 1 W h' hcb)
  unfold aloneV aloneN aloneE at AL
  simp only [ho, if_true, Bool.false_eq_true, if_false] at AL
  unfold crownV at AL
  have X1 := Lib.hid ((hra.alloc (Nat.le_refl _) (.cells #[.int .i64 0, .int .i64 0, .int .i64 0, .float .f64 0, .int .i64 0, .int .i64 0, .int .i64 0, .int .i64 0] 51)).more (B' := (w.alloc (.cells #[.int .i64 0, .int .i64 0, .int .i64 0, .float .f64 0, .int .i64 0, .int .i64 0, .int .i64 0, .int .i64 0] 51)).heap.size) (by simp))
  have Y1 := Lib.hid ((hrb.alloc (Nat.le_refl _) (.cells #[.int .i64 0, .int .i64 0, .int .i64 0, .float .f64 0, .int .i64 0, .int .i64 0, .int .i64 0, .int .i64 0] 51)).more (B' := (w.alloc (.cells #[.int .i64 0, .int .i64 0, .int .i64 0, .float .f64 0, .int .i64 0, .int .i64 0, .int .i64 0, .int .i64 0] 51)).heap.size) (by simp))
  have Q1 := Lib.hid (Blk.new w 51 #[.int .i64 0, .int .i64 0, .int .i64 0, .float .f64 0, .int .i64 0, .int .i64 0, .int .i64 0, .int .i64 0])
  have B1 := Lib.hid ((Below.refl w.heap.size w).alloc (Nat.le_refl _) (.cells #[.int .i64 0, .int .i64 0, .int .i64 0, .float .f64 0, .int .i64 0, .int .i64 0, .int .i64 0, .int .i64 0] 51))
  have s1 : (w.alloc (.cells #[.int .i64 0, .int .i64 0, .int .i64 0, .float .f64 0, .int .i64 0, .int .i64 0, .int .i64 0, .int .i64 0] 51)).heap.size = w.heap.size + 1 := by simp
  have hst := storeFloat
  clear hra hrb
  go_enter Try.func38, Try.ntmps38
  go_upto_region 1 with fail
  generalize w.alloc (.cells #[.int .i64 0, .int .i64 0, .int .i64 0, .float .f64 0, .int .i64 0, .int .i64 0, .int .i64 0, .int .i64 0] 51) = w1 at *
  go_wp2_with fail
  refine (BA _ X1.out).out.mono ?_
  rintro e w2 ⟨rfl, hb2⟩
  have s2 := hb2.size
  have X2 := Lib.hid ((X1.out.below hb2).more s2)
  have Y2 := Lib.hid ((Y1.out.below hb2).more s2)
  have Q2 := Lib.hid (Q1.out.below hb2 (by omega))
  have B2 := Lib.hid (B1.out.trans (hb2.mono (by omega)))
  clear hb2 X1 Y1 Q1 B1
  go_wp2_with fail
  refine (BB _ Y2.out).out.mono ?_
  rintro e w3 ⟨rfl, hb3⟩
  have s3 := hb3.size
  have X3 := Lib.hid ((X2.out.below hb3).more s3)
  have Y3 := Lib.hid ((Y2.out.below hb3).more s3)
  have Q3 := Lib.hid (Q2.out.below hb3 (by omega))
  have B3 := Lib.hid (B2.out.trans (hb3.mono (by omega)))
  clear hb3 X2 Y2 Q2 B2
  go_wp2_with fail
  refine (BA _ X3.out).out.mono ?_
  rintro e w4 ⟨rfl, hb4⟩
  have s4 := hb4.size
  have X4 := Lib.hid ((X3.out.below hb4).more s4)
  have Y4 := Lib.hid ((Y3.out.below hb4).more s4)
  have Q4 := Lib.hid (Q3.out.below hb4 (by omega))
  have B4 := Lib.hid (B3.out.trans (hb4.mono (by omega)))
  clear hb4 X3 Y3 Q3 B3
  go_wp2_with fail
  refine (AL _ Y4.out).out.mono ?_
  rintro e w5 ⟨rfl, hb5⟩
  have s5 := hb5.size
  have X5 := Lib.hid ((X4.out.below hb5).more s5)
  have Y5 := Lib.hid ((Y4.out.below hb5).more s5)
  have Q5 := Lib.hid (Q4.out.below hb5 (by omega))
  have B5 := Lib.hid (B4.out.trans (hb5.mono (by omega)))
  clear hb5 X4 Y4 Q4 B4
  have q0 := Q5.out.cell 0
  have g0 := Q5.out.frozen 0
  have q1 := Q5.out.cell 1
  have g1 := Q5.out.frozen 1
  have q2 := Q5.out.cell 2
  have g2 := Q5.out.frozen 2
  have q3 := Q5.out.cell 3
  have g3 := Q5.out.frozen 3
  have q4 := Q5.out.cell 4
  have g4 := Q5.out.frozen 4
  have q5 := Q5.out.cell 5
  have g5 := Q5.out.frozen 5
  have q6 := Q5.out.cell 6
  have g6 := Q5.out.frozen 6
  have q7 := Q5.out.cell 7
  have g7 := Q5.out.frozen 7
  simp at q0 q1 q2 q3 q4 q5 q6 q7
  go_wp2_with fail
  have Y := ((((((((Q5.out).set_ 0 (.int .i64 (numAt b 2))).set_ 1 (.int .i64 (numAt b 6))).set_ 2 (.int .i64 (numAt b 10))).set_ 3 (.float .f64 (gainAt b))).set_ 4 (.int .i64 (numAt b 14))).set_ 5 (.int .i64 (numAt b 18))).set_ 6 (.int .i64 (numAt b 22))).set_ 7 (.int .i64 (numAt b 26))
  have BY := ((((((((B5.out).setCell (p := ⟨w.heap.size, 0, none⟩) (Nat.le_refl _) (.int .i64 (numAt b 2))).setCell (p := ⟨w.heap.size, 1, none⟩) (Nat.le_refl _) (.int .i64 (numAt b 6))).setCell (p := ⟨w.heap.size, 2, none⟩) (Nat.le_refl _) (.int .i64 (numAt b 10))).setCell (p := ⟨w.heap.size, 3, none⟩) (Nat.le_refl _) (.float .f64 (gainAt b))).setCell (p := ⟨w.heap.size, 4, none⟩) (Nat.le_refl _) (.int .i64 (numAt b 14))).setCell (p := ⟨w.heap.size, 5, none⟩) (Nat.le_refl _) (.int .i64 (numAt b 18))).setCell (p := ⟨w.heap.size, 6, none⟩) (Nat.le_refl _) (.int .i64 (numAt b 22))).setCell (p := ⟨w.heap.size, 7, none⟩) (Nat.le_refl _) (.int .i64 (numAt b 26))
  generalize ((((((((w5.setCell ⟨w.heap.size, 0, none⟩ (.int .i64 (numAt b 2))).setCell ⟨w.heap.size, 1, none⟩ (.int .i64 (numAt b 6))).setCell ⟨w.heap.size, 2, none⟩ (.int .i64 (numAt b 10))).setCell ⟨w.heap.size, 3, none⟩ (.float .f64 (gainAt b))).setCell ⟨w.heap.size, 4, none⟩ (.int .i64 (numAt b 14))).setCell ⟨w.heap.size, 5, none⟩ (.int .i64 (numAt b 18))).setCell ⟨w.heap.size, 6, none⟩ (.int .i64 (numAt b 22))).setCell ⟨w.heap.size, 7, none⟩ (.int .i64 (numAt b 26))) = wz at *
  have y0 := Y.cell 0
  have y1 := Y.cell 1
  have y2 := Y.cell 2
  have y3 := Y.cell 3
  have y4 := Y.cell 4
  have y5 := Y.cell 5
  have y6 := Y.cell 6
  have y7 := Y.cell 7
  simp at y0 y1 y2 y3 y4 y5 y6 y7
  (try simp only [Exit.inBlock, Exit.then])
  refine bodyPost_ret (by simp [results, Try.results38, go_sem, y0, y1, y2, y3, y4, y5, y6, y7]; try rfl) rfl ?_
  exact ⟨rfl, BY⟩
set_option maxHeartbeats 4000000 in
theorem ch_b_no (A : Option Addr) (n c : Nat) (a : List B8) (A2 : Option Addr) (n2 c2 : Nat) (b : List B8) (w : World) (hra : Rd w w.heap.size A n a) (hca : n ≤ c) (hrb : Rd w w.heap.size A2 n2 b) (hcb : n2 ≤ c2) (hba : blankB a = true) (hbb : blankB b = false) (ho : oneB b = false) :
    Calls Try.prog 38 #[.slice A n c, .slice A2 n2 c2] w fun e w' => e = .returned (.tuple #[zeroV, .int .i64 0, .int .i64 5]) ∧ Below w.heap.size w w' := by
  have hst := storeFloat
  have BA := fun (W : World) (h' : Rd W W.heap.size A n a) => Lib.hid (blank_any A n c a W h')
  rw [hba] at BA
  have BB := fun (W : World) (h' : Rd W W.heap.size A2 n2 b) => Lib.hid (blank_any A2 n2 c2 b W h')
  rw [hbb] at BB
  have AL := fun (W : World) (h' : Rd W W.heap.size A2 n2 b) => Lib.hid (alone_any A2 n2 c2 b 1 W h' hcb)
  unfold aloneV aloneN aloneE at AL
  simp only [ho, if_true, Bool.false_eq_true, if_false] at AL
  unfold zeroV at AL
  have X1 := Lib.hid ((hra.alloc (Nat.le_refl _) (.cells #[.int .i64 0, .int .i64 0, .int .i64 0, .float .f64 0, .int .i64 0, .int .i64 0, .int .i64 0, .int .i64 0] 51)).more (B' := (w.alloc (.cells #[.int .i64 0, .int .i64 0, .int .i64 0, .float .f64 0, .int .i64 0, .int .i64 0, .int .i64 0, .int .i64 0] 51)).heap.size) (by simp))
  have Y1 := Lib.hid ((hrb.alloc (Nat.le_refl _) (.cells #[.int .i64 0, .int .i64 0, .int .i64 0, .float .f64 0, .int .i64 0, .int .i64 0, .int .i64 0, .int .i64 0] 51)).more (B' := (w.alloc (.cells #[.int .i64 0, .int .i64 0, .int .i64 0, .float .f64 0, .int .i64 0, .int .i64 0, .int .i64 0, .int .i64 0] 51)).heap.size) (by simp))
  have Q1 := Lib.hid (Blk.new w 51 #[.int .i64 0, .int .i64 0, .int .i64 0, .float .f64 0, .int .i64 0, .int .i64 0, .int .i64 0, .int .i64 0])
  have B1 := Lib.hid ((Below.refl w.heap.size w).alloc (Nat.le_refl _) (.cells #[.int .i64 0, .int .i64 0, .int .i64 0, .float .f64 0, .int .i64 0, .int .i64 0, .int .i64 0, .int .i64 0] 51))
  have s1 : (w.alloc (.cells #[.int .i64 0, .int .i64 0, .int .i64 0, .float .f64 0, .int .i64 0, .int .i64 0, .int .i64 0, .int .i64 0] 51)).heap.size = w.heap.size + 1 := by simp
  have hst := storeFloat
  clear hra hrb
  go_enter Try.func38, Try.ntmps38
  go_upto_region 1 with fail
  generalize w.alloc (.cells #[.int .i64 0, .int .i64 0, .int .i64 0, .float .f64 0, .int .i64 0, .int .i64 0, .int .i64 0, .int .i64 0] 51) = w1 at *
  go_wp2_with fail
  refine (BA _ X1.out).out.mono ?_
  rintro e w2 ⟨rfl, hb2⟩
  have s2 := hb2.size
  have X2 := Lib.hid ((X1.out.below hb2).more s2)
  have Y2 := Lib.hid ((Y1.out.below hb2).more s2)
  have Q2 := Lib.hid (Q1.out.below hb2 (by omega))
  have B2 := Lib.hid (B1.out.trans (hb2.mono (by omega)))
  clear hb2 X1 Y1 Q1 B1
  go_wp2_with fail
  refine (BB _ Y2.out).out.mono ?_
  rintro e w3 ⟨rfl, hb3⟩
  have s3 := hb3.size
  have X3 := Lib.hid ((X2.out.below hb3).more s3)
  have Y3 := Lib.hid ((Y2.out.below hb3).more s3)
  have Q3 := Lib.hid (Q2.out.below hb3 (by omega))
  have B3 := Lib.hid (B2.out.trans (hb3.mono (by omega)))
  clear hb3 X2 Y2 Q2 B2
  go_wp2_with fail
  refine (BA _ X3.out).out.mono ?_
  rintro e w4 ⟨rfl, hb4⟩
  have s4 := hb4.size
  have X4 := Lib.hid ((X3.out.below hb4).more s4)
  have Y4 := Lib.hid ((Y3.out.below hb4).more s4)
  have Q4 := Lib.hid (Q3.out.below hb4 (by omega))
  have B4 := Lib.hid (B3.out.trans (hb4.mono (by omega)))
  clear hb4 X3 Y3 Q3 B3
  go_wp2_with fail
  refine (AL _ Y4.out).out.mono ?_
  rintro e w5 ⟨rfl, hb5⟩
  have s5 := hb5.size
  have X5 := Lib.hid ((X4.out.below hb5).more s5)
  have Y5 := Lib.hid ((Y4.out.below hb5).more s5)
  have Q5 := Lib.hid (Q4.out.below hb5 (by omega))
  have B5 := Lib.hid (B4.out.trans (hb5.mono (by omega)))
  clear hb5 X4 Y4 Q4 B4
  have q0 := Q5.out.cell 0
  have g0 := Q5.out.frozen 0
  have q1 := Q5.out.cell 1
  have g1 := Q5.out.frozen 1
  have q2 := Q5.out.cell 2
  have g2 := Q5.out.frozen 2
  have q3 := Q5.out.cell 3
  have g3 := Q5.out.frozen 3
  have q4 := Q5.out.cell 4
  have g4 := Q5.out.frozen 4
  have q5 := Q5.out.cell 5
  have g5 := Q5.out.frozen 5
  have q6 := Q5.out.cell 6
  have g6 := Q5.out.frozen 6
  have q7 := Q5.out.cell 7
  have g7 := Q5.out.frozen 7
  simp at q0 q1 q2 q3 q4 q5 q6 q7
  go_wp2_with fail
  have Y := ((((((((Q5.out).set_ 0 (.int .i64 0)).set_ 1 (.int .i64 0)).set_ 2 (.int .i64 0)).set_ 3 (.float .f64 0)).set_ 4 (.int .i64 0)).set_ 5 (.int .i64 0)).set_ 6 (.int .i64 0)).set_ 7 (.int .i64 0)
  have BY := ((((((((B5.out).setCell (p := ⟨w.heap.size, 0, none⟩) (Nat.le_refl _) (.int .i64 0)).setCell (p := ⟨w.heap.size, 1, none⟩) (Nat.le_refl _) (.int .i64 0)).setCell (p := ⟨w.heap.size, 2, none⟩) (Nat.le_refl _) (.int .i64 0)).setCell (p := ⟨w.heap.size, 3, none⟩) (Nat.le_refl _) (.float .f64 0)).setCell (p := ⟨w.heap.size, 4, none⟩) (Nat.le_refl _) (.int .i64 0)).setCell (p := ⟨w.heap.size, 5, none⟩) (Nat.le_refl _) (.int .i64 0)).setCell (p := ⟨w.heap.size, 6, none⟩) (Nat.le_refl _) (.int .i64 0)).setCell (p := ⟨w.heap.size, 7, none⟩) (Nat.le_refl _) (.int .i64 0)
  generalize ((((((((w5.setCell ⟨w.heap.size, 0, none⟩ (.int .i64 0)).setCell ⟨w.heap.size, 1, none⟩ (.int .i64 0)).setCell ⟨w.heap.size, 2, none⟩ (.int .i64 0)).setCell ⟨w.heap.size, 3, none⟩ (.float .f64 0)).setCell ⟨w.heap.size, 4, none⟩ (.int .i64 0)).setCell ⟨w.heap.size, 5, none⟩ (.int .i64 0)).setCell ⟨w.heap.size, 6, none⟩ (.int .i64 0)).setCell ⟨w.heap.size, 7, none⟩ (.int .i64 0)) = wz at *
  have y0 := Y.cell 0
  have y1 := Y.cell 1
  have y2 := Y.cell 2
  have y3 := Y.cell 3
  have y4 := Y.cell 4
  have y5 := Y.cell 5
  have y6 := Y.cell 6
  have y7 := Y.cell 7
  simp at y0 y1 y2 y3 y4 y5 y6 y7
  (try simp only [Exit.inBlock, Exit.then])
  refine bodyPost_ret (by simp [results, Try.results38, go_sem, y0, y1, y2, y3, y4, y5, y6, y7]; try rfl) rfl ?_
  exact ⟨rfl, BY⟩
set_option maxHeartbeats 4000000 in
theorem ch_a_one (A : Option Addr) (n c : Nat) (a : List B8) (A2 : Option Addr) (n2 c2 : Nat) (b : List B8) (w : World) (hra : Rd w w.heap.size A n a) (hca : n ≤ c) (hrb : Rd w w.heap.size A2 n2 b) (hcb : n2 ≤ c2) (hba : blankB a = false) (hbb : blankB b = true) (ho : oneB a = true) :
    Calls Try.prog 38 #[.slice A n c, .slice A2 n2 c2] w fun e w' => e = .returned (.tuple #[crownV a, .int .i64 0, .int .i64 0]) ∧ Below w.heap.size w w' := by
  have hst := storeFloat
  have BA := fun (W : World) (h' : Rd W W.heap.size A n a) => Lib.hid (blank_any A n c a W h')
  rw [hba] at BA
  have BB := fun (W : World) (h' : Rd W W.heap.size A2 n2 b) => Lib.hid (blank_any A2 n2 c2 b W h')
  rw [hbb] at BB
  have AL := fun (W : World) (h' : Rd W W.heap.size A n a) => Lib.hid (alone_any A n c a 0 W h' hca)
  unfold aloneV aloneN aloneE at AL
  simp only [ho, if_true, Bool.false_eq_true, if_false] at AL
  unfold crownV at AL
  have X1 := Lib.hid ((hra.alloc (Nat.le_refl _) (.cells #[.int .i64 0, .int .i64 0, .int .i64 0, .float .f64 0, .int .i64 0, .int .i64 0, .int .i64 0, .int .i64 0] 51)).more (B' := (w.alloc (.cells #[.int .i64 0, .int .i64 0, .int .i64 0, .float .f64 0, .int .i64 0, .int .i64 0, .int .i64 0, .int .i64 0] 51)).heap.size) (by simp))
  have Y1 := Lib.hid ((hrb.alloc (Nat.le_refl _) (.cells #[.int .i64 0, .int .i64 0, .int .i64 0, .float .f64 0, .int .i64 0, .int .i64 0, .int .i64 0, .int .i64 0] 51)).more (B' := (w.alloc (.cells #[.int .i64 0, .int .i64 0, .int .i64 0, .float .f64 0, .int .i64 0, .int .i64 0, .int .i64 0, .int .i64 0] 51)).heap.size) (by simp))
  have Q1 := Lib.hid (Blk.new w 51 #[.int .i64 0, .int .i64 0, .int .i64 0, .float .f64 0, .int .i64 0, .int .i64 0, .int .i64 0, .int .i64 0])
  have B1 := Lib.hid ((Below.refl w.heap.size w).alloc (Nat.le_refl _) (.cells #[.int .i64 0, .int .i64 0, .int .i64 0, .float .f64 0, .int .i64 0, .int .i64 0, .int .i64 0, .int .i64 0] 51))
  have s1 : (w.alloc (.cells #[.int .i64 0, .int .i64 0, .int .i64 0, .float .f64 0, .int .i64 0, .int .i64 0, .int .i64 0, .int .i64 0] 51)).heap.size = w.heap.size + 1 := by simp
  have hst := storeFloat
  clear hra hrb
  go_enter Try.func38, Try.ntmps38
  go_upto_region 1 with fail
  generalize w.alloc (.cells #[.int .i64 0, .int .i64 0, .int .i64 0, .float .f64 0, .int .i64 0, .int .i64 0, .int .i64 0, .int .i64 0] 51) = w1 at *
  go_wp2_with fail
  refine (BA _ X1.out).out.mono ?_
  rintro e w2 ⟨rfl, hb2⟩
  have s2 := hb2.size
  have X2 := Lib.hid ((X1.out.below hb2).more s2)
  have Y2 := Lib.hid ((Y1.out.below hb2).more s2)
  have Q2 := Lib.hid (Q1.out.below hb2 (by omega))
  have B2 := Lib.hid (B1.out.trans (hb2.mono (by omega)))
  clear hb2 X1 Y1 Q1 B1
  go_wp2_with fail
  refine (BA _ X2.out).out.mono ?_
  rintro e w3 ⟨rfl, hb3⟩
  have s3 := hb3.size
  have X3 := Lib.hid ((X2.out.below hb3).more s3)
  have Y3 := Lib.hid ((Y2.out.below hb3).more s3)
  have Q3 := Lib.hid (Q2.out.below hb3 (by omega))
  have B3 := Lib.hid (B2.out.trans (hb3.mono (by omega)))
  clear hb3 X2 Y2 Q2 B2
  go_wp2_with fail
  refine (BB _ Y3.out).out.mono ?_
  rintro e w4 ⟨rfl, hb4⟩
  have s4 := hb4.size
  have X4 := Lib.hid ((X3.out.below hb4).more s4)
  have Y4 := Lib.hid ((Y3.out.below hb4).more s4)
  have Q4 := Lib.hid (Q3.out.below hb4 (by omega))
  have B4 := Lib.hid (B3.out.trans (hb4.mono (by omega)))
  clear hb4 X3 Y3 Q3 B3
  go_wp2_with fail
  refine (AL _ X4.out).out.mono ?_
  rintro e w5 ⟨rfl, hb5⟩
  have s5 := hb5.size
  have X5 := Lib.hid ((X4.out.below hb5).more s5)
  have Y5 := Lib.hid ((Y4.out.below hb5).more s5)
  have Q5 := Lib.hid (Q4.out.below hb5 (by omega))
  have B5 := Lib.hid (B4.out.trans (hb5.mono (by omega)))
  clear hb5 X4 Y4 Q4 B4
  have q0 := Q5.out.cell 0
  have g0 := Q5.out.frozen 0
  have q1 := Q5.out.cell 1
  have g1 := Q5.out.frozen 1
  have q2 := Q5.out.cell 2
  have g2 := Q5.out.frozen 2
  have q3 := Q5.out.cell 3
  have g3 := Q5.out.frozen 3
  have q4 := Q5.out.cell 4
  have g4 := Q5.out.frozen 4
  have q5 := Q5.out.cell 5
  have g5 := Q5.out.frozen 5
  have q6 := Q5.out.cell 6
  have g6 := Q5.out.frozen 6
  have q7 := Q5.out.cell 7
  have g7 := Q5.out.frozen 7
  simp at q0 q1 q2 q3 q4 q5 q6 q7
  go_wp2_with fail
  have Y := ((((((((Q5.out).set_ 0 (.int .i64 (numAt a 2))).set_ 1 (.int .i64 (numAt a 6))).set_ 2 (.int .i64 (numAt a 10))).set_ 3 (.float .f64 (gainAt a))).set_ 4 (.int .i64 (numAt a 14))).set_ 5 (.int .i64 (numAt a 18))).set_ 6 (.int .i64 (numAt a 22))).set_ 7 (.int .i64 (numAt a 26))
  have BY := ((((((((B5.out).setCell (p := ⟨w.heap.size, 0, none⟩) (Nat.le_refl _) (.int .i64 (numAt a 2))).setCell (p := ⟨w.heap.size, 1, none⟩) (Nat.le_refl _) (.int .i64 (numAt a 6))).setCell (p := ⟨w.heap.size, 2, none⟩) (Nat.le_refl _) (.int .i64 (numAt a 10))).setCell (p := ⟨w.heap.size, 3, none⟩) (Nat.le_refl _) (.float .f64 (gainAt a))).setCell (p := ⟨w.heap.size, 4, none⟩) (Nat.le_refl _) (.int .i64 (numAt a 14))).setCell (p := ⟨w.heap.size, 5, none⟩) (Nat.le_refl _) (.int .i64 (numAt a 18))).setCell (p := ⟨w.heap.size, 6, none⟩) (Nat.le_refl _) (.int .i64 (numAt a 22))).setCell (p := ⟨w.heap.size, 7, none⟩) (Nat.le_refl _) (.int .i64 (numAt a 26))
  generalize ((((((((w5.setCell ⟨w.heap.size, 0, none⟩ (.int .i64 (numAt a 2))).setCell ⟨w.heap.size, 1, none⟩ (.int .i64 (numAt a 6))).setCell ⟨w.heap.size, 2, none⟩ (.int .i64 (numAt a 10))).setCell ⟨w.heap.size, 3, none⟩ (.float .f64 (gainAt a))).setCell ⟨w.heap.size, 4, none⟩ (.int .i64 (numAt a 14))).setCell ⟨w.heap.size, 5, none⟩ (.int .i64 (numAt a 18))).setCell ⟨w.heap.size, 6, none⟩ (.int .i64 (numAt a 22))).setCell ⟨w.heap.size, 7, none⟩ (.int .i64 (numAt a 26))) = wz at *
  have y0 := Y.cell 0
  have y1 := Y.cell 1
  have y2 := Y.cell 2
  have y3 := Y.cell 3
  have y4 := Y.cell 4
  have y5 := Y.cell 5
  have y6 := Y.cell 6
  have y7 := Y.cell 7
  simp at y0 y1 y2 y3 y4 y5 y6 y7
  (try simp only [Exit.inBlock, Exit.then])
  refine bodyPost_ret (by simp [results, Try.results38, go_sem, y0, y1, y2, y3, y4, y5, y6, y7]; try rfl) rfl ?_
  exact ⟨rfl, BY⟩
set_option maxHeartbeats 4000000 in
theorem ch_a_no (A : Option Addr) (n c : Nat) (a : List B8) (A2 : Option Addr) (n2 c2 : Nat) (b : List B8) (w : World) (hra : Rd w w.heap.size A n a) (hca : n ≤ c) (hrb : Rd w w.heap.size A2 n2 b) (hcb : n2 ≤ c2) (hba : blankB a = false) (hbb : blankB b = true) (ho : oneB a = false) :
    Calls Try.prog 38 #[.slice A n c, .slice A2 n2 c2] w fun e w' => e = .returned (.tuple #[zeroV, .int .i64 0, .int .i64 5]) ∧ Below w.heap.size w w' := by
  have hst := storeFloat
  have BA := fun (W : World) (h' : Rd W W.heap.size A n a) => Lib.hid (blank_any A n c a W h')
  rw [hba] at BA
  have BB := fun (W : World) (h' : Rd W W.heap.size A2 n2 b) => Lib.hid (blank_any A2 n2 c2 b W h')
  rw [hbb] at BB
  have AL := fun (W : World) (h' : Rd W W.heap.size A n a) => Lib.hid (alone_any A n c a 0 W h' hca)
  unfold aloneV aloneN aloneE at AL
  simp only [ho, if_true, Bool.false_eq_true, if_false] at AL
  unfold zeroV at AL
  have X1 := Lib.hid ((hra.alloc (Nat.le_refl _) (.cells #[.int .i64 0, .int .i64 0, .int .i64 0, .float .f64 0, .int .i64 0, .int .i64 0, .int .i64 0, .int .i64 0] 51)).more (B' := (w.alloc (.cells #[.int .i64 0, .int .i64 0, .int .i64 0, .float .f64 0, .int .i64 0, .int .i64 0, .int .i64 0, .int .i64 0] 51)).heap.size) (by simp))
  have Y1 := Lib.hid ((hrb.alloc (Nat.le_refl _) (.cells #[.int .i64 0, .int .i64 0, .int .i64 0, .float .f64 0, .int .i64 0, .int .i64 0, .int .i64 0, .int .i64 0] 51)).more (B' := (w.alloc (.cells #[.int .i64 0, .int .i64 0, .int .i64 0, .float .f64 0, .int .i64 0, .int .i64 0, .int .i64 0, .int .i64 0] 51)).heap.size) (by simp))
  have Q1 := Lib.hid (Blk.new w 51 #[.int .i64 0, .int .i64 0, .int .i64 0, .float .f64 0, .int .i64 0, .int .i64 0, .int .i64 0, .int .i64 0])
  have B1 := Lib.hid ((Below.refl w.heap.size w).alloc (Nat.le_refl _) (.cells #[.int .i64 0, .int .i64 0, .int .i64 0, .float .f64 0, .int .i64 0, .int .i64 0, .int .i64 0, .int .i64 0] 51))
  have s1 : (w.alloc (.cells #[.int .i64 0, .int .i64 0, .int .i64 0, .float .f64 0, .int .i64 0, .int .i64 0, .int .i64 0, .int .i64 0] 51)).heap.size = w.heap.size + 1 := by simp
  have hst := storeFloat
  clear hra hrb
  go_enter Try.func38, Try.ntmps38
  go_upto_region 1 with fail
  generalize w.alloc (.cells #[.int .i64 0, .int .i64 0, .int .i64 0, .float .f64 0, .int .i64 0, .int .i64 0, .int .i64 0, .int .i64 0] 51) = w1 at *
  go_wp2_with fail
  refine (BA _ X1.out).out.mono ?_
  rintro e w2 ⟨rfl, hb2⟩
  have s2 := hb2.size
  have X2 := Lib.hid ((X1.out.below hb2).more s2)
  have Y2 := Lib.hid ((Y1.out.below hb2).more s2)
  have Q2 := Lib.hid (Q1.out.below hb2 (by omega))
  have B2 := Lib.hid (B1.out.trans (hb2.mono (by omega)))
  clear hb2 X1 Y1 Q1 B1
  go_wp2_with fail
  refine (BA _ X2.out).out.mono ?_
  rintro e w3 ⟨rfl, hb3⟩
  have s3 := hb3.size
  have X3 := Lib.hid ((X2.out.below hb3).more s3)
  have Y3 := Lib.hid ((Y2.out.below hb3).more s3)
  have Q3 := Lib.hid (Q2.out.below hb3 (by omega))
  have B3 := Lib.hid (B2.out.trans (hb3.mono (by omega)))
  clear hb3 X2 Y2 Q2 B2
  go_wp2_with fail
  refine (BB _ Y3.out).out.mono ?_
  rintro e w4 ⟨rfl, hb4⟩
  have s4 := hb4.size
  have X4 := Lib.hid ((X3.out.below hb4).more s4)
  have Y4 := Lib.hid ((Y3.out.below hb4).more s4)
  have Q4 := Lib.hid (Q3.out.below hb4 (by omega))
  have B4 := Lib.hid (B3.out.trans (hb4.mono (by omega)))
  clear hb4 X3 Y3 Q3 B3
  go_wp2_with fail
  refine (AL _ X4.out).out.mono ?_
  rintro e w5 ⟨rfl, hb5⟩
  have s5 := hb5.size
  have X5 := Lib.hid ((X4.out.below hb5).more s5)
  have Y5 := Lib.hid ((Y4.out.below hb5).more s5)
  have Q5 := Lib.hid (Q4.out.below hb5 (by omega))
  have B5 := Lib.hid (B4.out.trans (hb5.mono (by omega)))
  clear hb5 X4 Y4 Q4 B4
  have q0 := Q5.out.cell 0
  have g0 := Q5.out.frozen 0
  have q1 := Q5.out.cell 1
  have g1 := Q5.out.frozen 1
  have q2 := Q5.out.cell 2
  have g2 := Q5.out.frozen 2
  have q3 := Q5.out.cell 3
  have g3 := Q5.out.frozen 3
  have q4 := Q5.out.cell 4
  have g4 := Q5.out.frozen 4
  have q5 := Q5.out.cell 5
  have g5 := Q5.out.frozen 5
  have q6 := Q5.out.cell 6
  have g6 := Q5.out.frozen 6
  have q7 := Q5.out.cell 7
  have g7 := Q5.out.frozen 7
  simp at q0 q1 q2 q3 q4 q5 q6 q7
  go_wp2_with fail
  have Y := ((((((((Q5.out).set_ 0 (.int .i64 0)).set_ 1 (.int .i64 0)).set_ 2 (.int .i64 0)).set_ 3 (.float .f64 0)).set_ 4 (.int .i64 0)).set_ 5 (.int .i64 0)).set_ 6 (.int .i64 0)).set_ 7 (.int .i64 0)
  have BY := ((((((((B5.out).setCell (p := ⟨w.heap.size, 0, none⟩) (Nat.le_refl _) (.int .i64 0)).setCell (p := ⟨w.heap.size, 1, none⟩) (Nat.le_refl _) (.int .i64 0)).setCell (p := ⟨w.heap.size, 2, none⟩) (Nat.le_refl _) (.int .i64 0)).setCell (p := ⟨w.heap.size, 3, none⟩) (Nat.le_refl _) (.float .f64 0)).setCell (p := ⟨w.heap.size, 4, none⟩) (Nat.le_refl _) (.int .i64 0)).setCell (p := ⟨w.heap.size, 5, none⟩) (Nat.le_refl _) (.int .i64 0)).setCell (p := ⟨w.heap.size, 6, none⟩) (Nat.le_refl _) (.int .i64 0)).setCell (p := ⟨w.heap.size, 7, none⟩) (Nat.le_refl _) (.int .i64 0)
  generalize ((((((((w5.setCell ⟨w.heap.size, 0, none⟩ (.int .i64 0)).setCell ⟨w.heap.size, 1, none⟩ (.int .i64 0)).setCell ⟨w.heap.size, 2, none⟩ (.int .i64 0)).setCell ⟨w.heap.size, 3, none⟩ (.float .f64 0)).setCell ⟨w.heap.size, 4, none⟩ (.int .i64 0)).setCell ⟨w.heap.size, 5, none⟩ (.int .i64 0)).setCell ⟨w.heap.size, 6, none⟩ (.int .i64 0)).setCell ⟨w.heap.size, 7, none⟩ (.int .i64 0)) = wz at *
  have y0 := Y.cell 0
  have y1 := Y.cell 1
  have y2 := Y.cell 2
  have y3 := Y.cell 3
  have y4 := Y.cell 4
  have y5 := Y.cell 5
  have y6 := Y.cell 6
  have y7 := Y.cell 7
  simp at y0 y1 y2 y3 y4 y5 y6 y7
  (try simp only [Exit.inBlock, Exit.then])
  refine bodyPost_ret (by simp [results, Try.results38, go_sem, y0, y1, y2, y3, y4, y5, y6, y7]; try rfl) rfl ?_
  exact ⟨rfl, BY⟩
set_option maxHeartbeats 4000000 in
theorem ch_bad1x (A : Option Addr) (n c : Nat) (a : List B8) (A2 : Option Addr) (n2 c2 : Nat) (b : List B8) (w : World) (hra : Rd w w.heap.size A n a) (hca : n ≤ c) (hrb : Rd w w.heap.size A2 n2 b) (hcb : n2 ≤ c2) (hba : blankB a = false) (hbb : blankB b = false) (hea : ¬ decE a = 0) (heb : decE b = 0) :
    Calls Try.prog 38 #[.slice A n c, .slice A2 n2 c2] w fun e w' => e = .returned (.tuple #[zeroV, .int .i64 0, .int .i64 5]) ∧ Below w.heap.size w w' := by
  have hst := storeFloat
  have BA := fun (W : World) (h' : Rd W W.heap.size A n a) => Lib.hid (blank_any A n c a W h')
  rw [hba] at BA
  have BB := fun (W : World) (h' : Rd W W.heap.size A2 n2 b) => Lib.hid (blank_any A2 n2 c2 b W h')
  rw [hbb] at BB
  have Da := fun (W : World) (h' : Rd W W.heap.size A n a) => Lib.hid (dec_any A n c a W h' hca)
  have Db := fun (W : World) (h' : Rd W W.heap.size A2 n2 b) => Lib.hid (dec_any A2 n2 c2 b W h' hcb)
  rw [decV_bad hea] at Da
  unfold zeroV at Da
  generalize hEa : decE a = Ea at *
  have ma : (Ea != 0) = true := by rw [bne_iff_ne]; exact hea
  have ma' : (Ea == 0) = false := by rw [beq_eq_false_iff_ne]; exact hea
  clear hEa
  rw [decV_ok heb, heb] at Db
  unfold crownV at Db
  have X1 := Lib.hid ((hra.alloc (Nat.le_refl _) (.cells #[.int .i64 0, .int .i64 0, .int .i64 0, .float .f64 0, .int .i64 0, .int .i64 0, .int .i64 0, .int .i64 0] 51)).more (B' := (w.alloc (.cells #[.int .i64 0, .int .i64 0, .int .i64 0, .float .f64 0, .int .i64 0, .int .i64 0, .int .i64 0, .int .i64 0] 51)).heap.size) (by simp))
  have Y1 := Lib.hid ((hrb.alloc (Nat.le_refl _) (.cells #[.int .i64 0, .int .i64 0, .int .i64 0, .float .f64 0, .int .i64 0, .int .i64 0, .int .i64 0, .int .i64 0] 51)).more (B' := (w.alloc (.cells #[.int .i64 0, .int .i64 0, .int .i64 0, .float .f64 0, .int .i64 0, .int .i64 0, .int .i64 0, .int .i64 0] 51)).heap.size) (by simp))
  have Q1 := Lib.hid (Blk.new w 51 #[.int .i64 0, .int .i64 0, .int .i64 0, .float .f64 0, .int .i64 0, .int .i64 0, .int .i64 0, .int .i64 0])
  have B1 := Lib.hid ((Below.refl w.heap.size w).alloc (Nat.le_refl _) (.cells #[.int .i64 0, .int .i64 0, .int .i64 0, .float .f64 0, .int .i64 0, .int .i64 0, .int .i64 0, .int .i64 0] 51))
  have s1 : (w.alloc (.cells #[.int .i64 0, .int .i64 0, .int .i64 0, .float .f64 0, .int .i64 0, .int .i64 0, .int .i64 0, .int .i64 0] 51)).heap.size = w.heap.size + 1 := by simp
  have hst := storeFloat
  clear hra hrb
  go_enter Try.func38, Try.ntmps38
  go_upto_region 1 with fail
  generalize w.alloc (.cells #[.int .i64 0, .int .i64 0, .int .i64 0, .float .f64 0, .int .i64 0, .int .i64 0, .int .i64 0, .int .i64 0] 51) = w1 at *
  go_wp2_with fail
  refine (BA _ X1.out).out.mono ?_
  rintro e w2 ⟨rfl, hb2⟩
  have s2 := hb2.size
  have X2 := Lib.hid ((X1.out.below hb2).more s2)
  have Y2 := Lib.hid ((Y1.out.below hb2).more s2)
  have Q2 := Lib.hid (Q1.out.below hb2 (by omega))
  have B2 := Lib.hid (B1.out.trans (hb2.mono (by omega)))
  clear hb2 X1 Y1 Q1 B1
  go_wp2_with fail
  refine (BA _ X2.out).out.mono ?_
  rintro e w3 ⟨rfl, hb3⟩
  have s3 := hb3.size
  have X3 := Lib.hid ((X2.out.below hb3).more s3)
  have Y3 := Lib.hid ((Y2.out.below hb3).more s3)
  have Q3 := Lib.hid (Q2.out.below hb3 (by omega))
  have B3 := Lib.hid (B2.out.trans (hb3.mono (by omega)))
  clear hb3 X2 Y2 Q2 B2
  go_wp2_with fail
  refine (BB _ Y3.out).out.mono ?_
  rintro e w4 ⟨rfl, hb4⟩
  have s4 := hb4.size
  have X4 := Lib.hid ((X3.out.below hb4).more s4)
  have Y4 := Lib.hid ((Y3.out.below hb4).more s4)
  have Q4 := Lib.hid (Q3.out.below hb4 (by omega))
  have B4 := Lib.hid (B3.out.trans (hb4.mono (by omega)))
  clear hb4 X3 Y3 Q3 B3
  go_wp2_with fail
  refine (Da _ X4.out).out.mono ?_
  rintro e v5 ⟨rfl, hb5⟩
  have t5 := hb5.size
  have X5 := Lib.hid ((((X4.out.below hb5).more t5).alloc (Nat.le_refl _) (.cells #[.int .i64 0, .int .i64 0, .int .i64 0, .float .f64 0, .int .i64 0, .int .i64 0, .int .i64 0, .int .i64 0] 51)).more (B' := (v5.alloc (.cells #[.int .i64 0, .int .i64 0, .int .i64 0, .float .f64 0, .int .i64 0, .int .i64 0, .int .i64 0, .int .i64 0] 51)).heap.size) (by simp))
  have Y5 := Lib.hid ((((Y4.out.below hb5).more t5).alloc (Nat.le_refl _) (.cells #[.int .i64 0, .int .i64 0, .int .i64 0, .float .f64 0, .int .i64 0, .int .i64 0, .int .i64 0, .int .i64 0] 51)).more (B' := (v5.alloc (.cells #[.int .i64 0, .int .i64 0, .int .i64 0, .float .f64 0, .int .i64 0, .int .i64 0, .int .i64 0, .int .i64 0] 51)).heap.size) (by simp))
  have Q5 := Lib.hid ((Q4.out.below hb5 (by omega)).alloc (.cells #[.int .i64 0, .int .i64 0, .int .i64 0, .float .f64 0, .int .i64 0, .int .i64 0, .int .i64 0, .int .i64 0] 51))
  have B5 := Lib.hid ((B4.out.trans (hb5.mono (by omega))).alloc (by omega) (.cells #[.int .i64 0, .int .i64 0, .int .i64 0, .float .f64 0, .int .i64 0, .int .i64 0, .int .i64 0, .int .i64 0] 51))
  have Na := Lib.hid (Blk.new v5 51 #[.int .i64 0, .int .i64 0, .int .i64 0, .float .f64 0, .int .i64 0, .int .i64 0, .int .i64 0, .int .i64 0])
  have s5 : (v5.alloc (.cells #[.int .i64 0, .int .i64 0, .int .i64 0, .float .f64 0, .int .i64 0, .int .i64 0, .int .i64 0, .int .i64 0] 51)).heap.size = v5.heap.size + 1 := by simp
  go_upto_region 8 with fail
  generalize hW5 : v5.alloc (.cells #[.int .i64 0, .int .i64 0, .int .i64 0, .float .f64 0, .int .i64 0, .int .i64 0, .int .i64 0, .int .i64 0] 51) = w5 at *
  clear hW5 hb5 X4 Y4 Q4 B4
  go_wp2_with fail
  refine (Db _ Y5.out).out.mono ?_
  rintro e v6 ⟨rfl, hb6⟩
  have t6 := hb6.size
  have X6 := Lib.hid ((((X5.out.below hb6).more t6).alloc (Nat.le_refl _) (.cells #[.int .i64 (numAt b 2), .int .i64 (numAt b 6), .int .i64 (numAt b 10), .float .f64 (gainAt b), .int .i64 (numAt b 14), .int .i64 (numAt b 18), .int .i64 (numAt b 22), .int .i64 (numAt b 26)] 51)).more (B' := (v6.alloc (.cells #[.int .i64 (numAt b 2), .int .i64 (numAt b 6), .int .i64 (numAt b 10), .float .f64 (gainAt b), .int .i64 (numAt b 14), .int .i64 (numAt b 18), .int .i64 (numAt b 22), .int .i64 (numAt b 26)] 51)).heap.size) (by simp))
  have Y6 := Lib.hid ((((Y5.out.below hb6).more t6).alloc (Nat.le_refl _) (.cells #[.int .i64 (numAt b 2), .int .i64 (numAt b 6), .int .i64 (numAt b 10), .float .f64 (gainAt b), .int .i64 (numAt b 14), .int .i64 (numAt b 18), .int .i64 (numAt b 22), .int .i64 (numAt b 26)] 51)).more (B' := (v6.alloc (.cells #[.int .i64 (numAt b 2), .int .i64 (numAt b 6), .int .i64 (numAt b 10), .float .f64 (gainAt b), .int .i64 (numAt b 14), .int .i64 (numAt b 18), .int .i64 (numAt b 22), .int .i64 (numAt b 26)] 51)).heap.size) (by simp))
  have Q6 := Lib.hid ((Q5.out.below hb6 (by omega)).alloc (.cells #[.int .i64 (numAt b 2), .int .i64 (numAt b 6), .int .i64 (numAt b 10), .float .f64 (gainAt b), .int .i64 (numAt b 14), .int .i64 (numAt b 18), .int .i64 (numAt b 22), .int .i64 (numAt b 26)] 51))
  have B6 := Lib.hid ((B5.out.trans (hb6.mono (by omega))).alloc (by omega) (.cells #[.int .i64 (numAt b 2), .int .i64 (numAt b 6), .int .i64 (numAt b 10), .float .f64 (gainAt b), .int .i64 (numAt b 14), .int .i64 (numAt b 18), .int .i64 (numAt b 22), .int .i64 (numAt b 26)] 51))
  have Nb := Lib.hid (Blk.new v6 51 #[.int .i64 (numAt b 2), .int .i64 (numAt b 6), .int .i64 (numAt b 10), .float .f64 (gainAt b), .int .i64 (numAt b 14), .int .i64 (numAt b 18), .int .i64 (numAt b 22), .int .i64 (numAt b 26)])
  have s6 : (v6.alloc (.cells #[.int .i64 (numAt b 2), .int .i64 (numAt b 6), .int .i64 (numAt b 10), .float .f64 (gainAt b), .int .i64 (numAt b 14), .int .i64 (numAt b 18), .int .i64 (numAt b 22), .int .i64 (numAt b 26)] 51)).heap.size = v6.heap.size + 1 := by simp
  have Na := Lib.hid ((Na.out.below hb6 (by omega)).alloc (.cells #[.int .i64 (numAt b 2), .int .i64 (numAt b 6), .int .i64 (numAt b 10), .float .f64 (gainAt b), .int .i64 (numAt b 14), .int .i64 (numAt b 18), .int .i64 (numAt b 22), .int .i64 (numAt b 26)] 51))
  go_upto_region 9 with fail
  generalize hW6 : v6.alloc (.cells #[.int .i64 (numAt b 2), .int .i64 (numAt b 6), .int .i64 (numAt b 10), .float .f64 (gainAt b), .int .i64 (numAt b 14), .int .i64 (numAt b 18), .int .i64 (numAt b 22), .int .i64 (numAt b 26)] 51) = w6 at *
  clear hW6 hb6 X5 Y5 Q5 B5
  have q0 := Q6.out.cell 0
  have g0 := Q6.out.frozen 0
  have q1 := Q6.out.cell 1
  have g1 := Q6.out.frozen 1
  have q2 := Q6.out.cell 2
  have g2 := Q6.out.frozen 2
  have q3 := Q6.out.cell 3
  have g3 := Q6.out.frozen 3
  have q4 := Q6.out.cell 4
  have g4 := Q6.out.frozen 4
  have q5 := Q6.out.cell 5
  have g5 := Q6.out.frozen 5
  have q6 := Q6.out.cell 6
  have g6 := Q6.out.frozen 6
  have q7 := Q6.out.cell 7
  have g7 := Q6.out.frozen 7
  simp at q0 q1 q2 q3 q4 q5 q6 q7
  go_wp2_with fail
  have Y := ((((((((Q6.out).set_ 0 (.int .i64 0)).set_ 1 (.int .i64 0)).set_ 2 (.int .i64 0)).set_ 3 (.float .f64 0)).set_ 4 (.int .i64 0)).set_ 5 (.int .i64 0)).set_ 6 (.int .i64 0)).set_ 7 (.int .i64 0)
  have BY := ((((((((B6.out).setCell (p := ⟨w.heap.size, 0, none⟩) (Nat.le_refl _) (.int .i64 0)).setCell (p := ⟨w.heap.size, 1, none⟩) (Nat.le_refl _) (.int .i64 0)).setCell (p := ⟨w.heap.size, 2, none⟩) (Nat.le_refl _) (.int .i64 0)).setCell (p := ⟨w.heap.size, 3, none⟩) (Nat.le_refl _) (.float .f64 0)).setCell (p := ⟨w.heap.size, 4, none⟩) (Nat.le_refl _) (.int .i64 0)).setCell (p := ⟨w.heap.size, 5, none⟩) (Nat.le_refl _) (.int .i64 0)).setCell (p := ⟨w.heap.size, 6, none⟩) (Nat.le_refl _) (.int .i64 0)).setCell (p := ⟨w.heap.size, 7, none⟩) (Nat.le_refl _) (.int .i64 0)
  generalize ((((((((w6.setCell ⟨w.heap.size, 0, none⟩ (.int .i64 0)).setCell ⟨w.heap.size, 1, none⟩ (.int .i64 0)).setCell ⟨w.heap.size, 2, none⟩ (.int .i64 0)).setCell ⟨w.heap.size, 3, none⟩ (.float .f64 0)).setCell ⟨w.heap.size, 4, none⟩ (.int .i64 0)).setCell ⟨w.heap.size, 5, none⟩ (.int .i64 0)).setCell ⟨w.heap.size, 6, none⟩ (.int .i64 0)).setCell ⟨w.heap.size, 7, none⟩ (.int .i64 0)) = wz at *
  have y0 := Y.cell 0
  have y1 := Y.cell 1
  have y2 := Y.cell 2
  have y3 := Y.cell 3
  have y4 := Y.cell 4
  have y5 := Y.cell 5
  have y6 := Y.cell 6
  have y7 := Y.cell 7
  simp at y0 y1 y2 y3 y4 y5 y6 y7
  (try simp only [Exit.inBlock, Exit.then])
  refine bodyPost_ret (by simp [results, Try.results38, go_sem, y0, y1, y2, y3, y4, y5, y6, y7]; try rfl) rfl ?_
  exact ⟨rfl, BY⟩
set_option maxHeartbeats 4000000 in
theorem ch_bad1y (A : Option Addr) (n c : Nat) (a : List B8) (A2 : Option Addr) (n2 c2 : Nat) (b : List B8) (w : World) (hra : Rd w w.heap.size A n a) (hca : n ≤ c) (hrb : Rd w w.heap.size A2 n2 b) (hcb : n2 ≤ c2) (hba : blankB a = false) (hbb : blankB b = false) (hea : ¬ decE a = 0) (heb : ¬ decE b = 0) :
    Calls Try.prog 38 #[.slice A n c, .slice A2 n2 c2] w fun e w' => e = .returned (.tuple #[zeroV, .int .i64 0, .int .i64 5]) ∧ Below w.heap.size w w' := by
  have hst := storeFloat
  have BA := fun (W : World) (h' : Rd W W.heap.size A n a) => Lib.hid (blank_any A n c a W h')
  rw [hba] at BA
  have BB := fun (W : World) (h' : Rd W W.heap.size A2 n2 b) => Lib.hid (blank_any A2 n2 c2 b W h')
  rw [hbb] at BB
  have Da := fun (W : World) (h' : Rd W W.heap.size A n a) => Lib.hid (dec_any A n c a W h' hca)
  have Db := fun (W : World) (h' : Rd W W.heap.size A2 n2 b) => Lib.hid (dec_any A2 n2 c2 b W h' hcb)
  rw [decV_bad hea] at Da
  unfold zeroV at Da
  generalize hEa : decE a = Ea at *
  have ma : (Ea != 0) = true := by rw [bne_iff_ne]; exact hea
  have ma' : (Ea == 0) = false := by rw [beq_eq_false_iff_ne]; exact hea
  clear hEa
  rw [decV_bad heb] at Db
  unfold zeroV at Db
  generalize hEb : decE b = Eb at *
  have mb : (Eb != 0) = true := by rw [bne_iff_ne]; exact heb
  have mb' : (Eb == 0) = false := by rw [beq_eq_false_iff_ne]; exact heb
  clear hEb
  have X1 := Lib.hid ((hra.alloc (Nat.le_refl _) (.cells #[.int .i64 0, .int .i64 0, .int .i64 0, .float .f64 0, .int .i64 0, .int .i64 0, .int .i64 0, .int .i64 0] 51)).more (B' := (w.alloc (.cells #[.int .i64 0, .int .i64 0, .int .i64 0, .float .f64 0, .int .i64 0, .int .i64 0, .int .i64 0, .int .i64 0] 51)).heap.size) (by simp))
  have Y1 := Lib.hid ((hrb.alloc (Nat.le_refl _) (.cells #[.int .i64 0, .int .i64 0, .int .i64 0, .float .f64 0, .int .i64 0, .int .i64 0, .int .i64 0, .int .i64 0] 51)).more (B' := (w.alloc (.cells #[.int .i64 0, .int .i64 0, .int .i64 0, .float .f64 0, .int .i64 0, .int .i64 0, .int .i64 0, .int .i64 0] 51)).heap.size) (by simp))
  have Q1 := Lib.hid (Blk.new w 51 #[.int .i64 0, .int .i64 0, .int .i64 0, .float .f64 0, .int .i64 0, .int .i64 0, .int .i64 0, .int .i64 0])
  have B1 := Lib.hid ((Below.refl w.heap.size w).alloc (Nat.le_refl _) (.cells #[.int .i64 0, .int .i64 0, .int .i64 0, .float .f64 0, .int .i64 0, .int .i64 0, .int .i64 0, .int .i64 0] 51))
  have s1 : (w.alloc (.cells #[.int .i64 0, .int .i64 0, .int .i64 0, .float .f64 0, .int .i64 0, .int .i64 0, .int .i64 0, .int .i64 0] 51)).heap.size = w.heap.size + 1 := by simp
  have hst := storeFloat
  clear hra hrb
  go_enter Try.func38, Try.ntmps38
  go_upto_region 1 with fail
  generalize w.alloc (.cells #[.int .i64 0, .int .i64 0, .int .i64 0, .float .f64 0, .int .i64 0, .int .i64 0, .int .i64 0, .int .i64 0] 51) = w1 at *
  go_wp2_with fail
  refine (BA _ X1.out).out.mono ?_
  rintro e w2 ⟨rfl, hb2⟩
  have s2 := hb2.size
  have X2 := Lib.hid ((X1.out.below hb2).more s2)
  have Y2 := Lib.hid ((Y1.out.below hb2).more s2)
  have Q2 := Lib.hid (Q1.out.below hb2 (by omega))
  have B2 := Lib.hid (B1.out.trans (hb2.mono (by omega)))
  clear hb2 X1 Y1 Q1 B1
  go_wp2_with fail
  refine (BA _ X2.out).out.mono ?_
  rintro e w3 ⟨rfl, hb3⟩
  have s3 := hb3.size
  have X3 := Lib.hid ((X2.out.below hb3).more s3)
  have Y3 := Lib.hid ((Y2.out.below hb3).more s3)
  have Q3 := Lib.hid (Q2.out.below hb3 (by omega))
  have B3 := Lib.hid (B2.out.trans (hb3.mono (by omega)))
  clear hb3 X2 Y2 Q2 B2
  go_wp2_with fail
  refine (BB _ Y3.out).out.mono ?_
  rintro e w4 ⟨rfl, hb4⟩
  have s4 := hb4.size
  have X4 := Lib.hid ((X3.out.below hb4).more s4)
  have Y4 := Lib.hid ((Y3.out.below hb4).more s4)
  have Q4 := Lib.hid (Q3.out.below hb4 (by omega))
  have B4 := Lib.hid (B3.out.trans (hb4.mono (by omega)))
  clear hb4 X3 Y3 Q3 B3
  go_wp2_with fail
  refine (Da _ X4.out).out.mono ?_
  rintro e v5 ⟨rfl, hb5⟩
  have t5 := hb5.size
  have X5 := Lib.hid ((((X4.out.below hb5).more t5).alloc (Nat.le_refl _) (.cells #[.int .i64 0, .int .i64 0, .int .i64 0, .float .f64 0, .int .i64 0, .int .i64 0, .int .i64 0, .int .i64 0] 51)).more (B' := (v5.alloc (.cells #[.int .i64 0, .int .i64 0, .int .i64 0, .float .f64 0, .int .i64 0, .int .i64 0, .int .i64 0, .int .i64 0] 51)).heap.size) (by simp))
  have Y5 := Lib.hid ((((Y4.out.below hb5).more t5).alloc (Nat.le_refl _) (.cells #[.int .i64 0, .int .i64 0, .int .i64 0, .float .f64 0, .int .i64 0, .int .i64 0, .int .i64 0, .int .i64 0] 51)).more (B' := (v5.alloc (.cells #[.int .i64 0, .int .i64 0, .int .i64 0, .float .f64 0, .int .i64 0, .int .i64 0, .int .i64 0, .int .i64 0] 51)).heap.size) (by simp))
  have Q5 := Lib.hid ((Q4.out.below hb5 (by omega)).alloc (.cells #[.int .i64 0, .int .i64 0, .int .i64 0, .float .f64 0, .int .i64 0, .int .i64 0, .int .i64 0, .int .i64 0] 51))
  have B5 := Lib.hid ((B4.out.trans (hb5.mono (by omega))).alloc (by omega) (.cells #[.int .i64 0, .int .i64 0, .int .i64 0, .float .f64 0, .int .i64 0, .int .i64 0, .int .i64 0, .int .i64 0] 51))
  have Na := Lib.hid (Blk.new v5 51 #[.int .i64 0, .int .i64 0, .int .i64 0, .float .f64 0, .int .i64 0, .int .i64 0, .int .i64 0, .int .i64 0])
  have s5 : (v5.alloc (.cells #[.int .i64 0, .int .i64 0, .int .i64 0, .float .f64 0, .int .i64 0, .int .i64 0, .int .i64 0, .int .i64 0] 51)).heap.size = v5.heap.size + 1 := by simp
  go_upto_region 8 with fail
  generalize hW5 : v5.alloc (.cells #[.int .i64 0, .int .i64 0, .int .i64 0, .float .f64 0, .int .i64 0, .int .i64 0, .int .i64 0, .int .i64 0] 51) = w5 at *
  clear hW5 hb5 X4 Y4 Q4 B4
  go_wp2_with fail
  refine (Db _ Y5.out).out.mono ?_
  rintro e v6 ⟨rfl, hb6⟩
  have t6 := hb6.size
  have X6 := Lib.hid ((((X5.out.below hb6).more t6).alloc (Nat.le_refl _) (.cells #[.int .i64 0, .int .i64 0, .int .i64 0, .float .f64 0, .int .i64 0, .int .i64 0, .int .i64 0, .int .i64 0] 51)).more (B' := (v6.alloc (.cells #[.int .i64 0, .int .i64 0, .int .i64 0, .float .f64 0, .int .i64 0, .int .i64 0, .int .i64 0, .int .i64 0] 51)).heap.size) (by simp))
  have Y6 := Lib.hid ((((Y5.out.below hb6).more t6).alloc (Nat.le_refl _) (.cells #[.int .i64 0, .int .i64 0, .int .i64 0, .float .f64 0, .int .i64 0, .int .i64 0, .int .i64 0, .int .i64 0] 51)).more (B' := (v6.alloc (.cells #[.int .i64 0, .int .i64 0, .int .i64 0, .float .f64 0, .int .i64 0, .int .i64 0, .int .i64 0, .int .i64 0] 51)).heap.size) (by simp))
  have Q6 := Lib.hid ((Q5.out.below hb6 (by omega)).alloc (.cells #[.int .i64 0, .int .i64 0, .int .i64 0, .float .f64 0, .int .i64 0, .int .i64 0, .int .i64 0, .int .i64 0] 51))
  have B6 := Lib.hid ((B5.out.trans (hb6.mono (by omega))).alloc (by omega) (.cells #[.int .i64 0, .int .i64 0, .int .i64 0, .float .f64 0, .int .i64 0, .int .i64 0, .int .i64 0, .int .i64 0] 51))
  have Nb := Lib.hid (Blk.new v6 51 #[.int .i64 0, .int .i64 0, .int .i64 0, .float .f64 0, .int .i64 0, .int .i64 0, .int .i64 0, .int .i64 0])
  have s6 : (v6.alloc (.cells #[.int .i64 0, .int .i64 0, .int .i64 0, .float .f64 0, .int .i64 0, .int .i64 0, .int .i64 0, .int .i64 0] 51)).heap.size = v6.heap.size + 1 := by simp
  have Na := Lib.hid ((Na.out.below hb6 (by omega)).alloc (.cells #[.int .i64 0, .int .i64 0, .int .i64 0, .float .f64 0, .int .i64 0, .int .i64 0, .int .i64 0, .int .i64 0] 51))
  go_upto_region 9 with fail
  generalize hW6 : v6.alloc (.cells #[.int .i64 0, .int .i64 0, .int .i64 0, .float .f64 0, .int .i64 0, .int .i64 0, .int .i64 0, .int .i64 0] 51) = w6 at *
  clear hW6 hb6 X5 Y5 Q5 B5
  have q0 := Q6.out.cell 0
  have g0 := Q6.out.frozen 0
  have q1 := Q6.out.cell 1
  have g1 := Q6.out.frozen 1
  have q2 := Q6.out.cell 2
  have g2 := Q6.out.frozen 2
  have q3 := Q6.out.cell 3
  have g3 := Q6.out.frozen 3
  have q4 := Q6.out.cell 4
  have g4 := Q6.out.frozen 4
  have q5 := Q6.out.cell 5
  have g5 := Q6.out.frozen 5
  have q6 := Q6.out.cell 6
  have g6 := Q6.out.frozen 6
  have q7 := Q6.out.cell 7
  have g7 := Q6.out.frozen 7
  simp at q0 q1 q2 q3 q4 q5 q6 q7
  go_wp2_with fail
  have Y := ((((((((Q6.out).set_ 0 (.int .i64 0)).set_ 1 (.int .i64 0)).set_ 2 (.int .i64 0)).set_ 3 (.float .f64 0)).set_ 4 (.int .i64 0)).set_ 5 (.int .i64 0)).set_ 6 (.int .i64 0)).set_ 7 (.int .i64 0)
  have BY := ((((((((B6.out).setCell (p := ⟨w.heap.size, 0, none⟩) (Nat.le_refl _) (.int .i64 0)).setCell (p := ⟨w.heap.size, 1, none⟩) (Nat.le_refl _) (.int .i64 0)).setCell (p := ⟨w.heap.size, 2, none⟩) (Nat.le_refl _) (.int .i64 0)).setCell (p := ⟨w.heap.size, 3, none⟩) (Nat.le_refl _) (.float .f64 0)).setCell (p := ⟨w.heap.size, 4, none⟩) (Nat.le_refl _) (.int .i64 0)).setCell (p := ⟨w.heap.size, 5, none⟩) (Nat.le_refl _) (.int .i64 0)).setCell (p := ⟨w.heap.size, 6, none⟩) (Nat.le_refl _) (.int .i64 0)).setCell (p := ⟨w.heap.size, 7, none⟩) (Nat.le_refl _) (.int .i64 0)
  generalize ((((((((w6.setCell ⟨w.heap.size, 0, none⟩ (.int .i64 0)).setCell ⟨w.heap.size, 1, none⟩ (.int .i64 0)).setCell ⟨w.heap.size, 2, none⟩ (.int .i64 0)).setCell ⟨w.heap.size, 3, none⟩ (.float .f64 0)).setCell ⟨w.heap.size, 4, none⟩ (.int .i64 0)).setCell ⟨w.heap.size, 5, none⟩ (.int .i64 0)).setCell ⟨w.heap.size, 6, none⟩ (.int .i64 0)).setCell ⟨w.heap.size, 7, none⟩ (.int .i64 0)) = wz at *
  have y0 := Y.cell 0
  have y1 := Y.cell 1
  have y2 := Y.cell 2
  have y3 := Y.cell 3
  have y4 := Y.cell 4
  have y5 := Y.cell 5
  have y6 := Y.cell 6
  have y7 := Y.cell 7
  simp at y0 y1 y2 y3 y4 y5 y6 y7
  (try simp only [Exit.inBlock, Exit.then])
  refine bodyPost_ret (by simp [results, Try.results38, go_sem, y0, y1, y2, y3, y4, y5, y6, y7]; try rfl) rfl ?_
  exact ⟨rfl, BY⟩
set_option maxHeartbeats 4000000 in
theorem ch_bad2 (A : Option Addr) (n c : Nat) (a : List B8) (A2 : Option Addr) (n2 c2 : Nat) (b : List B8) (w : World) (hra : Rd w w.heap.size A n a) (hca : n ≤ c) (hrb : Rd w w.heap.size A2 n2 b) (hcb : n2 ≤ c2) (hba : blankB a = false) (hbb : blankB b = false) (hea : decE a = 0) (heb : ¬ decE b = 0) :
    Calls Try.prog 38 #[.slice A n c, .slice A2 n2 c2] w fun e w' => e = .returned (.tuple #[zeroV, .int .i64 0, .int .i64 5]) ∧ Below w.heap.size w w' := by
  have hst := storeFloat
  have BA := fun (W : World) (h' : Rd W W.heap.size A n a) => Lib.hid (blank_any A n c a W h')
  rw [hba] at BA
  have BB := fun (W : World) (h' : Rd W W.heap.size A2 n2 b) => Lib.hid (blank_any A2 n2 c2 b W h')
  rw [hbb] at BB
  have Da := fun (W : World) (h' : Rd W W.heap.size A n a) => Lib.hid (dec_any A n c a W h' hca)
  have Db := fun (W : World) (h' : Rd W W.heap.size A2 n2 b) => Lib.hid (dec_any A2 n2 c2 b W h' hcb)
  rw [decV_ok hea, hea] at Da
  unfold crownV at Da
  rw [decV_bad heb] at Db
  unfold zeroV at Db
  generalize hEb : decE b = Eb at *
  have mb : (Eb != 0) = true := by rw [bne_iff_ne]; exact heb
  have mb' : (Eb == 0) = false := by rw [beq_eq_false_iff_ne]; exact heb
  clear hEb
  have X1 := Lib.hid ((hra.alloc (Nat.le_refl _) (.cells #[.int .i64 0, .int .i64 0, .int .i64 0, .float .f64 0, .int .i64 0, .int .i64 0, .int .i64 0, .int .i64 0] 51)).more (B' := (w.alloc (.cells #[.int .i64 0, .int .i64 0, .int .i64 0, .float .f64 0, .int .i64 0, .int .i64 0, .int .i64 0, .int .i64 0] 51)).heap.size) (by simp))
  have Y1 := Lib.hid ((hrb.alloc (Nat.le_refl _) (.cells #[.int .i64 0, .int .i64 0, .int .i64 0, .float .f64 0, .int .i64 0, .int .i64 0, .int .i64 0, .int .i64 0] 51)).more (B' := (w.alloc (.cells #[.int .i64 0, .int .i64 0, .int .i64 0, .float .f64 0, .int .i64 0, .int .i64 0, .int .i64 0, .int .i64 0] 51)).heap.size) (by simp))
  have Q1 := Lib.hid (Blk.new w 51 #[.int .i64 0, .int .i64 0, .int .i64 0, .float .f64 0, .int .i64 0, .int .i64 0, .int .i64 0, .int .i64 0])
  have B1 := Lib.hid ((Below.refl w.heap.size w).alloc (Nat.le_refl _) (.cells #[.int .i64 0, .int .i64 0, .int .i64 0, .float .f64 0, .int .i64 0, .int .i64 0, .int .i64 0, .int .i64 0] 51))
  have s1 : (w.alloc (.cells #[.int .i64 0, .int .i64 0, .int .i64 0, .float .f64 0, .int .i64 0, .int .i64 0, .int .i64 0, .int .i64 0] 51)).heap.size = w.heap.size + 1 := by simp
  have hst := storeFloat
  clear hra hrb
  go_enter Try.func38, Try.ntmps38
  go_upto_region 1 with fail
  generalize w.alloc (.cells #[.int .i64 0, .int .i64 0, .int .i64 0, .float .f64 0, .int .i64 0, .int .i64 0, .int .i64 0, .int .i64 0] 51) = w1 at *
  go_wp2_with fail
  refine (BA _ X1.out).out.mono ?_
  rintro e w2 ⟨rfl, hb2⟩
  have s2 := hb2.size
  have X2 := Lib.hid ((X1.out.below hb2).more s2)
  have Y2 := Lib.hid ((Y1.out.below hb2).more s2)
  have Q2 := Lib.hid (Q1.out.below hb2 (by omega))
  have B2 := Lib.hid (B1.out.trans (hb2.mono (by omega)))
  clear hb2 X1 Y1 Q1 B1
  go_wp2_with fail
  refine (BA _ X2.out).out.mono ?_
  rintro e w3 ⟨rfl, hb3⟩
  have s3 := hb3.size
  have X3 := Lib.hid ((X2.out.below hb3).more s3)
  have Y3 := Lib.hid ((Y2.out.below hb3).more s3)
  have Q3 := Lib.hid (Q2.out.below hb3 (by omega))
  have B3 := Lib.hid (B2.out.trans (hb3.mono (by omega)))
  clear hb3 X2 Y2 Q2 B2
  go_wp2_with fail
  refine (BB _ Y3.out).out.mono ?_
  rintro e w4 ⟨rfl, hb4⟩
  have s4 := hb4.size
  have X4 := Lib.hid ((X3.out.below hb4).more s4)
  have Y4 := Lib.hid ((Y3.out.below hb4).more s4)
  have Q4 := Lib.hid (Q3.out.below hb4 (by omega))
  have B4 := Lib.hid (B3.out.trans (hb4.mono (by omega)))
  clear hb4 X3 Y3 Q3 B3
  go_wp2_with fail
  refine (Da _ X4.out).out.mono ?_
  rintro e v5 ⟨rfl, hb5⟩
  have t5 := hb5.size
  have X5 := Lib.hid ((((X4.out.below hb5).more t5).alloc (Nat.le_refl _) (.cells #[.int .i64 (numAt a 2), .int .i64 (numAt a 6), .int .i64 (numAt a 10), .float .f64 (gainAt a), .int .i64 (numAt a 14), .int .i64 (numAt a 18), .int .i64 (numAt a 22), .int .i64 (numAt a 26)] 51)).more (B' := (v5.alloc (.cells #[.int .i64 (numAt a 2), .int .i64 (numAt a 6), .int .i64 (numAt a 10), .float .f64 (gainAt a), .int .i64 (numAt a 14), .int .i64 (numAt a 18), .int .i64 (numAt a 22), .int .i64 (numAt a 26)] 51)).heap.size) (by simp))
  have Y5 := Lib.hid ((((Y4.out.below hb5).more t5).alloc (Nat.le_refl _) (.cells #[.int .i64 (numAt a 2), .int .i64 (numAt a 6), .int .i64 (numAt a 10), .float .f64 (gainAt a), .int .i64 (numAt a 14), .int .i64 (numAt a 18), .int .i64 (numAt a 22), .int .i64 (numAt a 26)] 51)).more (B' := (v5.alloc (.cells #[.int .i64 (numAt a 2), .int .i64 (numAt a 6), .int .i64 (numAt a 10), .float .f64 (gainAt a), .int .i64 (numAt a 14), .int .i64 (numAt a 18), .int .i64 (numAt a 22), .int .i64 (numAt a 26)] 51)).heap.size) (by simp))
  have Q5 := Lib.hid ((Q4.out.below hb5 (by omega)).alloc (.cells #[.int .i64 (numAt a 2), .int .i64 (numAt a 6), .int .i64 (numAt a 10), .float .f64 (gainAt a), .int .i64 (numAt a 14), .int .i64 (numAt a 18), .int .i64 (numAt a 22), .int .i64 (numAt a 26)] 51))
  have B5 := Lib.hid ((B4.out.trans (hb5.mono (by omega))).alloc (by omega) (.cells #[.int .i64 (numAt a 2), .int .i64 (numAt a 6), .int .i64 (numAt a 10), .float .f64 (gainAt a), .int .i64 (numAt a 14), .int .i64 (numAt a 18), .int .i64 (numAt a 22), .int .i64 (numAt a 26)] 51))
  have Na := Lib.hid (Blk.new v5 51 #[.int .i64 (numAt a 2), .int .i64 (numAt a 6), .int .i64 (numAt a 10), .float .f64 (gainAt a), .int .i64 (numAt a 14), .int .i64 (numAt a 18), .int .i64 (numAt a 22), .int .i64 (numAt a 26)])
  have s5 : (v5.alloc (.cells #[.int .i64 (numAt a 2), .int .i64 (numAt a 6), .int .i64 (numAt a 10), .float .f64 (gainAt a), .int .i64 (numAt a 14), .int .i64 (numAt a 18), .int .i64 (numAt a 22), .int .i64 (numAt a 26)] 51)).heap.size = v5.heap.size + 1 := by simp
  go_upto_region 8 with fail
  generalize hW5 : v5.alloc (.cells #[.int .i64 (numAt a 2), .int .i64 (numAt a 6), .int .i64 (numAt a 10), .float .f64 (gainAt a), .int .i64 (numAt a 14), .int .i64 (numAt a 18), .int .i64 (numAt a 22), .int .i64 (numAt a 26)] 51) = w5 at *
  clear hW5 hb5 X4 Y4 Q4 B4
  go_wp2_with fail
  refine (Db _ Y5.out).out.mono ?_
  rintro e v6 ⟨rfl, hb6⟩
  have t6 := hb6.size
  have X6 := Lib.hid ((((X5.out.below hb6).more t6).alloc (Nat.le_refl _) (.cells #[.int .i64 0, .int .i64 0, .int .i64 0, .float .f64 0, .int .i64 0, .int .i64 0, .int .i64 0, .int .i64 0] 51)).more (B' := (v6.alloc (.cells #[.int .i64 0, .int .i64 0, .int .i64 0, .float .f64 0, .int .i64 0, .int .i64 0, .int .i64 0, .int .i64 0] 51)).heap.size) (by simp))
  have Y6 := Lib.hid ((((Y5.out.below hb6).more t6).alloc (Nat.le_refl _) (.cells #[.int .i64 0, .int .i64 0, .int .i64 0, .float .f64 0, .int .i64 0, .int .i64 0, .int .i64 0, .int .i64 0] 51)).more (B' := (v6.alloc (.cells #[.int .i64 0, .int .i64 0, .int .i64 0, .float .f64 0, .int .i64 0, .int .i64 0, .int .i64 0, .int .i64 0] 51)).heap.size) (by simp))
  have Q6 := Lib.hid ((Q5.out.below hb6 (by omega)).alloc (.cells #[.int .i64 0, .int .i64 0, .int .i64 0, .float .f64 0, .int .i64 0, .int .i64 0, .int .i64 0, .int .i64 0] 51))
  have B6 := Lib.hid ((B5.out.trans (hb6.mono (by omega))).alloc (by omega) (.cells #[.int .i64 0, .int .i64 0, .int .i64 0, .float .f64 0, .int .i64 0, .int .i64 0, .int .i64 0, .int .i64 0] 51))
  have Nb := Lib.hid (Blk.new v6 51 #[.int .i64 0, .int .i64 0, .int .i64 0, .float .f64 0, .int .i64 0, .int .i64 0, .int .i64 0, .int .i64 0])
  have s6 : (v6.alloc (.cells #[.int .i64 0, .int .i64 0, .int .i64 0, .float .f64 0, .int .i64 0, .int .i64 0, .int .i64 0, .int .i64 0] 51)).heap.size = v6.heap.size + 1 := by simp
  have Na := Lib.hid ((Na.out.below hb6 (by omega)).alloc (.cells #[.int .i64 0, .int .i64 0, .int .i64 0, .float .f64 0, .int .i64 0, .int .i64 0, .int .i64 0, .int .i64 0] 51))
  go_upto_region 9 with fail
  generalize hW6 : v6.alloc (.cells #[.int .i64 0, .int .i64 0, .int .i64 0, .float .f64 0, .int .i64 0, .int .i64 0, .int .i64 0, .int .i64 0] 51) = w6 at *
  clear hW6 hb6 X5 Y5 Q5 B5
  have q0 := Q6.out.cell 0
  have g0 := Q6.out.frozen 0
  have q1 := Q6.out.cell 1
  have g1 := Q6.out.frozen 1
  have q2 := Q6.out.cell 2
  have g2 := Q6.out.frozen 2
  have q3 := Q6.out.cell 3
  have g3 := Q6.out.frozen 3
  have q4 := Q6.out.cell 4
  have g4 := Q6.out.frozen 4
  have q5 := Q6.out.cell 5
  have g5 := Q6.out.frozen 5
  have q6 := Q6.out.cell 6
  have g6 := Q6.out.frozen 6
  have q7 := Q6.out.cell 7
  have g7 := Q6.out.frozen 7
  simp at q0 q1 q2 q3 q4 q5 q6 q7
  go_wp2_with fail
  have Y := ((((((((Q6.out).set_ 0 (.int .i64 0)).set_ 1 (.int .i64 0)).set_ 2 (.int .i64 0)).set_ 3 (.float .f64 0)).set_ 4 (.int .i64 0)).set_ 5 (.int .i64 0)).set_ 6 (.int .i64 0)).set_ 7 (.int .i64 0)
  have BY := ((((((((B6.out).setCell (p := ⟨w.heap.size, 0, none⟩) (Nat.le_refl _) (.int .i64 0)).setCell (p := ⟨w.heap.size, 1, none⟩) (Nat.le_refl _) (.int .i64 0)).setCell (p := ⟨w.heap.size, 2, none⟩) (Nat.le_refl _) (.int .i64 0)).setCell (p := ⟨w.heap.size, 3, none⟩) (Nat.le_refl _) (.float .f64 0)).setCell (p := ⟨w.heap.size, 4, none⟩) (Nat.le_refl _) (.int .i64 0)).setCell (p := ⟨w.heap.size, 5, none⟩) (Nat.le_refl _) (.int .i64 0)).setCell (p := ⟨w.heap.size, 6, none⟩) (Nat.le_refl _) (.int .i64 0)).setCell (p := ⟨w.heap.size, 7, none⟩) (Nat.le_refl _) (.int .i64 0)
  generalize ((((((((w6.setCell ⟨w.heap.size, 0, none⟩ (.int .i64 0)).setCell ⟨w.heap.size, 1, none⟩ (.int .i64 0)).setCell ⟨w.heap.size, 2, none⟩ (.int .i64 0)).setCell ⟨w.heap.size, 3, none⟩ (.float .f64 0)).setCell ⟨w.heap.size, 4, none⟩ (.int .i64 0)).setCell ⟨w.heap.size, 5, none⟩ (.int .i64 0)).setCell ⟨w.heap.size, 6, none⟩ (.int .i64 0)).setCell ⟨w.heap.size, 7, none⟩ (.int .i64 0)) = wz at *
  have y0 := Y.cell 0
  have y1 := Y.cell 1
  have y2 := Y.cell 2
  have y3 := Y.cell 3
  have y4 := Y.cell 4
  have y5 := Y.cell 5
  have y6 := Y.cell 6
  have y7 := Y.cell 7
  simp at y0 y1 y2 y3 y4 y5 y6 y7
  (try simp only [Exit.inBlock, Exit.then])
  refine bodyPost_ret (by simp [results, Try.results38, go_sem, y0, y1, y2, y3, y4, y5, y6, y7]; try rfl) rfl ?_
  exact ⟨rfl, BY⟩
set_option maxHeartbeats 4000000 in
theorem ch_same (A : Option Addr) (n c : Nat) (a : List B8) (A2 : Option Addr) (n2 c2 : Nat) (b : List B8) (w : World) (hra : Rd w w.heap.size A n a) (hca : n ≤ c) (hrb : Rd w w.heap.size A2 n2 b) (hcb : n2 ≤ c2) (hba : blankB a = false) (hbb : blankB b = false) (hea : decE a = 0) (heb : decE b = 0) (hg : numAt a 2 = numAt b 2) :
    Calls Try.prog 38 #[.slice A n c, .slice A2 n2 c2] w fun e w' => e = .returned (.tuple #[zeroV, .int .i64 0, .int .i64 4]) ∧ Below w.heap.size w w' := by
  have hst := storeFloat
  have BA := fun (W : World) (h' : Rd W W.heap.size A n a) => Lib.hid (blank_any A n c a W h')
  rw [hba] at BA
  have BB := fun (W : World) (h' : Rd W W.heap.size A2 n2 b) => Lib.hid (blank_any A2 n2 c2 b W h')
  rw [hbb] at BB
  have Da := fun (W : World) (h' : Rd W W.heap.size A n a) => Lib.hid (dec_any A n c a W h' hca)
  have Db := fun (W : World) (h' : Rd W W.heap.size A2 n2 b) => Lib.hid (dec_any A2 n2 c2 b W h' hcb)
  rw [decV_ok hea, hea] at Da
  unfold crownV at Da
  rw [decV_ok heb, heb] at Db
  unfold crownV at Db
  have hg1 : (numAt a 2 == numAt b 2) = true := by rw [beq_iff_eq]; exact hg
  have HG := Lib.hid hg
  clear hg
  have X1 := Lib.hid ((hra.alloc (Nat.le_refl _) (.cells #[.int .i64 0, .int .i64 0, .int .i64 0, .float .f64 0, .int .i64 0, .int .i64 0, .int .i64 0, .int .i64 0] 51)).more (B' := (w.alloc (.cells #[.int .i64 0, .int .i64 0, .int .i64 0, .float .f64 0, .int .i64 0, .int .i64 0, .int .i64 0, .int .i64 0] 51)).heap.size) (by simp))
  have Y1 := Lib.hid ((hrb.alloc (Nat.le_refl _) (.cells #[.int .i64 0, .int .i64 0, .int .i64 0, .float .f64 0, .int .i64 0, .int .i64 0, .int .i64 0, .int .i64 0] 51)).more (B' := (w.alloc (.cells #[.int .i64 0, .int .i64 0, .int .i64 0, .float .f64 0, .int .i64 0, .int .i64 0, .int .i64 0, .int .i64 0] 51)).heap.size) (by simp))
  have Q1 := Lib.hid (Blk.new w 51 #[.int .i64 0, .int .i64 0, .int .i64 0, .float .f64 0, .int .i64 0, .int .i64 0, .int .i64 0, .int .i64 0])
  have B1 := Lib.hid ((Below.refl w.heap.size w).alloc (Nat.le_refl _) (.cells #[.int .i64 0, .int .i64 0, .int .i64 0, .float .f64 0, .int .i64 0, .int .i64 0, .int .i64 0, .int .i64 0] 51))
  have s1 : (w.alloc (.cells #[.int .i64 0, .int .i64 0, .int .i64 0, .float .f64 0, .int .i64 0, .int .i64 0, .int .i64 0, .int .i64 0] 51)).heap.size = w.heap.size + 1 := by simp
  have hst := storeFloat
  clear hra hrb
  go_enter Try.func38, Try.ntmps38
  go_upto_region 1 with fail
  generalize w.alloc (.cells #[.int .i64 0, .int .i64 0, .int .i64 0, .float .f64 0, .int .i64 0, .int .i64 0, .int .i64 0, .int .i64 0] 51) = w1 at *
  go_wp2_with fail
  refine (BA _ X1.out).out.mono ?_
  rintro e w2 ⟨rfl, hb2⟩
  have s2 := hb2.size
  have X2 := Lib.hid ((X1.out.below hb2).more s2)
  have Y2 := Lib.hid ((Y1.out.below hb2).more s2)
  have Q2 := Lib.hid (Q1.out.below hb2 (by omega))
  have B2 := Lib.hid (B1.out.trans (hb2.mono (by omega)))
  clear hb2 X1 Y1 Q1 B1
  go_wp2_with fail
  refine (BA _ X2.out).out.mono ?_
  rintro e w3 ⟨rfl, hb3⟩
  have s3 := hb3.size
  have X3 := Lib.hid ((X2.out.below hb3).more s3)
  have Y3 := Lib.hid ((Y2.out.below hb3).more s3)
  have Q3 := Lib.hid (Q2.out.below hb3 (by omega))
  have B3 := Lib.hid (B2.out.trans (hb3.mono (by omega)))
  clear hb3 X2 Y2 Q2 B2
  go_wp2_with fail
  refine (BB _ Y3.out).out.mono ?_
  rintro e w4 ⟨rfl, hb4⟩
  have s4 := hb4.size
  have X4 := Lib.hid ((X3.out.below hb4).more s4)
  have Y4 := Lib.hid ((Y3.out.below hb4).more s4)
  have Q4 := Lib.hid (Q3.out.below hb4 (by omega))
  have B4 := Lib.hid (B3.out.trans (hb4.mono (by omega)))
  clear hb4 X3 Y3 Q3 B3
  go_wp2_with fail
  refine (Da _ X4.out).out.mono ?_
  rintro e v5 ⟨rfl, hb5⟩
  have t5 := hb5.size
  have X5 := Lib.hid ((((X4.out.below hb5).more t5).alloc (Nat.le_refl _) (.cells #[.int .i64 (numAt a 2), .int .i64 (numAt a 6), .int .i64 (numAt a 10), .float .f64 (gainAt a), .int .i64 (numAt a 14), .int .i64 (numAt a 18), .int .i64 (numAt a 22), .int .i64 (numAt a 26)] 51)).more (B' := (v5.alloc (.cells #[.int .i64 (numAt a 2), .int .i64 (numAt a 6), .int .i64 (numAt a 10), .float .f64 (gainAt a), .int .i64 (numAt a 14), .int .i64 (numAt a 18), .int .i64 (numAt a 22), .int .i64 (numAt a 26)] 51)).heap.size) (by simp))
  have Y5 := Lib.hid ((((Y4.out.below hb5).more t5).alloc (Nat.le_refl _) (.cells #[.int .i64 (numAt a 2), .int .i64 (numAt a 6), .int .i64 (numAt a 10), .float .f64 (gainAt a), .int .i64 (numAt a 14), .int .i64 (numAt a 18), .int .i64 (numAt a 22), .int .i64 (numAt a 26)] 51)).more (B' := (v5.alloc (.cells #[.int .i64 (numAt a 2), .int .i64 (numAt a 6), .int .i64 (numAt a 10), .float .f64 (gainAt a), .int .i64 (numAt a 14), .int .i64 (numAt a 18), .int .i64 (numAt a 22), .int .i64 (numAt a 26)] 51)).heap.size) (by simp))
  have Q5 := Lib.hid ((Q4.out.below hb5 (by omega)).alloc (.cells #[.int .i64 (numAt a 2), .int .i64 (numAt a 6), .int .i64 (numAt a 10), .float .f64 (gainAt a), .int .i64 (numAt a 14), .int .i64 (numAt a 18), .int .i64 (numAt a 22), .int .i64 (numAt a 26)] 51))
  have B5 := Lib.hid ((B4.out.trans (hb5.mono (by omega))).alloc (by omega) (.cells #[.int .i64 (numAt a 2), .int .i64 (numAt a 6), .int .i64 (numAt a 10), .float .f64 (gainAt a), .int .i64 (numAt a 14), .int .i64 (numAt a 18), .int .i64 (numAt a 22), .int .i64 (numAt a 26)] 51))
  have Na := Lib.hid (Blk.new v5 51 #[.int .i64 (numAt a 2), .int .i64 (numAt a 6), .int .i64 (numAt a 10), .float .f64 (gainAt a), .int .i64 (numAt a 14), .int .i64 (numAt a 18), .int .i64 (numAt a 22), .int .i64 (numAt a 26)])
  have s5 : (v5.alloc (.cells #[.int .i64 (numAt a 2), .int .i64 (numAt a 6), .int .i64 (numAt a 10), .float .f64 (gainAt a), .int .i64 (numAt a 14), .int .i64 (numAt a 18), .int .i64 (numAt a 22), .int .i64 (numAt a 26)] 51)).heap.size = v5.heap.size + 1 := by simp
  go_upto_region 8 with fail
  generalize hW5 : v5.alloc (.cells #[.int .i64 (numAt a 2), .int .i64 (numAt a 6), .int .i64 (numAt a 10), .float .f64 (gainAt a), .int .i64 (numAt a 14), .int .i64 (numAt a 18), .int .i64 (numAt a 22), .int .i64 (numAt a 26)] 51) = w5 at *
  clear hW5 hb5 X4 Y4 Q4 B4
  go_wp2_with fail
  refine (Db _ Y5.out).out.mono ?_
  rintro e v6 ⟨rfl, hb6⟩
  have t6 := hb6.size
  have X6 := Lib.hid ((((X5.out.below hb6).more t6).alloc (Nat.le_refl _) (.cells #[.int .i64 (numAt b 2), .int .i64 (numAt b 6), .int .i64 (numAt b 10), .float .f64 (gainAt b), .int .i64 (numAt b 14), .int .i64 (numAt b 18), .int .i64 (numAt b 22), .int .i64 (numAt b 26)] 51)).more (B' := (v6.alloc (.cells #[.int .i64 (numAt b 2), .int .i64 (numAt b 6), .int .i64 (numAt b 10), .float .f64 (gainAt b), .int .i64 (numAt b 14), .int .i64 (numAt b 18), .int .i64 (numAt b 22), .int .i64 (numAt b 26)] 51)).heap.size) (by simp))
  have Y6 := Lib.hid ((((Y5.out.below hb6).more t6).alloc (Nat.le_refl _) (.cells #[.int .i64 (numAt b 2), .int .i64 (numAt b 6), .int .i64 (numAt b 10), .float .f64 (gainAt b), .int .i64 (numAt b 14), .int .i64 (numAt b 18), .int .i64 (numAt b 22), .int .i64 (numAt b 26)] 51)).more (B' := (v6.alloc (.cells #[.int .i64 (numAt b 2), .int .i64 (numAt b 6), .int .i64 (numAt b 10), .float .f64 (gainAt b), .int .i64 (numAt b 14), .int .i64 (numAt b 18), .int .i64 (numAt b 22), .int .i64 (numAt b 26)] 51)).heap.size) (by simp))
  have Q6 := Lib.hid ((Q5.out.below hb6 (by omega)).alloc (.cells #[.int .i64 (numAt b 2), .int .i64 (numAt b 6), .int .i64 (numAt b 10), .float .f64 (gainAt b), .int .i64 (numAt b 14), .int .i64 (numAt b 18), .int .i64 (numAt b 22), .int .i64 (numAt b 26)] 51))
  have B6 := Lib.hid ((B5.out.trans (hb6.mono (by omega))).alloc (by omega) (.cells #[.int .i64 (numAt b 2), .int .i64 (numAt b 6), .int .i64 (numAt b 10), .float .f64 (gainAt b), .int .i64 (numAt b 14), .int .i64 (numAt b 18), .int .i64 (numAt b 22), .int .i64 (numAt b 26)] 51))
  have Nb := Lib.hid (Blk.new v6 51 #[.int .i64 (numAt b 2), .int .i64 (numAt b 6), .int .i64 (numAt b 10), .float .f64 (gainAt b), .int .i64 (numAt b 14), .int .i64 (numAt b 18), .int .i64 (numAt b 22), .int .i64 (numAt b 26)])
  have s6 : (v6.alloc (.cells #[.int .i64 (numAt b 2), .int .i64 (numAt b 6), .int .i64 (numAt b 10), .float .f64 (gainAt b), .int .i64 (numAt b 14), .int .i64 (numAt b 18), .int .i64 (numAt b 22), .int .i64 (numAt b 26)] 51)).heap.size = v6.heap.size + 1 := by simp
  have Na := Lib.hid ((Na.out.below hb6 (by omega)).alloc (.cells #[.int .i64 (numAt b 2), .int .i64 (numAt b 6), .int .i64 (numAt b 10), .float .f64 (gainAt b), .int .i64 (numAt b 14), .int .i64 (numAt b 18), .int .i64 (numAt b 22), .int .i64 (numAt b 26)] 51))
  go_upto_region 9 with fail
  generalize hW6 : v6.alloc (.cells #[.int .i64 (numAt b 2), .int .i64 (numAt b 6), .int .i64 (numAt b 10), .float .f64 (gainAt b), .int .i64 (numAt b 14), .int .i64 (numAt b 18), .int .i64 (numAt b 22), .int .i64 (numAt b 26)] 51) = w6 at *
  clear hW6 hb6 X5 Y5 Q5 B5
  have k0 := Na.out.cell 0
  have k1 := Na.out.cell 1
  have k2 := Na.out.cell 2
  have k3 := Na.out.cell 3
  have k4 := Na.out.cell 4
  have k5 := Na.out.cell 5
  have k6 := Na.out.cell 6
  have k7 := Na.out.cell 7
  simp at k0 k1 k2 k3 k4 k5 k6 k7
  have d0 := Nb.out.cell 0
  have d1 := Nb.out.cell 1
  have d2 := Nb.out.cell 2
  have d3 := Nb.out.cell 3
  have d4 := Nb.out.cell 4
  have d5 := Nb.out.cell 5
  have d6 := Nb.out.cell 6
  have d7 := Nb.out.cell 7
  simp at d0 d1 d2 d3 d4 d5 d6 d7
  have q0 := Q6.out.cell 0
  have g0 := Q6.out.frozen 0
  have q1 := Q6.out.cell 1
  have g1 := Q6.out.frozen 1
  have q2 := Q6.out.cell 2
  have g2 := Q6.out.frozen 2
  have q3 := Q6.out.cell 3
  have g3 := Q6.out.frozen 3
  have q4 := Q6.out.cell 4
  have g4 := Q6.out.frozen 4
  have q5 := Q6.out.cell 5
  have g5 := Q6.out.frozen 5
  have q6 := Q6.out.cell 6
  have g6 := Q6.out.frozen 6
  have q7 := Q6.out.cell 7
  have g7 := Q6.out.frozen 7
  simp at q0 q1 q2 q3 q4 q5 q6 q7
  go_wp2_with fail
  have Y := ((((((((Q6.out).set_ 0 (.int .i64 0)).set_ 1 (.int .i64 0)).set_ 2 (.int .i64 0)).set_ 3 (.float .f64 0)).set_ 4 (.int .i64 0)).set_ 5 (.int .i64 0)).set_ 6 (.int .i64 0)).set_ 7 (.int .i64 0)
  have BY := ((((((((B6.out).setCell (p := ⟨w.heap.size, 0, none⟩) (Nat.le_refl _) (.int .i64 0)).setCell (p := ⟨w.heap.size, 1, none⟩) (Nat.le_refl _) (.int .i64 0)).setCell (p := ⟨w.heap.size, 2, none⟩) (Nat.le_refl _) (.int .i64 0)).setCell (p := ⟨w.heap.size, 3, none⟩) (Nat.le_refl _) (.float .f64 0)).setCell (p := ⟨w.heap.size, 4, none⟩) (Nat.le_refl _) (.int .i64 0)).setCell (p := ⟨w.heap.size, 5, none⟩) (Nat.le_refl _) (.int .i64 0)).setCell (p := ⟨w.heap.size, 6, none⟩) (Nat.le_refl _) (.int .i64 0)).setCell (p := ⟨w.heap.size, 7, none⟩) (Nat.le_refl _) (.int .i64 0)
  generalize ((((((((w6.setCell ⟨w.heap.size, 0, none⟩ (.int .i64 0)).setCell ⟨w.heap.size, 1, none⟩ (.int .i64 0)).setCell ⟨w.heap.size, 2, none⟩ (.int .i64 0)).setCell ⟨w.heap.size, 3, none⟩ (.float .f64 0)).setCell ⟨w.heap.size, 4, none⟩ (.int .i64 0)).setCell ⟨w.heap.size, 5, none⟩ (.int .i64 0)).setCell ⟨w.heap.size, 6, none⟩ (.int .i64 0)).setCell ⟨w.heap.size, 7, none⟩ (.int .i64 0)) = wz at *
  have y0 := Y.cell 0
  have y1 := Y.cell 1
  have y2 := Y.cell 2
  have y3 := Y.cell 3
  have y4 := Y.cell 4
  have y5 := Y.cell 5
  have y6 := Y.cell 6
  have y7 := Y.cell 7
  simp at y0 y1 y2 y3 y4 y5 y6 y7
  (try simp only [Exit.inBlock, Exit.then])
  refine bodyPost_ret (by simp [results, Try.results38, go_sem, y0, y1, y2, y3, y4, y5, y6, y7]; try rfl) rfl ?_
  exact ⟨rfl, BY⟩
set_option maxHeartbeats 4000000 in
theorem ch_gt (A : Option Addr) (n c : Nat) (a : List B8) (A2 : Option Addr) (n2 c2 : Nat) (b : List B8) (w : World) (hra : Rd w w.heap.size A n a) (hca : n ≤ c) (hrb : Rd w w.heap.size A2 n2 b) (hcb : n2 ≤ c2) (hba : blankB a = false) (hbb : blankB b = false) (hea : decE a = 0) (heb : decE b = 0) (hg : numAt b 2 < numAt a 2) :
    Calls Try.prog 38 #[.slice A n c, .slice A2 n2 c2] w fun e w' => e = .returned (.tuple #[crownV a, .int .i64 0, .int .i64 0]) ∧ Below w.heap.size w w' := by
  have hst := storeFloat
  have BA := fun (W : World) (h' : Rd W W.heap.size A n a) => Lib.hid (blank_any A n c a W h')
  rw [hba] at BA
  have BB := fun (W : World) (h' : Rd W W.heap.size A2 n2 b) => Lib.hid (blank_any A2 n2 c2 b W h')
  rw [hbb] at BB
  have Da := fun (W : World) (h' : Rd W W.heap.size A n a) => Lib.hid (dec_any A n c a W h' hca)
  have Db := fun (W : World) (h' : Rd W W.heap.size A2 n2 b) => Lib.hid (dec_any A2 n2 c2 b W h' hcb)
  rw [decV_ok hea, hea] at Da
  unfold crownV at Da
  rw [decV_ok heb, heb] at Db
  unfold crownV at Db
  have hg1 : (numAt a 2 == numAt b 2) = false := by rw [beq_eq_false_iff_ne]; omega
  have hg2 : decide (numAt b 2 < numAt a 2) = true := decide_eq_true hg
  have X1 := Lib.hid ((hra.alloc (Nat.le_refl _) (.cells #[.int .i64 0, .int .i64 0, .int .i64 0, .float .f64 0, .int .i64 0, .int .i64 0, .int .i64 0, .int .i64 0] 51)).more (B' := (w.alloc (.cells #[.int .i64 0, .int .i64 0, .int .i64 0, .float .f64 0, .int .i64 0, .int .i64 0, .int .i64 0, .int .i64 0] 51)).heap.size) (by simp))
  have Y1 := Lib.hid ((hrb.alloc (Nat.le_refl _) (.cells #[.int .i64 0, .int .i64 0, .int .i64 0, .float .f64 0, .int .i64 0, .int .i64 0, .int .i64 0, .int .i64 0] 51)).more (B' := (w.alloc (.cells #[.int .i64 0, .int .i64 0, .int .i64 0, .float .f64 0, .int .i64 0, .int .i64 0, .int .i64 0, .int .i64 0] 51)).heap.size) (by simp))
  have Q1 := Lib.hid (Blk.new w 51 #[.int .i64 0, .int .i64 0, .int .i64 0, .float .f64 0, .int .i64 0, .int .i64 0, .int .i64 0, .int .i64 0])
  have B1 := Lib.hid ((Below.refl w.heap.size w).alloc (Nat.le_refl _) (.cells #[.int .i64 0, .int .i64 0, .int .i64 0, .float .f64 0, .int .i64 0, .int .i64 0, .int .i64 0, .int .i64 0] 51))
  have s1 : (w.alloc (.cells #[.int .i64 0, .int .i64 0, .int .i64 0, .float .f64 0, .int .i64 0, .int .i64 0, .int .i64 0, .int .i64 0] 51)).heap.size = w.heap.size + 1 := by simp
  have hst := storeFloat
  clear hra hrb
  go_enter Try.func38, Try.ntmps38
  go_upto_region 1 with fail
  generalize w.alloc (.cells #[.int .i64 0, .int .i64 0, .int .i64 0, .float .f64 0, .int .i64 0, .int .i64 0, .int .i64 0, .int .i64 0] 51) = w1 at *
  go_wp2_with fail
  refine (BA _ X1.out).out.mono ?_
  rintro e w2 ⟨rfl, hb2⟩
  have s2 := hb2.size
  have X2 := Lib.hid ((X1.out.below hb2).more s2)
  have Y2 := Lib.hid ((Y1.out.below hb2).more s2)
  have Q2 := Lib.hid (Q1.out.below hb2 (by omega))
  have B2 := Lib.hid (B1.out.trans (hb2.mono (by omega)))
  clear hb2 X1 Y1 Q1 B1
  go_wp2_with fail
  refine (BA _ X2.out).out.mono ?_
  rintro e w3 ⟨rfl, hb3⟩
  have s3 := hb3.size
  have X3 := Lib.hid ((X2.out.below hb3).more s3)
  have Y3 := Lib.hid ((Y2.out.below hb3).more s3)
  have Q3 := Lib.hid (Q2.out.below hb3 (by omega))
  have B3 := Lib.hid (B2.out.trans (hb3.mono (by omega)))
  clear hb3 X2 Y2 Q2 B2
  go_wp2_with fail
  refine (BB _ Y3.out).out.mono ?_
  rintro e w4 ⟨rfl, hb4⟩
  have s4 := hb4.size
  have X4 := Lib.hid ((X3.out.below hb4).more s4)
  have Y4 := Lib.hid ((Y3.out.below hb4).more s4)
  have Q4 := Lib.hid (Q3.out.below hb4 (by omega))
  have B4 := Lib.hid (B3.out.trans (hb4.mono (by omega)))
  clear hb4 X3 Y3 Q3 B3
  go_wp2_with fail
  refine (Da _ X4.out).out.mono ?_
  rintro e v5 ⟨rfl, hb5⟩
  have t5 := hb5.size
  have X5 := Lib.hid ((((X4.out.below hb5).more t5).alloc (Nat.le_refl _) (.cells #[.int .i64 (numAt a 2), .int .i64 (numAt a 6), .int .i64 (numAt a 10), .float .f64 (gainAt a), .int .i64 (numAt a 14), .int .i64 (numAt a 18), .int .i64 (numAt a 22), .int .i64 (numAt a 26)] 51)).more (B' := (v5.alloc (.cells #[.int .i64 (numAt a 2), .int .i64 (numAt a 6), .int .i64 (numAt a 10), .float .f64 (gainAt a), .int .i64 (numAt a 14), .int .i64 (numAt a 18), .int .i64 (numAt a 22), .int .i64 (numAt a 26)] 51)).heap.size) (by simp))
  have Y5 := Lib.hid ((((Y4.out.below hb5).more t5).alloc (Nat.le_refl _) (.cells #[.int .i64 (numAt a 2), .int .i64 (numAt a 6), .int .i64 (numAt a 10), .float .f64 (gainAt a), .int .i64 (numAt a 14), .int .i64 (numAt a 18), .int .i64 (numAt a 22), .int .i64 (numAt a 26)] 51)).more (B' := (v5.alloc (.cells #[.int .i64 (numAt a 2), .int .i64 (numAt a 6), .int .i64 (numAt a 10), .float .f64 (gainAt a), .int .i64 (numAt a 14), .int .i64 (numAt a 18), .int .i64 (numAt a 22), .int .i64 (numAt a 26)] 51)).heap.size) (by simp))
  have Q5 := Lib.hid ((Q4.out.below hb5 (by omega)).alloc (.cells #[.int .i64 (numAt a 2), .int .i64 (numAt a 6), .int .i64 (numAt a 10), .float .f64 (gainAt a), .int .i64 (numAt a 14), .int .i64 (numAt a 18), .int .i64 (numAt a 22), .int .i64 (numAt a 26)] 51))
  have B5 := Lib.hid ((B4.out.trans (hb5.mono (by omega))).alloc (by omega) (.cells #[.int .i64 (numAt a 2), .int .i64 (numAt a 6), .int .i64 (numAt a 10), .float .f64 (gainAt a), .int .i64 (numAt a 14), .int .i64 (numAt a 18), .int .i64 (numAt a 22), .int .i64 (numAt a 26)] 51))
  have Na := Lib.hid (Blk.new v5 51 #[.int .i64 (numAt a 2), .int .i64 (numAt a 6), .int .i64 (numAt a 10), .float .f64 (gainAt a), .int .i64 (numAt a 14), .int .i64 (numAt a 18), .int .i64 (numAt a 22), .int .i64 (numAt a 26)])
  have s5 : (v5.alloc (.cells #[.int .i64 (numAt a 2), .int .i64 (numAt a 6), .int .i64 (numAt a 10), .float .f64 (gainAt a), .int .i64 (numAt a 14), .int .i64 (numAt a 18), .int .i64 (numAt a 22), .int .i64 (numAt a 26)] 51)).heap.size = v5.heap.size + 1 := by simp
  go_upto_region 8 with fail
  generalize hW5 : v5.alloc (.cells #[.int .i64 (numAt a 2), .int .i64 (numAt a 6), .int .i64 (numAt a 10), .float .f64 (gainAt a), .int .i64 (numAt a 14), .int .i64 (numAt a 18), .int .i64 (numAt a 22), .int .i64 (numAt a 26)] 51) = w5 at *
  clear hW5 hb5 X4 Y4 Q4 B4
  go_wp2_with fail
  refine (Db _ Y5.out).out.mono ?_
  rintro e v6 ⟨rfl, hb6⟩
  have t6 := hb6.size
  have X6 := Lib.hid ((((X5.out.below hb6).more t6).alloc (Nat.le_refl _) (.cells #[.int .i64 (numAt b 2), .int .i64 (numAt b 6), .int .i64 (numAt b 10), .float .f64 (gainAt b), .int .i64 (numAt b 14), .int .i64 (numAt b 18), .int .i64 (numAt b 22), .int .i64 (numAt b 26)] 51)).more (B' := (v6.alloc (.cells #[.int .i64 (numAt b 2), .int .i64 (numAt b 6), .int .i64 (numAt b 10), .float .f64 (gainAt b), .int .i64 (numAt b 14), .int .i64 (numAt b 18), .int .i64 (numAt b 22), .int .i64 (numAt b 26)] 51)).heap.size) (by simp))
  have Y6 := Lib.hid ((((Y5.out.below hb6).more t6).alloc (Nat.le_refl _) (.cells #[.int .i64 (numAt b 2), .int .i64 (numAt b 6), .int .i64 (numAt b 10), .float .f64 (gainAt b), .int .i64 (numAt b 14), .int .i64 (numAt b 18), .int .i64 (numAt b 22), .int .i64 (numAt b 26)] 51)).more (B' := (v6.alloc (.cells #[.int .i64 (numAt b 2), .int .i64 (numAt b 6), .int .i64 (numAt b 10), .float .f64 (gainAt b), .int .i64 (numAt b 14), .int .i64 (numAt b 18), .int .i64 (numAt b 22), .int .i64 (numAt b 26)] 51)).heap.size) (by simp))
  have Q6 := Lib.hid ((Q5.out.below hb6 (by omega)).alloc (.cells #[.int .i64 (numAt b 2), .int .i64 (numAt b 6), .int .i64 (numAt b 10), .float .f64 (gainAt b), .int .i64 (numAt b 14), .int .i64 (numAt b 18), .int .i64 (numAt b 22), .int .i64 (numAt b 26)] 51))
  have B6 := Lib.hid ((B5.out.trans (hb6.mono (by omega))).alloc (by omega) (.cells #[.int .i64 (numAt b 2), .int .i64 (numAt b 6), .int .i64 (numAt b 10), .float .f64 (gainAt b), .int .i64 (numAt b 14), .int .i64 (numAt b 18), .int .i64 (numAt b 22), .int .i64 (numAt b 26)] 51))
  have Nb := Lib.hid (Blk.new v6 51 #[.int .i64 (numAt b 2), .int .i64 (numAt b 6), .int .i64 (numAt b 10), .float .f64 (gainAt b), .int .i64 (numAt b 14), .int .i64 (numAt b 18), .int .i64 (numAt b 22), .int .i64 (numAt b 26)])
  have s6 : (v6.alloc (.cells #[.int .i64 (numAt b 2), .int .i64 (numAt b 6), .int .i64 (numAt b 10), .float .f64 (gainAt b), .int .i64 (numAt b 14), .int .i64 (numAt b 18), .int .i64 (numAt b 22), .int .i64 (numAt b 26)] 51)).heap.size = v6.heap.size + 1 := by simp
  have Na := Lib.hid ((Na.out.below hb6 (by omega)).alloc (.cells #[.int .i64 (numAt b 2), .int .i64 (numAt b 6), .int .i64 (numAt b 10), .float .f64 (gainAt b), .int .i64 (numAt b 14), .int .i64 (numAt b 18), .int .i64 (numAt b 22), .int .i64 (numAt b 26)] 51))
  go_upto_region 9 with fail
  generalize hW6 : v6.alloc (.cells #[.int .i64 (numAt b 2), .int .i64 (numAt b 6), .int .i64 (numAt b 10), .float .f64 (gainAt b), .int .i64 (numAt b 14), .int .i64 (numAt b 18), .int .i64 (numAt b 22), .int .i64 (numAt b 26)] 51) = w6 at *
  clear hW6 hb6 X5 Y5 Q5 B5
  have k0 := Na.out.cell 0
  have k1 := Na.out.cell 1
  have k2 := Na.out.cell 2
  have k3 := Na.out.cell 3
  have k4 := Na.out.cell 4
  have k5 := Na.out.cell 5
  have k6 := Na.out.cell 6
  have k7 := Na.out.cell 7
  simp at k0 k1 k2 k3 k4 k5 k6 k7
  have d0 := Nb.out.cell 0
  have d1 := Nb.out.cell 1
  have d2 := Nb.out.cell 2
  have d3 := Nb.out.cell 3
  have d4 := Nb.out.cell 4
  have d5 := Nb.out.cell 5
  have d6 := Nb.out.cell 6
  have d7 := Nb.out.cell 7
  simp at d0 d1 d2 d3 d4 d5 d6 d7
  have q0 := Q6.out.cell 0
  have g0 := Q6.out.frozen 0
  have q1 := Q6.out.cell 1
  have g1 := Q6.out.frozen 1
  have q2 := Q6.out.cell 2
  have g2 := Q6.out.frozen 2
  have q3 := Q6.out.cell 3
  have g3 := Q6.out.frozen 3
  have q4 := Q6.out.cell 4
  have g4 := Q6.out.frozen 4
  have q5 := Q6.out.cell 5
  have g5 := Q6.out.frozen 5
  have q6 := Q6.out.cell 6
  have g6 := Q6.out.frozen 6
  have q7 := Q6.out.cell 7
  have g7 := Q6.out.frozen 7
  simp at q0 q1 q2 q3 q4 q5 q6 q7
  go_wp2_with fail
  have Y := ((((((((Q6.out).set_ 0 (.int .i64 (numAt a 2))).set_ 1 (.int .i64 (numAt a 6))).set_ 2 (.int .i64 (numAt a 10))).set_ 3 (.float .f64 (gainAt a))).set_ 4 (.int .i64 (numAt a 14))).set_ 5 (.int .i64 (numAt a 18))).set_ 6 (.int .i64 (numAt a 22))).set_ 7 (.int .i64 (numAt a 26))
  have BY := ((((((((B6.out).setCell (p := ⟨w.heap.size, 0, none⟩) (Nat.le_refl _) (.int .i64 (numAt a 2))).setCell (p := ⟨w.heap.size, 1, none⟩) (Nat.le_refl _) (.int .i64 (numAt a 6))).setCell (p := ⟨w.heap.size, 2, none⟩) (Nat.le_refl _) (.int .i64 (numAt a 10))).setCell (p := ⟨w.heap.size, 3, none⟩) (Nat.le_refl _) (.float .f64 (gainAt a))).setCell (p := ⟨w.heap.size, 4, none⟩) (Nat.le_refl _) (.int .i64 (numAt a 14))).setCell (p := ⟨w.heap.size, 5, none⟩) (Nat.le_refl _) (.int .i64 (numAt a 18))).setCell (p := ⟨w.heap.size, 6, none⟩) (Nat.le_refl _) (.int .i64 (numAt a 22))).setCell (p := ⟨w.heap.size, 7, none⟩) (Nat.le_refl _) (.int .i64 (numAt a 26))
  generalize ((((((((w6.setCell ⟨w.heap.size, 0, none⟩ (.int .i64 (numAt a 2))).setCell ⟨w.heap.size, 1, none⟩ (.int .i64 (numAt a 6))).setCell ⟨w.heap.size, 2, none⟩ (.int .i64 (numAt a 10))).setCell ⟨w.heap.size, 3, none⟩ (.float .f64 (gainAt a))).setCell ⟨w.heap.size, 4, none⟩ (.int .i64 (numAt a 14))).setCell ⟨w.heap.size, 5, none⟩ (.int .i64 (numAt a 18))).setCell ⟨w.heap.size, 6, none⟩ (.int .i64 (numAt a 22))).setCell ⟨w.heap.size, 7, none⟩ (.int .i64 (numAt a 26))) = wz at *
  have y0 := Y.cell 0
  have y1 := Y.cell 1
  have y2 := Y.cell 2
  have y3 := Y.cell 3
  have y4 := Y.cell 4
  have y5 := Y.cell 5
  have y6 := Y.cell 6
  have y7 := Y.cell 7
  simp at y0 y1 y2 y3 y4 y5 y6 y7
  (try simp only [Exit.inBlock, Exit.then])
  refine bodyPost_ret (by simp [results, Try.results38, go_sem, y0, y1, y2, y3, y4, y5, y6, y7]; try rfl) rfl ?_
  exact ⟨rfl, BY⟩
set_option maxHeartbeats 4000000 in
theorem ch_lt (A : Option Addr) (n c : Nat) (a : List B8) (A2 : Option Addr) (n2 c2 : Nat) (b : List B8) (w : World) (hra : Rd w w.heap.size A n a) (hca : n ≤ c) (hrb : Rd w w.heap.size A2 n2 b) (hcb : n2 ≤ c2) (hba : blankB a = false) (hbb : blankB b = false) (hea : decE a = 0) (heb : decE b = 0) (hg : numAt a 2 < numAt b 2) :
    Calls Try.prog 38 #[.slice A n c, .slice A2 n2 c2] w fun e w' => e = .returned (.tuple #[crownV b, .int .i64 1, .int .i64 0]) ∧ Below w.heap.size w w' := by
  have hst := storeFloat
  have BA := fun (W : World) (h' : Rd W W.heap.size A n a) => Lib.hid (blank_any A n c a W h')
  rw [hba] at BA
  have BB := fun (W : World) (h' : Rd W W.heap.size A2 n2 b) => Lib.hid (blank_any A2 n2 c2 b W h')
  rw [hbb] at BB
  have Da := fun (W : World) (h' : Rd W W.heap.size A n a) => Lib.hid (dec_any A n c a W h' hca)
  have Db := fun (W : World) (h' : Rd W W.heap.size A2 n2 b) => Lib.hid (dec_any A2 n2 c2 b W h' hcb)
  rw [decV_ok hea, hea] at Da
  unfold crownV at Da
  rw [decV_ok heb, heb] at Db
  unfold crownV at Db
  have hg1 : (numAt a 2 == numAt b 2) = false := by rw [beq_eq_false_iff_ne]; omega
  have hg2 : ¬ numAt b 2 < numAt a 2 := by omega
  clear hg
  have X1 := Lib.hid ((hra.alloc (Nat.le_refl _) (.cells #[.int .i64 0, .int .i64 0, .int .i64 0, .float .f64 0, .int .i64 0, .int .i64 0, .int .i64 0, .int .i64 0] 51)).more (B' := (w.alloc (.cells #[.int .i64 0, .int .i64 0, .int .i64 0, .float .f64 0, .int .i64 0, .int .i64 0, .int .i64 0, .int .i64 0] 51)).heap.size) (by simp))
  have Y1 := Lib.hid ((hrb.alloc (Nat.le_refl _) (.cells #[.int .i64 0, .int .i64 0, .int .i64 0, .float .f64 0, .int .i64 0, .int .i64 0, .int .i64 0, .int .i64 0] 51)).more (B' := (w.alloc (.cells #[.int .i64 0, .int .i64 0, .int .i64 0, .float .f64 0, .int .i64 0, .int .i64 0, .int .i64 0, .int .i64 0] 51)).heap.size) (by simp))
  have Q1 := Lib.hid (Blk.new w 51 #[.int .i64 0, .int .i64 0, .int .i64 0, .float .f64 0, .int .i64 0, .int .i64 0, .int .i64 0, .int .i64 0])
  have B1 := Lib.hid ((Below.refl w.heap.size w).alloc (Nat.le_refl _) (.cells #[.int .i64 0, .int .i64 0, .int .i64 0, .float .f64 0, .int .i64 0, .int .i64 0, .int .i64 0, .int .i64 0] 51))
  have s1 : (w.alloc (.cells #[.int .i64 0, .int .i64 0, .int .i64 0, .float .f64 0, .int .i64 0, .int .i64 0, .int .i64 0, .int .i64 0] 51)).heap.size = w.heap.size + 1 := by simp
  have hst := storeFloat
  clear hra hrb
  go_enter Try.func38, Try.ntmps38
  go_upto_region 1 with fail
  generalize w.alloc (.cells #[.int .i64 0, .int .i64 0, .int .i64 0, .float .f64 0, .int .i64 0, .int .i64 0, .int .i64 0, .int .i64 0] 51) = w1 at *
  go_wp2_with fail
  refine (BA _ X1.out).out.mono ?_
  rintro e w2 ⟨rfl, hb2⟩
  have s2 := hb2.size
  have X2 := Lib.hid ((X1.out.below hb2).more s2)
  have Y2 := Lib.hid ((Y1.out.below hb2).more s2)
  have Q2 := Lib.hid (Q1.out.below hb2 (by omega))
  have B2 := Lib.hid (B1.out.trans (hb2.mono (by omega)))
  clear hb2 X1 Y1 Q1 B1
  go_wp2_with fail
  refine (BA _ X2.out).out.mono ?_
  rintro e w3 ⟨rfl, hb3⟩
  have s3 := hb3.size
  have X3 := Lib.hid ((X2.out.below hb3).more s3)
  have Y3 := Lib.hid ((Y2.out.below hb3).more s3)
  have Q3 := Lib.hid (Q2.out.below hb3 (by omega))
  have B3 := Lib.hid (B2.out.trans (hb3.mono (by omega)))
  clear hb3 X2 Y2 Q2 B2
  go_wp2_with fail
  refine (BB _ Y3.out).out.mono ?_
  rintro e w4 ⟨rfl, hb4⟩
  have s4 := hb4.size
  have X4 := Lib.hid ((X3.out.below hb4).more s4)
  have Y4 := Lib.hid ((Y3.out.below hb4).more s4)
  have Q4 := Lib.hid (Q3.out.below hb4 (by omega))
  have B4 := Lib.hid (B3.out.trans (hb4.mono (by omega)))
  clear hb4 X3 Y3 Q3 B3
  go_wp2_with fail
  refine (Da _ X4.out).out.mono ?_
  rintro e v5 ⟨rfl, hb5⟩
  have t5 := hb5.size
  have X5 := Lib.hid ((((X4.out.below hb5).more t5).alloc (Nat.le_refl _) (.cells #[.int .i64 (numAt a 2), .int .i64 (numAt a 6), .int .i64 (numAt a 10), .float .f64 (gainAt a), .int .i64 (numAt a 14), .int .i64 (numAt a 18), .int .i64 (numAt a 22), .int .i64 (numAt a 26)] 51)).more (B' := (v5.alloc (.cells #[.int .i64 (numAt a 2), .int .i64 (numAt a 6), .int .i64 (numAt a 10), .float .f64 (gainAt a), .int .i64 (numAt a 14), .int .i64 (numAt a 18), .int .i64 (numAt a 22), .int .i64 (numAt a 26)] 51)).heap.size) (by simp))
  have Y5 := Lib.hid ((((Y4.out.below hb5).more t5).alloc (Nat.le_refl _) (.cells #[.int .i64 (numAt a 2), .int .i64 (numAt a 6), .int .i64 (numAt a 10), .float .f64 (gainAt a), .int .i64 (numAt a 14), .int .i64 (numAt a 18), .int .i64 (numAt a 22), .int .i64 (numAt a 26)] 51)).more (B' := (v5.alloc (.cells #[.int .i64 (numAt a 2), .int .i64 (numAt a 6), .int .i64 (numAt a 10), .float .f64 (gainAt a), .int .i64 (numAt a 14), .int .i64 (numAt a 18), .int .i64 (numAt a 22), .int .i64 (numAt a 26)] 51)).heap.size) (by simp))
  have Q5 := Lib.hid ((Q4.out.below hb5 (by omega)).alloc (.cells #[.int .i64 (numAt a 2), .int .i64 (numAt a 6), .int .i64 (numAt a 10), .float .f64 (gainAt a), .int .i64 (numAt a 14), .int .i64 (numAt a 18), .int .i64 (numAt a 22), .int .i64 (numAt a 26)] 51))
  have B5 := Lib.hid ((B4.out.trans (hb5.mono (by omega))).alloc (by omega) (.cells #[.int .i64 (numAt a 2), .int .i64 (numAt a 6), .int .i64 (numAt a 10), .float .f64 (gainAt a), .int .i64 (numAt a 14), .int .i64 (numAt a 18), .int .i64 (numAt a 22), .int .i64 (numAt a 26)] 51))
  have Na := Lib.hid (Blk.new v5 51 #[.int .i64 (numAt a 2), .int .i64 (numAt a 6), .int .i64 (numAt a 10), .float .f64 (gainAt a), .int .i64 (numAt a 14), .int .i64 (numAt a 18), .int .i64 (numAt a 22), .int .i64 (numAt a 26)])
  have s5 : (v5.alloc (.cells #[.int .i64 (numAt a 2), .int .i64 (numAt a 6), .int .i64 (numAt a 10), .float .f64 (gainAt a), .int .i64 (numAt a 14), .int .i64 (numAt a 18), .int .i64 (numAt a 22), .int .i64 (numAt a 26)] 51)).heap.size = v5.heap.size + 1 := by simp
  go_upto_region 8 with fail
  generalize hW5 : v5.alloc (.cells #[.int .i64 (numAt a 2), .int .i64 (numAt a 6), .int .i64 (numAt a 10), .float .f64 (gainAt a), .int .i64 (numAt a 14), .int .i64 (numAt a 18), .int .i64 (numAt a 22), .int .i64 (numAt a 26)] 51) = w5 at *
  clear hW5 hb5 X4 Y4 Q4 B4
  go_wp2_with fail
  refine (Db _ Y5.out).out.mono ?_
  rintro e v6 ⟨rfl, hb6⟩
  have t6 := hb6.size
  have X6 := Lib.hid ((((X5.out.below hb6).more t6).alloc (Nat.le_refl _) (.cells #[.int .i64 (numAt b 2), .int .i64 (numAt b 6), .int .i64 (numAt b 10), .float .f64 (gainAt b), .int .i64 (numAt b 14), .int .i64 (numAt b 18), .int .i64 (numAt b 22), .int .i64 (numAt b 26)] 51)).more (B' := (v6.alloc (.cells #[.int .i64 (numAt b 2), .int .i64 (numAt b 6), .int .i64 (numAt b 10), .float .f64 (gainAt b), .int .i64 (numAt b 14), .int .i64 (numAt b 18), .int .i64 (numAt b 22), .int .i64 (numAt b 26)] 51)).heap.size) (by simp))
  have Y6 := Lib.hid ((((Y5.out.below hb6).more t6).alloc (Nat.le_refl _) (.cells #[.int .i64 (numAt b 2), .int .i64 (numAt b 6), .int .i64 (numAt b 10), .float .f64 (gainAt b), .int .i64 (numAt b 14), .int .i64 (numAt b 18), .int .i64 (numAt b 22), .int .i64 (numAt b 26)] 51)).more (B' := (v6.alloc (.cells #[.int .i64 (numAt b 2), .int .i64 (numAt b 6), .int .i64 (numAt b 10), .float .f64 (gainAt b), .int .i64 (numAt b 14), .int .i64 (numAt b 18), .int .i64 (numAt b 22), .int .i64 (numAt b 26)] 51)).heap.size) (by simp))
  have Q6 := Lib.hid ((Q5.out.below hb6 (by omega)).alloc (.cells #[.int .i64 (numAt b 2), .int .i64 (numAt b 6), .int .i64 (numAt b 10), .float .f64 (gainAt b), .int .i64 (numAt b 14), .int .i64 (numAt b 18), .int .i64 (numAt b 22), .int .i64 (numAt b 26)] 51))
  have B6 := Lib.hid ((B5.out.trans (hb6.mono (by omega))).alloc (by omega) (.cells #[.int .i64 (numAt b 2), .int .i64 (numAt b 6), .int .i64 (numAt b 10), .float .f64 (gainAt b), .int .i64 (numAt b 14), .int .i64 (numAt b 18), .int .i64 (numAt b 22), .int .i64 (numAt b 26)] 51))
  have Nb := Lib.hid (Blk.new v6 51 #[.int .i64 (numAt b 2), .int .i64 (numAt b 6), .int .i64 (numAt b 10), .float .f64 (gainAt b), .int .i64 (numAt b 14), .int .i64 (numAt b 18), .int .i64 (numAt b 22), .int .i64 (numAt b 26)])
  have s6 : (v6.alloc (.cells #[.int .i64 (numAt b 2), .int .i64 (numAt b 6), .int .i64 (numAt b 10), .float .f64 (gainAt b), .int .i64 (numAt b 14), .int .i64 (numAt b 18), .int .i64 (numAt b 22), .int .i64 (numAt b 26)] 51)).heap.size = v6.heap.size + 1 := by simp
  have Na := Lib.hid ((Na.out.below hb6 (by omega)).alloc (.cells #[.int .i64 (numAt b 2), .int .i64 (numAt b 6), .int .i64 (numAt b 10), .float .f64 (gainAt b), .int .i64 (numAt b 14), .int .i64 (numAt b 18), .int .i64 (numAt b 22), .int .i64 (numAt b 26)] 51))
  go_upto_region 9 with fail
  generalize hW6 : v6.alloc (.cells #[.int .i64 (numAt b 2), .int .i64 (numAt b 6), .int .i64 (numAt b 10), .float .f64 (gainAt b), .int .i64 (numAt b 14), .int .i64 (numAt b 18), .int .i64 (numAt b 22), .int .i64 (numAt b 26)] 51) = w6 at *
  clear hW6 hb6 X5 Y5 Q5 B5
  have k0 := Na.out.cell 0
  have k1 := Na.out.cell 1
  have k2 := Na.out.cell 2
  have k3 := Na.out.cell 3
  have k4 := Na.out.cell 4
  have k5 := Na.out.cell 5
  have k6 := Na.out.cell 6
  have k7 := Na.out.cell 7
  simp at k0 k1 k2 k3 k4 k5 k6 k7
  have d0 := Nb.out.cell 0
  have d1 := Nb.out.cell 1
  have d2 := Nb.out.cell 2
  have d3 := Nb.out.cell 3
  have d4 := Nb.out.cell 4
  have d5 := Nb.out.cell 5
  have d6 := Nb.out.cell 6
  have d7 := Nb.out.cell 7
  simp at d0 d1 d2 d3 d4 d5 d6 d7
  have q0 := Q6.out.cell 0
  have g0 := Q6.out.frozen 0
  have q1 := Q6.out.cell 1
  have g1 := Q6.out.frozen 1
  have q2 := Q6.out.cell 2
  have g2 := Q6.out.frozen 2
  have q3 := Q6.out.cell 3
  have g3 := Q6.out.frozen 3
  have q4 := Q6.out.cell 4
  have g4 := Q6.out.frozen 4
  have q5 := Q6.out.cell 5
  have g5 := Q6.out.frozen 5
  have q6 := Q6.out.cell 6
  have g6 := Q6.out.frozen 6
  have q7 := Q6.out.cell 7
  have g7 := Q6.out.frozen 7
  simp at q0 q1 q2 q3 q4 q5 q6 q7
  go_wp2_with fail
  have Y := ((((((((Q6.out).set_ 0 (.int .i64 (numAt b 2))).set_ 1 (.int .i64 (numAt b 6))).set_ 2 (.int .i64 (numAt b 10))).set_ 3 (.float .f64 (gainAt b))).set_ 4 (.int .i64 (numAt b 14))).set_ 5 (.int .i64 (numAt b 18))).set_ 6 (.int .i64 (numAt b 22))).set_ 7 (.int .i64 (numAt b 26))
  have BY := ((((((((B6.out).setCell (p := ⟨w.heap.size, 0, none⟩) (Nat.le_refl _) (.int .i64 (numAt b 2))).setCell (p := ⟨w.heap.size, 1, none⟩) (Nat.le_refl _) (.int .i64 (numAt b 6))).setCell (p := ⟨w.heap.size, 2, none⟩) (Nat.le_refl _) (.int .i64 (numAt b 10))).setCell (p := ⟨w.heap.size, 3, none⟩) (Nat.le_refl _) (.float .f64 (gainAt b))).setCell (p := ⟨w.heap.size, 4, none⟩) (Nat.le_refl _) (.int .i64 (numAt b 14))).setCell (p := ⟨w.heap.size, 5, none⟩) (Nat.le_refl _) (.int .i64 (numAt b 18))).setCell (p := ⟨w.heap.size, 6, none⟩) (Nat.le_refl _) (.int .i64 (numAt b 22))).setCell (p := ⟨w.heap.size, 7, none⟩) (Nat.le_refl _) (.int .i64 (numAt b 26))
  generalize ((((((((w6.setCell ⟨w.heap.size, 0, none⟩ (.int .i64 (numAt b 2))).setCell ⟨w.heap.size, 1, none⟩ (.int .i64 (numAt b 6))).setCell ⟨w.heap.size, 2, none⟩ (.int .i64 (numAt b 10))).setCell ⟨w.heap.size, 3, none⟩ (.float .f64 (gainAt b))).setCell ⟨w.heap.size, 4, none⟩ (.int .i64 (numAt b 14))).setCell ⟨w.heap.size, 5, none⟩ (.int .i64 (numAt b 18))).setCell ⟨w.heap.size, 6, none⟩ (.int .i64 (numAt b 22))).setCell ⟨w.heap.size, 7, none⟩ (.int .i64 (numAt b 26))) = wz at *
  have y0 := Y.cell 0
  have y1 := Y.cell 1
  have y2 := Y.cell 2
  have y3 := Y.cell 3
  have y4 := Y.cell 4
  have y5 := Y.cell 5
  have y6 := Y.cell 6
  have y7 := Y.cell 7
  simp at y0 y1 y2 y3 y4 y5 y6 y7
  (try simp only [Exit.inBlock, Exit.then])
  refine bodyPost_ret (by simp [results, Try.results38, go_sem, y0, y1, y2, y3, y4, y5, y6, y7]; try rfl) rfl ?_
  exact ⟨rfl, BY⟩

/-- What Choose says of two blocks. -/
def chooseR (a b : List B8) : Value × Int × Int :=
  if blankB a then (if blankB b then (zeroV, 0, 8) else (aloneV b, aloneN b 1, aloneE b))
  else if blankB b then (aloneV a, aloneN a 0, aloneE a)
  else if decE a = 0 ∧ decE b = 0 then (if numAt a 2 = numAt b 2 then (zeroV, 0, 4) else if numAt b 2 < numAt a 2 then (crownV a, 0, 0) else (crownV b, 1, 0))
  else (zeroV, 0, 5)
theorem choose_any (A : Option Addr) (n c : Nat) (a : List B8) (A2 : Option Addr) (n2 c2 : Nat) (b : List B8) (w : World) (hra : Rd w w.heap.size A n a) (hca : n ≤ c) (hrb : Rd w w.heap.size A2 n2 b) (hcb : n2 ≤ c2) :
    Calls Try.prog 38 #[.slice A n c, .slice A2 n2 c2] w fun e w' => e = .returned (.tuple #[(chooseR a b).1, .int .i64 (chooseR a b).2.1, .int .i64 (chooseR a b).2.2]) ∧ Below w.heap.size w w' := by
  unfold chooseR
  rcases tf (blankB a) with h1 | h1 <;> rcases tf (blankB b) with h2 | h2 <;> simp only [h1, h2, if_true, Bool.false_eq_true, if_false]
  · exact ch_both A n c a A2 n2 c2 b w hra hca hrb hcb h1 h2
  · unfold aloneV aloneN aloneE
    rcases tf (oneB b) with h | h <;> simp only [h, if_true, Bool.false_eq_true, if_false]
    · exact ch_b_one A n c a A2 n2 c2 b w hra hca hrb hcb h1 h2 h
    · exact ch_b_no A n c a A2 n2 c2 b w hra hca hrb hcb h1 h2 h
  · unfold aloneV aloneN aloneE
    rcases tf (oneB a) with h | h <;> simp only [h, if_true, Bool.false_eq_true, if_false]
    · exact ch_a_one A n c a A2 n2 c2 b w hra hca hrb hcb h1 h2 h
    · exact ch_a_no A n c a A2 n2 c2 b w hra hca hrb hcb h1 h2 h
  · by_cases ha : decE a = 0 <;> by_cases hb : decE b = 0
    · rw [if_pos ⟨ha, hb⟩]
      by_cases hg : numAt a 2 = numAt b 2
      · rw [if_pos hg]; exact ch_same A n c a A2 n2 c2 b w hra hca hrb hcb h1 h2 ha hb hg
      · rw [if_neg hg]
        by_cases hl : numAt b 2 < numAt a 2
        · rw [if_pos hl]; exact ch_gt A n c a A2 n2 c2 b w hra hca hrb hcb h1 h2 ha hb hl
        · rw [if_neg hl]; exact ch_lt A n c a A2 n2 c2 b w hra hca hrb hcb h1 h2 ha hb (by omega)
    · rw [if_neg (by intro h; exact hb h.2)]; exact ch_bad2 A n c a A2 n2 c2 b w hra hca hrb hcb h1 h2 ha hb
    · rw [if_neg (by intro h; exact ha h.1)]; exact ch_bad1x A n c a A2 n2 c2 b w hra hca hrb hcb h1 h2 ha hb
    · rw [if_neg (by intro h; exact ha h.1)]; exact ch_bad1y A n c a A2 n2 c2 b w hra hca hrb hcb h1 h2 ha hb
end Go.Proofs.Ythhgmanoifpoiaa

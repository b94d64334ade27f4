/- The contract of the document's Choose. -/
import Derived.Test.YthhgmanoifpoiaaCrJ
import Derived.Test.YthhgmanoifpoiaaCrB2
namespace Go.Proofs.Ythhgmanoifpoiaa
open Go.RowKit
set_option linter.unusedVariables false

set_option maxHeartbeats 4000000 in
theorem rc_both (A : Option Addr) (n c : Nat) (a : List B8) (A2 : Option Addr) (n2 c2 : Nat) (b : List B8) (w : World) (hra : Rd w w.heap.size A n a) (hca : n ≤ c) (hrb : Rd w w.heap.size A2 n2 b) (hcb : n2 ≤ c2) (hn : n ≤ 500) (hn2 : n2 ≤ 500) (hba : blankB a = true) (hbb : blankB b = true) (hea : ¬ decE a = 0) (heb : ¬ decE b = 0)  :
    Calls Try.prog 39 #[.slice A n c, .slice A2 n2 c2] w fun e w' => e = .returned (.tuple #[zeroV, .int .i64 0, .int .i64 8]) ∧ Below w.heap.size w w' := by
  have hst := storeFloat
  have BA := fun (W : World) (h' : Rd W W.heap.size A n a) => Lib.hid (refBlank_any A n c a W.heap.size W h' (by omega))
  rw [hba] at BA
  have BB := fun (W : World) (h' : Rd W W.heap.size A2 n2 b) => Lib.hid (refBlank_any A2 n2 c2 b W.heap.size W h' (by omega))
  rw [hbb] at BB
  have Da := fun (W : World) (h' : Rd W W.heap.size A n a) => Lib.hid (refDec_any A n c a W h' hca)
  have Db := fun (W : World) (h' : Rd W W.heap.size A2 n2 b) => Lib.hid (refDec_any A2 n2 c2 b W h' hcb)
  rw [decV_bad hea] at Da
  unfold zeroV at Da
  generalize hEa : decE a = Ea at *
  have ma : (Ea != 0) = true := by rw [bne_iff_ne]; exact hea
  have ma' : (Ea == 0) = false := by rw [beq_eq_false_iff_ne]; exact hea
  clear hEa
  rw [decV_bad heb] at Db
  unfold zeroV at Db
  generalize hEb : decE b = Eb at *
  have mb : (Eb != 0) = true := by rw [bne_iff_ne]; exact heb
  have mb' : (Eb == 0) = false := by rw [beq_eq_false_iff_ne]; exact heb
  clear hEb
  have X1 := Lib.hid ((hra.alloc (Nat.le_refl _) (.cells #[.int .i64 0, .int .i64 0, .int .i64 0, .float .f64 0, .int .i64 0, .int .i64 0, .int .i64 0, .int .i64 0] 42)).more (B' := (w.alloc (.cells #[.int .i64 0, .int .i64 0, .int .i64 0, .float .f64 0, .int .i64 0, .int .i64 0, .int .i64 0, .int .i64 0] 42)).heap.size) (by simp))
  have Y1 := Lib.hid ((hrb.alloc (Nat.le_refl _) (.cells #[.int .i64 0, .int .i64 0, .int .i64 0, .float .f64 0, .int .i64 0, .int .i64 0, .int .i64 0, .int .i64 0] 42)).more (B' := (w.alloc (.cells #[.int .i64 0, .int .i64 0, .int .i64 0, .float .f64 0, .int .i64 0, .int .i64 0, .int .i64 0, .int .i64 0] 42)).heap.size) (by simp))
  have Q1 := Lib.hid (Blk.new w 42 #[.int .i64 0, .int .i64 0, .int .i64 0, .float .f64 0, .int .i64 0, .int .i64 0, .int .i64 0, .int .i64 0])
  have B1 := Lib.hid ((Below.refl w.heap.size w).alloc (Nat.le_refl _) (.cells #[.int .i64 0, .int .i64 0, .int .i64 0, .float .f64 0, .int .i64 0, .int .i64 0, .int .i64 0, .int .i64 0] 42))
  have s1 : (w.alloc (.cells #[.int .i64 0, .int .i64 0, .int .i64 0, .float .f64 0, .int .i64 0, .int .i64 0, .int .i64 0, .int .i64 0] 42)).heap.size = w.heap.size + 1 := by simp
  clear hra hrb
  go_enter Try.func39, Try.ntmps39
  go_upto_region 1 with fail
  generalize w.alloc (.cells #[.int .i64 0, .int .i64 0, .int .i64 0, .float .f64 0, .int .i64 0, .int .i64 0, .int .i64 0, .int .i64 0] 42) = w1 at *
  go_wp2_with fail
  refine (Da _ X1.out).out.mono ?_
  rintro e v2 ⟨rfl, hb2⟩
  have t2 := hb2.size
  have X2 := Lib.hid ((((X1.out.below hb2).more t2).alloc (Nat.le_refl _) (.cells #[.int .i64 0, .int .i64 0, .int .i64 0, .float .f64 0, .int .i64 0, .int .i64 0, .int .i64 0, .int .i64 0] 42)).more (B' := (v2.alloc (.cells #[.int .i64 0, .int .i64 0, .int .i64 0, .float .f64 0, .int .i64 0, .int .i64 0, .int .i64 0, .int .i64 0] 42)).heap.size) (by simp))
  have Y2 := Lib.hid ((((Y1.out.below hb2).more t2).alloc (Nat.le_refl _) (.cells #[.int .i64 0, .int .i64 0, .int .i64 0, .float .f64 0, .int .i64 0, .int .i64 0, .int .i64 0, .int .i64 0] 42)).more (B' := (v2.alloc (.cells #[.int .i64 0, .int .i64 0, .int .i64 0, .float .f64 0, .int .i64 0, .int .i64 0, .int .i64 0, .int .i64 0] 42)).heap.size) (by simp))
  have Q2 := Lib.hid ((Q1.out.below hb2 (by omega)).alloc (.cells #[.int .i64 0, .int .i64 0, .int .i64 0, .float .f64 0, .int .i64 0, .int .i64 0, .int .i64 0, .int .i64 0] 42))
  have B2 := Lib.hid ((B1.out.trans (hb2.mono (by omega))).alloc (by omega) (.cells #[.int .i64 0, .int .i64 0, .int .i64 0, .float .f64 0, .int .i64 0, .int .i64 0, .int .i64 0, .int .i64 0] 42))
  have Na := Lib.hid (Blk.new v2 42 #[.int .i64 0, .int .i64 0, .int .i64 0, .float .f64 0, .int .i64 0, .int .i64 0, .int .i64 0, .int .i64 0])
  have s2 : (v2.alloc (.cells #[.int .i64 0, .int .i64 0, .int .i64 0, .float .f64 0, .int .i64 0, .int .i64 0, .int .i64 0, .int .i64 0] 42)).heap.size = v2.heap.size + 1 := by simp
  go_upto_region 2 with fail
  generalize hW2 : v2.alloc (.cells #[.int .i64 0, .int .i64 0, .int .i64 0, .float .f64 0, .int .i64 0, .int .i64 0, .int .i64 0, .int .i64 0] 42) = w2 at *
  clear hW2 hb2 X1 Y1 Q1 B1
  go_wp2_with fail
  refine (Db _ Y2.out).out.mono ?_
  rintro e v3 ⟨rfl, hb3⟩
  have t3 := hb3.size
  have X3 := Lib.hid ((((X2.out.below hb3).more t3).alloc (Nat.le_refl _) (.cells #[.int .i64 0, .int .i64 0, .int .i64 0, .float .f64 0, .int .i64 0, .int .i64 0, .int .i64 0, .int .i64 0] 42)).more (B' := (v3.alloc (.cells #[.int .i64 0, .int .i64 0, .int .i64 0, .float .f64 0, .int .i64 0, .int .i64 0, .int .i64 0, .int .i64 0] 42)).heap.size) (by simp))
  have Y3 := Lib.hid ((((Y2.out.below hb3).more t3).alloc (Nat.le_refl _) (.cells #[.int .i64 0, .int .i64 0, .int .i64 0, .float .f64 0, .int .i64 0, .int .i64 0, .int .i64 0, .int .i64 0] 42)).more (B' := (v3.alloc (.cells #[.int .i64 0, .int .i64 0, .int .i64 0, .float .f64 0, .int .i64 0, .int .i64 0, .int .i64 0, .int .i64 0] 42)).heap.size) (by simp))
  have Q3 := Lib.hid ((Q2.out.below hb3 (by omega)).alloc (.cells #[.int .i64 0, .int .i64 0, .int .i64 0, .float .f64 0, .int .i64 0, .int .i64 0, .int .i64 0, .int .i64 0] 42))
  have B3 := Lib.hid ((B2.out.trans (hb3.mono (by omega))).alloc (by omega) (.cells #[.int .i64 0, .int .i64 0, .int .i64 0, .float .f64 0, .int .i64 0, .int .i64 0, .int .i64 0, .int .i64 0] 42))
  have Nb := Lib.hid (Blk.new v3 42 #[.int .i64 0, .int .i64 0, .int .i64 0, .float .f64 0, .int .i64 0, .int .i64 0, .int .i64 0, .int .i64 0])
  have s3 : (v3.alloc (.cells #[.int .i64 0, .int .i64 0, .int .i64 0, .float .f64 0, .int .i64 0, .int .i64 0, .int .i64 0, .int .i64 0] 42)).heap.size = v3.heap.size + 1 := by simp
  have Na := Lib.hid ((Na.out.below hb3 (by omega)).alloc (.cells #[.int .i64 0, .int .i64 0, .int .i64 0, .float .f64 0, .int .i64 0, .int .i64 0, .int .i64 0, .int .i64 0] 42))
  go_upto_region 3 with fail
  generalize hW3 : v3.alloc (.cells #[.int .i64 0, .int .i64 0, .int .i64 0, .float .f64 0, .int .i64 0, .int .i64 0, .int .i64 0, .int .i64 0] 42) = w3 at *
  clear hW3 hb3 X2 Y2 Q2 B2
  go_wp2_with fail
  refine (BA _ X3.out).out.mono ?_
  rintro e w' ⟨rfl, rfl⟩
  go_wp2_with fail
  refine (BB _ Y3.out).out.mono ?_
  rintro e w' ⟨rfl, rfl⟩
  go_upto_region 4 with fail
  have q0 := Q3.out.cell 0
  have g0 := Q3.out.frozen 0
  have q1 := Q3.out.cell 1
  have g1 := Q3.out.frozen 1
  have q2 := Q3.out.cell 2
  have g2 := Q3.out.frozen 2
  have q3 := Q3.out.cell 3
  have g3 := Q3.out.frozen 3
  have q4 := Q3.out.cell 4
  have g4 := Q3.out.frozen 4
  have q5 := Q3.out.cell 5
  have g5 := Q3.out.frozen 5
  have q6 := Q3.out.cell 6
  have g6 := Q3.out.frozen 6
  have q7 := Q3.out.cell 7
  have g7 := Q3.out.frozen 7
  simp at q0 q1 q2 q3 q4 q5 q6 q7
  go_wp2_with fail
  have Y := ((((((((Q3.out).set_ 0 (.int .i64 0)).set_ 1 (.int .i64 0)).set_ 2 (.int .i64 0)).set_ 3 (.float .f64 0)).set_ 4 (.int .i64 0)).set_ 5 (.int .i64 0)).set_ 6 (.int .i64 0)).set_ 7 (.int .i64 0)
  have BY := ((((((((B3.out).setCell (p := ⟨w.heap.size, 0, none⟩) (Nat.le_refl _) (.int .i64 0)).setCell (p := ⟨w.heap.size, 1, none⟩) (Nat.le_refl _) (.int .i64 0)).setCell (p := ⟨w.heap.size, 2, none⟩) (Nat.le_refl _) (.int .i64 0)).setCell (p := ⟨w.heap.size, 3, none⟩) (Nat.le_refl _) (.float .f64 0)).setCell (p := ⟨w.heap.size, 4, none⟩) (Nat.le_refl _) (.int .i64 0)).setCell (p := ⟨w.heap.size, 5, none⟩) (Nat.le_refl _) (.int .i64 0)).setCell (p := ⟨w.heap.size, 6, none⟩) (Nat.le_refl _) (.int .i64 0)).setCell (p := ⟨w.heap.size, 7, none⟩) (Nat.le_refl _) (.int .i64 0)
  generalize ((((((((w3.setCell ⟨w.heap.size, 0, none⟩ (.int .i64 0)).setCell ⟨w.heap.size, 1, none⟩ (.int .i64 0)).setCell ⟨w.heap.size, 2, none⟩ (.int .i64 0)).setCell ⟨w.heap.size, 3, none⟩ (.float .f64 0)).setCell ⟨w.heap.size, 4, none⟩ (.int .i64 0)).setCell ⟨w.heap.size, 5, none⟩ (.int .i64 0)).setCell ⟨w.heap.size, 6, none⟩ (.int .i64 0)).setCell ⟨w.heap.size, 7, none⟩ (.int .i64 0)) = wz at *
  have y0 := Y.cell 0
  have y1 := Y.cell 1
  have y2 := Y.cell 2
  have y3 := Y.cell 3
  have y4 := Y.cell 4
  have y5 := Y.cell 5
  have y6 := Y.cell 6
  have y7 := Y.cell 7
  simp at y0 y1 y2 y3 y4 y5 y6 y7
  (try simp only [Exit.inBlock, Exit.then])
  refine bodyPost_ret (by simp [results, Try.results39, go_sem, y0, y1, y2, y3, y4, y5, y6, y7]; try rfl) rfl ?_
  exact ⟨rfl, BY⟩
set_option maxHeartbeats 4000000 in
theorem rc_b_one (A : Option Addr) (n c : Nat) (a : List B8) (A2 : Option Addr) (n2 c2 : Nat) (b : List B8) (w : World) (hra : Rd w w.heap.size A n a) (hca : n ≤ c) (hrb : Rd w w.heap.size A2 n2 b) (hcb : n2 ≤ c2) (hn : n ≤ 500) (hn2 : n2 ≤ 500) (hba : blankB a = true) (hbb : blankB b = false) (hea : ¬ decE a = 0) (heb : decE b = 0) (hg : numAt b 2 = 1) :
    Calls Try.prog 39 #[.slice A n c, .slice A2 n2 c2] w fun e w' => e = .returned (.tuple #[crownV b, .int .i64 1, .int .i64 0]) ∧ Below w.heap.size w w' := by
  have hst := storeFloat
  have BA := fun (W : World) (h' : Rd W W.heap.size A n a) => Lib.hid (refBlank_any A n c a W.heap.size W h' (by omega))
  rw [hba] at BA
  have BB := fun (W : World) (h' : Rd W W.heap.size A2 n2 b) => Lib.hid (refBlank_any A2 n2 c2 b W.heap.size W h' (by omega))
  rw [hbb] at BB
  have Da := fun (W : World) (h' : Rd W W.heap.size A n a) => Lib.hid (refDec_any A n c a W h' hca)
  have Db := fun (W : World) (h' : Rd W W.heap.size A2 n2 b) => Lib.hid (refDec_any A2 n2 c2 b W h' hcb)
  rw [decV_bad hea] at Da
  unfold zeroV at Da
  generalize hEa : decE a = Ea at *
  have ma : (Ea != 0) = true := by rw [bne_iff_ne]; exact hea
  have ma' : (Ea == 0) = false := by rw [beq_eq_false_iff_ne]; exact hea
  clear hEa
  rw [decV_ok heb, heb] at Db
  unfold crownV at Db
  have hg1 : (numAt b 2 == 1) = true := by first | (rw [beq_iff_eq]; exact hg) | (rw [beq_eq_false_iff_ne]; exact hg)
  clear hg
  have X1 := Lib.hid ((hra.alloc (Nat.le_refl _) (.cells #[.int .i64 0, .int .i64 0, .int .i64 0, .float .f64 0, .int .i64 0, .int .i64 0, .int .i64 0, .int .i64 0] 42)).more (B' := (w.alloc (.cells #[.int .i64 0, .int .i64 0, .int .i64 0, .float .f64 0, .int .i64 0, .int .i64 0, .int .i64 0, .int .i64 0] 42)).heap.size) (by simp))
  have Y1 := Lib.hid ((hrb.alloc (Nat.le_refl _) (.cells #[.int .i64 0, .int .i64 0, .int .i64 0, .float .f64 0, .int .i64 0, .int .i64 0, .int .i64 0, .int .i64 0] 42)).more (B' := (w.alloc (.cells #[.int .i64 0, .int .i64 0, .int .i64 0, .float .f64 0, .int .i64 0, .int .i64 0, .int .i64 0, .int .i64 0] 42)).heap.size) (by simp))
  have Q1 := Lib.hid (Blk.new w 42 #[.int .i64 0, .int .i64 0, .int .i64 0, .float .f64 0, .int .i64 0, .int .i64 0, .int .i64 0, .int .i64 0])
  have B1 := Lib.hid ((Below.refl w.heap.size w).alloc (Nat.le_refl _) (.cells #[.int .i64 0, .int .i64 0, .int .i64 0, .float .f64 0, .int .i64 0, .int .i64 0, .int .i64 0, .int .i64 0] 42))
  have s1 : (w.alloc (.cells #[.int .i64 0, .int .i64 0, .int .i64 0, .float .f64 0, .int .i64 0, .int .i64 0, .int .i64 0, .int .i64 0] 42)).heap.size = w.heap.size + 1 := by simp
  clear hra hrb
  go_enter Try.func39, Try.ntmps39
  go_upto_region 1 with fail
  generalize w.alloc (.cells #[.int .i64 0, .int .i64 0, .int .i64 0, .float .f64 0, .int .i64 0, .int .i64 0, .int .i64 0, .int .i64 0] 42) = w1 at *
  go_wp2_with fail
  refine (Da _ X1.out).out.mono ?_
  rintro e v2 ⟨rfl, hb2⟩
  have t2 := hb2.size
  have X2 := Lib.hid ((((X1.out.below hb2).more t2).alloc (Nat.le_refl _) (.cells #[.int .i64 0, .int .i64 0, .int .i64 0, .float .f64 0, .int .i64 0, .int .i64 0, .int .i64 0, .int .i64 0] 42)).more (B' := (v2.alloc (.cells #[.int .i64 0, .int .i64 0, .int .i64 0, .float .f64 0, .int .i64 0, .int .i64 0, .int .i64 0, .int .i64 0] 42)).heap.size) (by simp))
  have Y2 := Lib.hid ((((Y1.out.below hb2).more t2).alloc (Nat.le_refl _) (.cells #[.int .i64 0, .int .i64 0, .int .i64 0, .float .f64 0, .int .i64 0, .int .i64 0, .int .i64 0, .int .i64 0] 42)).more (B' := (v2.alloc (.cells #[.int .i64 0, .int .i64 0, .int .i64 0, .float .f64 0, .int .i64 0, .int .i64 0, .int .i64 0, .int .i64 0] 42)).heap.size) (by simp))
  have Q2 := Lib.hid ((Q1.out.below hb2 (by omega)).alloc (.cells #[.int .i64 0, .int .i64 0, .int .i64 0, .float .f64 0, .int .i64 0, .int .i64 0, .int .i64 0, .int .i64 0] 42))
  have B2 := Lib.hid ((B1.out.trans (hb2.mono (by omega))).alloc (by omega) (.cells #[.int .i64 0, .int .i64 0, .int .i64 0, .float .f64 0, .int .i64 0, .int .i64 0, .int .i64 0, .int .i64 0] 42))
  have Na := Lib.hid (Blk.new v2 42 #[.int .i64 0, .int .i64 0, .int .i64 0, .float .f64 0, .int .i64 0, .int .i64 0, .int .i64 0, .int .i64 0])
  have s2 : (v2.alloc (.cells #[.int .i64 0, .int .i64 0, .int .i64 0, .float .f64 0, .int .i64 0, .int .i64 0, .int .i64 0, .int .i64 0] 42)).heap.size = v2.heap.size + 1 := by simp
  go_upto_region 2 with fail
  generalize hW2 : v2.alloc (.cells #[.int .i64 0, .int .i64 0, .int .i64 0, .float .f64 0, .int .i64 0, .int .i64 0, .int .i64 0, .int .i64 0] 42) = w2 at *
  clear hW2 hb2 X1 Y1 Q1 B1
  go_wp2_with fail
  refine (Db _ Y2.out).out.mono ?_
  rintro e v3 ⟨rfl, hb3⟩
  have t3 := hb3.size
  have X3 := Lib.hid ((((X2.out.below hb3).more t3).alloc (Nat.le_refl _) (.cells #[.int .i64 (numAt b 2), .int .i64 (numAt b 6), .int .i64 (numAt b 10), .float .f64 (gainAt b), .int .i64 (numAt b 14), .int .i64 (numAt b 18), .int .i64 (numAt b 22), .int .i64 (numAt b 26)] 42)).more (B' := (v3.alloc (.cells #[.int .i64 (numAt b 2), .int .i64 (numAt b 6), .int .i64 (numAt b 10), .float .f64 (gainAt b), .int .i64 (numAt b 14), .int .i64 (numAt b 18), .int .i64 (numAt b 22), .int .i64 (numAt b 26)] 42)).heap.size) (by simp))
  have Y3 := Lib.hid ((((Y2.out.below hb3).more t3).alloc (Nat.le_refl _) (.cells #[.int .i64 (numAt b 2), .int .i64 (numAt b 6), .int .i64 (numAt b 10), .float .f64 (gainAt b), .int .i64 (numAt b 14), .int .i64 (numAt b 18), .int .i64 (numAt b 22), .int .i64 (numAt b 26)] 42)).more (B' := (v3.alloc (.cells #[.int .i64 (numAt b 2), .int .i64 (numAt b 6), .int .i64 (numAt b 10), .float .f64 (gainAt b), .int .i64 (numAt b 14), .int .i64 (numAt b 18), .int .i64 (numAt b 22), .int .i64 (numAt b 26)] 42)).heap.size) (by simp))
  have Q3 := Lib.hid ((Q2.out.below hb3 (by omega)).alloc (.cells #[.int .i64 (numAt b 2), .int .i64 (numAt b 6), .int .i64 (numAt b 10), .float .f64 (gainAt b), .int .i64 (numAt b 14), .int .i64 (numAt b 18), .int .i64 (numAt b 22), .int .i64 (numAt b 26)] 42))
  have B3 := Lib.hid ((B2.out.trans (hb3.mono (by omega))).alloc (by omega) (.cells #[.int .i64 (numAt b 2), .int .i64 (numAt b 6), .int .i64 (numAt b 10), .float .f64 (gainAt b), .int .i64 (numAt b 14), .int .i64 (numAt b 18), .int .i64 (numAt b 22), .int .i64 (numAt b 26)] 42))
  have Nb := Lib.hid (Blk.new v3 42 #[.int .i64 (numAt b 2), .int .i64 (numAt b 6), .int .i64 (numAt b 10), .float .f64 (gainAt b), .int .i64 (numAt b 14), .int .i64 (numAt b 18), .int .i64 (numAt b 22), .int .i64 (numAt b 26)])
  have s3 : (v3.alloc (.cells #[.int .i64 (numAt b 2), .int .i64 (numAt b 6), .int .i64 (numAt b 10), .float .f64 (gainAt b), .int .i64 (numAt b 14), .int .i64 (numAt b 18), .int .i64 (numAt b 22), .int .i64 (numAt b 26)] 42)).heap.size = v3.heap.size + 1 := by simp
  have Na := Lib.hid ((Na.out.below hb3 (by omega)).alloc (.cells #[.int .i64 (numAt b 2), .int .i64 (numAt b 6), .int .i64 (numAt b 10), .float .f64 (gainAt b), .int .i64 (numAt b 14), .int .i64 (numAt b 18), .int .i64 (numAt b 22), .int .i64 (numAt b 26)] 42))
  go_upto_region 3 with fail
  generalize hW3 : v3.alloc (.cells #[.int .i64 (numAt b 2), .int .i64 (numAt b 6), .int .i64 (numAt b 10), .float .f64 (gainAt b), .int .i64 (numAt b 14), .int .i64 (numAt b 18), .int .i64 (numAt b 22), .int .i64 (numAt b 26)] 42) = w3 at *
  clear hW3 hb3 X2 Y2 Q2 B2
  have d0 := Nb.out.cell 0
  have d1 := Nb.out.cell 1
  have d2 := Nb.out.cell 2
  have d3 := Nb.out.cell 3
  have d4 := Nb.out.cell 4
  have d5 := Nb.out.cell 5
  have d6 := Nb.out.cell 6
  have d7 := Nb.out.cell 7
  simp at d0 d1 d2 d3 d4 d5 d6 d7
  go_wp2_with fail
  refine (BA _ X3.out).out.mono ?_
  rintro e w' ⟨rfl, rfl⟩
  go_wp2_with fail
  refine (BB _ Y3.out).out.mono ?_
  rintro e w' ⟨rfl, rfl⟩
  go_wp2_with fail
  refine (BB _ Y3.out).out.mono ?_
  rintro e w' ⟨rfl, rfl⟩
  go_wp2_with fail
  refine (BA _ X3.out).out.mono ?_
  rintro e w' ⟨rfl, rfl⟩
  go_upto_region 8 with fail
  have q0 := Q3.out.cell 0
  have g0 := Q3.out.frozen 0
  have q1 := Q3.out.cell 1
  have g1 := Q3.out.frozen 1
  have q2 := Q3.out.cell 2
  have g2 := Q3.out.frozen 2
  have q3 := Q3.out.cell 3
  have g3 := Q3.out.frozen 3
  have q4 := Q3.out.cell 4
  have g4 := Q3.out.frozen 4
  have q5 := Q3.out.cell 5
  have g5 := Q3.out.frozen 5
  have q6 := Q3.out.cell 6
  have g6 := Q3.out.frozen 6
  have q7 := Q3.out.cell 7
  have g7 := Q3.out.frozen 7
  simp at q0 q1 q2 q3 q4 q5 q6 q7
  go_wp2_with fail
  have Y := ((((((((Q3.out).set_ 0 (.int .i64 (numAt b 2))).set_ 1 (.int .i64 (numAt b 6))).set_ 2 (.int .i64 (numAt b 10))).set_ 3 (.float .f64 (gainAt b))).set_ 4 (.int .i64 (numAt b 14))).set_ 5 (.int .i64 (numAt b 18))).set_ 6 (.int .i64 (numAt b 22))).set_ 7 (.int .i64 (numAt b 26))
  have BY := ((((((((B3.out).setCell (p := ⟨w.heap.size, 0, none⟩) (Nat.le_refl _) (.int .i64 (numAt b 2))).setCell (p := ⟨w.heap.size, 1, none⟩) (Nat.le_refl _) (.int .i64 (numAt b 6))).setCell (p := ⟨w.heap.size, 2, none⟩) (Nat.le_refl _) (.int .i64 (numAt b 10))).setCell (p := ⟨w.heap.size, 3, none⟩) (Nat.le_refl _) (.float .f64 (gainAt b))).setCell (p := ⟨w.heap.size, 4, none⟩) (Nat.le_refl _) (.int .i64 (numAt b 14))).setCell (p := ⟨w.heap.size, 5, none⟩) (Nat.le_refl _) (.int .i64 (numAt b 18))).setCell (p := ⟨w.heap.size, 6, none⟩) (Nat.le_refl _) (.int .i64 (numAt b 22))).setCell (p := ⟨w.heap.size, 7, none⟩) (Nat.le_refl _) (.int .i64 (numAt b 26))
  generalize ((((((((w3.setCell ⟨w.heap.size, 0, none⟩ (.int .i64 (numAt b 2))).setCell ⟨w.heap.size, 1, none⟩ (.int .i64 (numAt b 6))).setCell ⟨w.heap.size, 2, none⟩ (.int .i64 (numAt b 10))).setCell ⟨w.heap.size, 3, none⟩ (.float .f64 (gainAt b))).setCell ⟨w.heap.size, 4, none⟩ (.int .i64 (numAt b 14))).setCell ⟨w.heap.size, 5, none⟩ (.int .i64 (numAt b 18))).setCell ⟨w.heap.size, 6, none⟩ (.int .i64 (numAt b 22))).setCell ⟨w.heap.size, 7, none⟩ (.int .i64 (numAt b 26))) = wz at *
  have y0 := Y.cell 0
  have y1 := Y.cell 1
  have y2 := Y.cell 2
  have y3 := Y.cell 3
  have y4 := Y.cell 4
  have y5 := Y.cell 5
  have y6 := Y.cell 6
  have y7 := Y.cell 7
  simp at y0 y1 y2 y3 y4 y5 y6 y7
  (try simp only [Exit.inBlock, Exit.then])
  refine bodyPost_ret (by simp [results, Try.results39, go_sem, y0, y1, y2, y3, y4, y5, y6, y7]; try rfl) rfl ?_
  exact ⟨rfl, BY⟩
set_option maxHeartbeats 4000000 in
theorem rc_b_no (A : Option Addr) (n c : Nat) (a : List B8) (A2 : Option Addr) (n2 c2 : Nat) (b : List B8) (w : World) (hra : Rd w w.heap.size A n a) (hca : n ≤ c) (hrb : Rd w w.heap.size A2 n2 b) (hcb : n2 ≤ c2) (hn : n ≤ 500) (hn2 : n2 ≤ 500) (hba : blankB a = true) (hbb : blankB b = false) (hea : ¬ decE a = 0) (heb : decE b = 0) (hg : ¬ numAt b 2 = 1) :
    Calls Try.prog 39 #[.slice A n c, .slice A2 n2 c2] w fun e w' => e = .returned (.tuple #[zeroV, .int .i64 0, .int .i64 5]) ∧ Below w.heap.size w w' := by
  have hst := storeFloat
  have BA := fun (W : World) (h' : Rd W W.heap.size A n a) => Lib.hid (refBlank_any A n c a W.heap.size W h' (by omega))
  rw [hba] at BA
  have BB := fun (W : World) (h' : Rd W W.heap.size A2 n2 b) => Lib.hid (refBlank_any A2 n2 c2 b W.heap.size W h' (by omega))
  rw [hbb] at BB
  have Da := fun (W : World) (h' : Rd W W.heap.size A n a) => Lib.hid (refDec_any A n c a W h' hca)
  have Db := fun (W : World) (h' : Rd W W.heap.size A2 n2 b) => Lib.hid (refDec_any A2 n2 c2 b W h' hcb)
  rw [decV_bad hea] at Da
  unfold zeroV at Da
  generalize hEa : decE a = Ea at *
  have ma : (Ea != 0) = true := by rw [bne_iff_ne]; exact hea
  have ma' : (Ea == 0) = false := by rw [beq_eq_false_iff_ne]; exact hea
  clear hEa
  rw [decV_ok heb, heb] at Db
  unfold crownV at Db
  have hg1 : (numAt b 2 == 1) = false := by first | (rw [beq_iff_eq]; exact hg) | (rw [beq_eq_false_iff_ne]; exact hg)
  clear hg
  have X1 := Lib.hid ((hra.alloc (Nat.le_refl _) (.cells #[.int .i64 0, .int .i64 0, .int .i64 0, .float .f64 0, .int .i64 0, .int .i64 0, .int .i64 0, .int .i64 0] 42)).more (B' := (w.alloc (.cells #[.int .i64 0, .int .i64 0, .int .i64 0, .float .f64 0, .int .i64 0, .int .i64 0, .int .i64 0, .int .i64 0] 42)).heap.size) (by simp))
  have Y1 := Lib.hid ((hrb.alloc (Nat.le_refl _) (.cells #[.int .i64 0, .int .i64 0, .int .i64 0, .float .f64 0, .int .i64 0, .int .i64 0, .int .i64 0, .int .i64 0] 42)).more (B' := (w.alloc (.cells #[.int .i64 0, .int .i64 0, .int .i64 0, .float .f64 0, .int .i64 0, .int .i64 0, .int .i64 0, .int .i64 0] 42)).heap.size) (by simp))
  have Q1 := Lib.hid (Blk.new w 42 #[.int .i64 0, .int .i64 0, .int .i64 0, .float .f64 0, .int .i64 0, .int .i64 0, .int .i64 0, .int .i64 0])
  have B1 := Lib.hid ((Below.refl w.heap.size w).alloc (Nat.le_refl _) (.cells #[.int .i64 0, .int .i64 0, .int .i64 0, .float .f64 0, .int .i64 0, .int .i64 0, .int .i64 0, .int .i64 0] 42))
  have s1 : (w.alloc (.cells #[.int .i64 0, .int .i64 0, .int .i64 0, .float .f64 0, .int .i64 0, .int .i64 0, .int .i64 0, .int .i64 0] 42)).heap.size = w.heap.size + 1 := by simp
  clear hra hrb
  go_enter Try.func39, Try.ntmps39
  go_upto_region 1 with fail
  generalize w.alloc (.cells #[.int .i64 0, .int .i64 0, .int .i64 0, .float .f64 0, .int .i64 0, .int .i64 0, .int .i64 0, .int .i64 0] 42) = w1 at *
  go_wp2_with fail
  refine (Da _ X1.out).out.mono ?_
  rintro e v2 ⟨rfl, hb2⟩
  have t2 := hb2.size
  have X2 := Lib.hid ((((X1.out.below hb2).more t2).alloc (Nat.le_refl _) (.cells #[.int .i64 0, .int .i64 0, .int .i64 0, .float .f64 0, .int .i64 0, .int .i64 0, .int .i64 0, .int .i64 0] 42)).more (B' := (v2.alloc (.cells #[.int .i64 0, .int .i64 0, .int .i64 0, .float .f64 0, .int .i64 0, .int .i64 0, .int .i64 0, .int .i64 0] 42)).heap.size) (by simp))
  have Y2 := Lib.hid ((((Y1.out.below hb2).more t2).alloc (Nat.le_refl _) (.cells #[.int .i64 0, .int .i64 0, .int .i64 0, .float .f64 0, .int .i64 0, .int .i64 0, .int .i64 0, .int .i64 0] 42)).more (B' := (v2.alloc (.cells #[.int .i64 0, .int .i64 0, .int .i64 0, .float .f64 0, .int .i64 0, .int .i64 0, .int .i64 0, .int .i64 0] 42)).heap.size) (by simp))
  have Q2 := Lib.hid ((Q1.out.below hb2 (by omega)).alloc (.cells #[.int .i64 0, .int .i64 0, .int .i64 0, .float .f64 0, .int .i64 0, .int .i64 0, .int .i64 0, .int .i64 0] 42))
  have B2 := Lib.hid ((B1.out.trans (hb2.mono (by omega))).alloc (by omega) (.cells #[.int .i64 0, .int .i64 0, .int .i64 0, .float .f64 0, .int .i64 0, .int .i64 0, .int .i64 0, .int .i64 0] 42))
  have Na := Lib.hid (Blk.new v2 42 #[.int .i64 0, .int .i64 0, .int .i64 0, .float .f64 0, .int .i64 0, .int .i64 0, .int .i64 0, .int .i64 0])
  have s2 : (v2.alloc (.cells #[.int .i64 0, .int .i64 0, .int .i64 0, .float .f64 0, .int .i64 0, .int .i64 0, .int .i64 0, .int .i64 0] 42)).heap.size = v2.heap.size + 1 := by simp
  go_upto_region 2 with fail
  generalize hW2 : v2.alloc (.cells #[.int .i64 0, .int .i64 0, .int .i64 0, .float .f64 0, .int .i64 0, .int .i64 0, .int .i64 0, .int .i64 0] 42) = w2 at *
  clear hW2 hb2 X1 Y1 Q1 B1
  go_wp2_with fail
  refine (Db _ Y2.out).out.mono ?_
  rintro e v3 ⟨rfl, hb3⟩
  have t3 := hb3.size
  have X3 := Lib.hid ((((X2.out.below hb3).more t3).alloc (Nat.le_refl _) (.cells #[.int .i64 (numAt b 2), .int .i64 (numAt b 6), .int .i64 (numAt b 10), .float .f64 (gainAt b), .int .i64 (numAt b 14), .int .i64 (numAt b 18), .int .i64 (numAt b 22), .int .i64 (numAt b 26)] 42)).more (B' := (v3.alloc (.cells #[.int .i64 (numAt b 2), .int .i64 (numAt b 6), .int .i64 (numAt b 10), .float .f64 (gainAt b), .int .i64 (numAt b 14), .int .i64 (numAt b 18), .int .i64 (numAt b 22), .int .i64 (numAt b 26)] 42)).heap.size) (by simp))
  have Y3 := Lib.hid ((((Y2.out.below hb3).more t3).alloc (Nat.le_refl _) (.cells #[.int .i64 (numAt b 2), .int .i64 (numAt b 6), .int .i64 (numAt b 10), .float .f64 (gainAt b), .int .i64 (numAt b 14), .int .i64 (numAt b 18), .int .i64 (numAt b 22), .int .i64 (numAt b 26)] 42)).more (B' := (v3.alloc (.cells #[.int .i64 (numAt b 2), .int .i64 (numAt b 6), .int .i64 (numAt b 10), .float .f64 (gainAt b), .int .i64 (numAt b 14), .int .i64 (numAt b 18), .int .i64 (numAt b 22), .int .i64 (numAt b 26)] 42)).heap.size) (by simp))
  have Q3 := Lib.hid ((Q2.out.below hb3 (by omega)).alloc (.cells #[.int .i64 (numAt b 2), .int .i64 (numAt b 6), .int .i64 (numAt b 10), .float .f64 (gainAt b), .int .i64 (numAt b 14), .int .i64 (numAt b 18), .int .i64 (numAt b 22), .int .i64 (numAt b 26)] 42))
  have B3 := Lib.hid ((B2.out.trans (hb3.mono (by omega))).alloc (by omega) (.cells #[.int .i64 (numAt b 2), .int .i64 (numAt b 6), .int .i64 (numAt b 10), .float .f64 (gainAt b), .int .i64 (numAt b 14), .int .i64 (numAt b 18), .int .i64 (numAt b 22), .int .i64 (numAt b 26)] 42))
  have Nb := Lib.hid (Blk.new v3 42 #[.int .i64 (numAt b 2), .int .i64 (numAt b 6), .int .i64 (numAt b 10), .float .f64 (gainAt b), .int .i64 (numAt b 14), .int .i64 (numAt b 18), .int .i64 (numAt b 22), .int .i64 (numAt b 26)])
  have s3 : (v3.alloc (.cells #[.int .i64 (numAt b 2), .int .i64 (numAt b 6), .int .i64 (numAt b 10), .float .f64 (gainAt b), .int .i64 (numAt b 14), .int .i64 (numAt b 18), .int .i64 (numAt b 22), .int .i64 (numAt b 26)] 42)).heap.size = v3.heap.size + 1 := by simp
  have Na := Lib.hid ((Na.out.below hb3 (by omega)).alloc (.cells #[.int .i64 (numAt b 2), .int .i64 (numAt b 6), .int .i64 (numAt b 10), .float .f64 (gainAt b), .int .i64 (numAt b 14), .int .i64 (numAt b 18), .int .i64 (numAt b 22), .int .i64 (numAt b 26)] 42))
  go_upto_region 3 with fail
  generalize hW3 : v3.alloc (.cells #[.int .i64 (numAt b 2), .int .i64 (numAt b 6), .int .i64 (numAt b 10), .float .f64 (gainAt b), .int .i64 (numAt b 14), .int .i64 (numAt b 18), .int .i64 (numAt b 22), .int .i64 (numAt b 26)] 42) = w3 at *
  clear hW3 hb3 X2 Y2 Q2 B2
  have d0 := Nb.out.cell 0
  have d1 := Nb.out.cell 1
  have d2 := Nb.out.cell 2
  have d3 := Nb.out.cell 3
  have d4 := Nb.out.cell 4
  have d5 := Nb.out.cell 5
  have d6 := Nb.out.cell 6
  have d7 := Nb.out.cell 7
  simp at d0 d1 d2 d3 d4 d5 d6 d7
  go_wp2_with fail
  refine (BA _ X3.out).out.mono ?_
  rintro e w' ⟨rfl, rfl⟩
  go_wp2_with fail
  refine (BB _ Y3.out).out.mono ?_
  rintro e w' ⟨rfl, rfl⟩
  go_wp2_with fail
  refine (BB _ Y3.out).out.mono ?_
  rintro e w' ⟨rfl, rfl⟩
  go_wp2_with fail
  refine (BA _ X3.out).out.mono ?_
  rintro e w' ⟨rfl, rfl⟩
  go_upto_region 10 with fail
  have q0 := Q3.out.cell 0
  have g0 := Q3.out.frozen 0
  have q1 := Q3.out.cell 1
  have g1 := Q3.out.frozen 1
  have q2 := Q3.out.cell 2
  have g2 := Q3.out.frozen 2
  have q3 := Q3.out.cell 3
  have g3 := Q3.out.frozen 3
  have q4 := Q3.out.cell 4
  have g4 := Q3.out.frozen 4
  have q5 := Q3.out.cell 5
  have g5 := Q3.out.frozen 5
  have q6 := Q3.out.cell 6
  have g6 := Q3.out.frozen 6
  have q7 := Q3.out.cell 7
  have g7 := Q3.out.frozen 7
  simp at q0 q1 q2 q3 q4 q5 q6 q7
  go_wp2_with fail
  have Y := ((((((((Q3.out).set_ 0 (.int .i64 0)).set_ 1 (.int .i64 0)).set_ 2 (.int .i64 0)).set_ 3 (.float .f64 0)).set_ 4 (.int .i64 0)).set_ 5 (.int .i64 0)).set_ 6 (.int .i64 0)).set_ 7 (.int .i64 0)
  have BY := ((((((((B3.out).setCell (p := ⟨w.heap.size, 0, none⟩) (Nat.le_refl _) (.int .i64 0)).setCell (p := ⟨w.heap.size, 1, none⟩) (Nat.le_refl _) (.int .i64 0)).setCell (p := ⟨w.heap.size, 2, none⟩) (Nat.le_refl _) (.int .i64 0)).setCell (p := ⟨w.heap.size, 3, none⟩) (Nat.le_refl _) (.float .f64 0)).setCell (p := ⟨w.heap.size, 4, none⟩) (Nat.le_refl _) (.int .i64 0)).setCell (p := ⟨w.heap.size, 5, none⟩) (Nat.le_refl _) (.int .i64 0)).setCell (p := ⟨w.heap.size, 6, none⟩) (Nat.le_refl _) (.int .i64 0)).setCell (p := ⟨w.heap.size, 7, none⟩) (Nat.le_refl _) (.int .i64 0)
  generalize ((((((((w3.setCell ⟨w.heap.size, 0, none⟩ (.int .i64 0)).setCell ⟨w.heap.size, 1, none⟩ (.int .i64 0)).setCell ⟨w.heap.size, 2, none⟩ (.int .i64 0)).setCell ⟨w.heap.size, 3, none⟩ (.float .f64 0)).setCell ⟨w.heap.size, 4, none⟩ (.int .i64 0)).setCell ⟨w.heap.size, 5, none⟩ (.int .i64 0)).setCell ⟨w.heap.size, 6, none⟩ (.int .i64 0)).setCell ⟨w.heap.size, 7, none⟩ (.int .i64 0)) = wz at *
  have y0 := Y.cell 0
  have y1 := Y.cell 1
  have y2 := Y.cell 2
  have y3 := Y.cell 3
  have y4 := Y.cell 4
  have y5 := Y.cell 5
  have y6 := Y.cell 6
  have y7 := Y.cell 7
  simp at y0 y1 y2 y3 y4 y5 y6 y7
  (try simp only [Exit.inBlock, Exit.then])
  refine bodyPost_ret (by simp [results, Try.results39, go_sem, y0, y1, y2, y3, y4, y5, y6, y7]; try rfl) rfl ?_
  exact ⟨rfl, BY⟩
set_option maxHeartbeats 4000000 in
theorem rc_b_bad (A : Option Addr) (n c : Nat) (a : List B8) (A2 : Option Addr) (n2 c2 : Nat) (b : List B8) (w : World) (hra : Rd w w.heap.size A n a) (hca : n ≤ c) (hrb : Rd w w.heap.size A2 n2 b) (hcb : n2 ≤ c2) (hn : n ≤ 500) (hn2 : n2 ≤ 500) (hba : blankB a = true) (hbb : blankB b = false) (hea : ¬ decE a = 0) (heb : ¬ decE b = 0)  :
    Calls Try.prog 39 #[.slice A n c, .slice A2 n2 c2] w fun e w' => e = .returned (.tuple #[zeroV, .int .i64 0, .int .i64 5]) ∧ Below w.heap.size w w' := by
  have hst := storeFloat
  have BA := fun (W : World) (h' : Rd W W.heap.size A n a) => Lib.hid (refBlank_any A n c a W.heap.size W h' (by omega))
  rw [hba] at BA
  have BB := fun (W : World) (h' : Rd W W.heap.size A2 n2 b) => Lib.hid (refBlank_any A2 n2 c2 b W.heap.size W h' (by omega))
  rw [hbb] at BB
  have Da := fun (W : World) (h' : Rd W W.heap.size A n a) => Lib.hid (refDec_any A n c a W h' hca)
  have Db := fun (W : World) (h' : Rd W W.heap.size A2 n2 b) => Lib.hid (refDec_any A2 n2 c2 b W h' hcb)
  rw [decV_bad hea] at Da
  unfold zeroV at Da
  generalize hEa : decE a = Ea at *
  have ma : (Ea != 0) = true := by rw [bne_iff_ne]; exact hea
  have ma' : (Ea == 0) = false := by rw [beq_eq_false_iff_ne]; exact hea
  clear hEa
  rw [decV_bad heb] at Db
  unfold zeroV at Db
  generalize hEb : decE b = Eb at *
  have mb : (Eb != 0) = true := by rw [bne_iff_ne]; exact heb
  have mb' : (Eb == 0) = false := by rw [beq_eq_false_iff_ne]; exact heb
  clear hEb
  have X1 := Lib.hid ((hra.alloc (Nat.le_refl _) (.cells #[.int .i64 0, .int .i64 0, .int .i64 0, .float .f64 0, .int .i64 0, .int .i64 0, .int .i64 0, .int .i64 0] 42)).more (B' := (w.alloc (.cells #[.int .i64 0, .int .i64 0, .int .i64 0, .float .f64 0, .int .i64 0, .int .i64 0, .int .i64 0, .int .i64 0] 42)).heap.size) (by simp))
  have Y1 := Lib.hid ((hrb.alloc (Nat.le_refl _) (.cells #[.int .i64 0, .int .i64 0, .int .i64 0, .float .f64 0, .int .i64 0, .int .i64 0, .int .i64 0, .int .i64 0] 42)).more (B' := (w.alloc (.cells #[.int .i64 0, .int .i64 0, .int .i64 0, .float .f64 0, .int .i64 0, .int .i64 0, .int .i64 0, .int .i64 0] 42)).heap.size) (by simp))
  have Q1 := Lib.hid (Blk.new w 42 #[.int .i64 0, .int .i64 0, .int .i64 0, .float .f64 0, .int .i64 0, .int .i64 0, .int .i64 0, .int .i64 0])
  have B1 := Lib.hid ((Below.refl w.heap.size w).alloc (Nat.le_refl _) (.cells #[.int .i64 0, .int .i64 0, .int .i64 0, .float .f64 0, .int .i64 0, .int .i64 0, .int .i64 0, .int .i64 0] 42))
  have s1 : (w.alloc (.cells #[.int .i64 0, .int .i64 0, .int .i64 0, .float .f64 0, .int .i64 0, .int .i64 0, .int .i64 0, .int .i64 0] 42)).heap.size = w.heap.size + 1 := by simp
  clear hra hrb
  go_enter Try.func39, Try.ntmps39
  go_upto_region 1 with fail
  generalize w.alloc (.cells #[.int .i64 0, .int .i64 0, .int .i64 0, .float .f64 0, .int .i64 0, .int .i64 0, .int .i64 0, .int .i64 0] 42) = w1 at *
  go_wp2_with fail
  refine (Da _ X1.out).out.mono ?_
  rintro e v2 ⟨rfl, hb2⟩
  have t2 := hb2.size
  have X2 := Lib.hid ((((X1.out.below hb2).more t2).alloc (Nat.le_refl _) (.cells #[.int .i64 0, .int .i64 0, .int .i64 0, .float .f64 0, .int .i64 0, .int .i64 0, .int .i64 0, .int .i64 0] 42)).more (B' := (v2.alloc (.cells #[.int .i64 0, .int .i64 0, .int .i64 0, .float .f64 0, .int .i64 0, .int .i64 0, .int .i64 0, .int .i64 0] 42)).heap.size) (by simp))
  have Y2 := Lib.hid ((((Y1.out.below hb2).more t2).alloc (Nat.le_refl _) (.cells #[.int .i64 0, .int .i64 0, .int .i64 0, .float .f64 0, .int .i64 0, .int .i64 0, .int .i64 0, .int .i64 0] 42)).more (B' := (v2.alloc (.cells #[.int .i64 0, .int .i64 0, .int .i64 0, .float .f64 0, .int .i64 0, .int .i64 0, .int .i64 0, .int .i64 0] 42)).heap.size) (by simp))
  have Q2 := Lib.hid ((Q1.out.below hb2 (by omega)).alloc (.cells #[.int .i64 0, .int .i64 0, .int .i64 0, .float .f64 0, .int .i64 0, .int .i64 0, .int .i64 0, .int .i64 0] 42))
  have B2 := Lib.hid ((B1.out.trans (hb2.mono (by omega))).alloc (by omega) (.cells #[.int .i64 0, .int .i64 0, .int .i64 0, .float .f64 0, .int .i64 0, .int .i64 0, .int .i64 0, .int .i64 0] 42))
  have Na := Lib.hid (Blk.new v2 42 #[.int .i64 0, .int .i64 0, .int .i64 0, .float .f64 0, .int .i64 0, .int .i64 0, .int .i64 0, .int .i64 0])
  have s2 : (v2.alloc (.cells #[.int .i64 0, .int .i64 0, .int .i64 0, .float .f64 0, .int .i64 0, .int .i64 0, .int .i64 0, .int .i64 0] 42)).heap.size = v2.heap.size + 1 := by simp
  go_upto_region 2 with fail
  generalize hW2 : v2.alloc (.cells #[.int .i64 0, .int .i64 0, .int .i64 0, .float .f64 0, .int .i64 0, .int .i64 0, .int .i64 0, .int .i64 0] 42) = w2 at *
  clear hW2 hb2 X1 Y1 Q1 B1
  go_wp2_with fail
  refine (Db _ Y2.out).out.mono ?_
  rintro e v3 ⟨rfl, hb3⟩
  have t3 := hb3.size
  have X3 := Lib.hid ((((X2.out.below hb3).more t3).alloc (Nat.le_refl _) (.cells #[.int .i64 0, .int .i64 0, .int .i64 0, .float .f64 0, .int .i64 0, .int .i64 0, .int .i64 0, .int .i64 0] 42)).more (B' := (v3.alloc (.cells #[.int .i64 0, .int .i64 0, .int .i64 0, .float .f64 0, .int .i64 0, .int .i64 0, .int .i64 0, .int .i64 0] 42)).heap.size) (by simp))
  have Y3 := Lib.hid ((((Y2.out.below hb3).more t3).alloc (Nat.le_refl _) (.cells #[.int .i64 0, .int .i64 0, .int .i64 0, .float .f64 0, .int .i64 0, .int .i64 0, .int .i64 0, .int .i64 0] 42)).more (B' := (v3.alloc (.cells #[.int .i64 0, .int .i64 0, .int .i64 0, .float .f64 0, .int .i64 0, .int .i64 0, .int .i64 0, .int .i64 0] 42)).heap.size) (by simp))
  have Q3 := Lib.hid ((Q2.out.below hb3 (by omega)).alloc (.cells #[.int .i64 0, .int .i64 0, .int .i64 0, .float .f64 0, .int .i64 0, .int .i64 0, .int .i64 0, .int .i64 0] 42))
  have B3 := Lib.hid ((B2.out.trans (hb3.mono (by omega))).alloc (by omega) (.cells #[.int .i64 0, .int .i64 0, .int .i64 0, .float .f64 0, .int .i64 0, .int .i64 0, .int .i64 0, .int .i64 0] 42))
  have Nb := Lib.hid (Blk.new v3 42 #[.int .i64 0, .int .i64 0, .int .i64 0, .float .f64 0, .int .i64 0, .int .i64 0, .int .i64 0, .int .i64 0])
  have s3 : (v3.alloc (.cells #[.int .i64 0, .int .i64 0, .int .i64 0, .float .f64 0, .int .i64 0, .int .i64 0, .int .i64 0, .int .i64 0] 42)).heap.size = v3.heap.size + 1 := by simp
  have Na := Lib.hid ((Na.out.below hb3 (by omega)).alloc (.cells #[.int .i64 0, .int .i64 0, .int .i64 0, .float .f64 0, .int .i64 0, .int .i64 0, .int .i64 0, .int .i64 0] 42))
  go_upto_region 3 with fail
  generalize hW3 : v3.alloc (.cells #[.int .i64 0, .int .i64 0, .int .i64 0, .float .f64 0, .int .i64 0, .int .i64 0, .int .i64 0, .int .i64 0] 42) = w3 at *
  clear hW3 hb3 X2 Y2 Q2 B2
  go_wp2_with fail
  refine (BA _ X3.out).out.mono ?_
  rintro e w' ⟨rfl, rfl⟩
  go_wp2_with fail
  refine (BB _ Y3.out).out.mono ?_
  rintro e w' ⟨rfl, rfl⟩
  go_wp2_with fail
  refine (BB _ Y3.out).out.mono ?_
  rintro e w' ⟨rfl, rfl⟩
  go_wp2_with fail
  refine (BA _ X3.out).out.mono ?_
  rintro e w' ⟨rfl, rfl⟩
  go_upto_region 10 with fail
  have q0 := Q3.out.cell 0
  have g0 := Q3.out.frozen 0
  have q1 := Q3.out.cell 1
  have g1 := Q3.out.frozen 1
  have q2 := Q3.out.cell 2
  have g2 := Q3.out.frozen 2
  have q3 := Q3.out.cell 3
  have g3 := Q3.out.frozen 3
  have q4 := Q3.out.cell 4
  have g4 := Q3.out.frozen 4
  have q5 := Q3.out.cell 5
  have g5 := Q3.out.frozen 5
  have q6 := Q3.out.cell 6
  have g6 := Q3.out.frozen 6
  have q7 := Q3.out.cell 7
  have g7 := Q3.out.frozen 7
  simp at q0 q1 q2 q3 q4 q5 q6 q7
  go_wp2_with fail
  have Y := ((((((((Q3.out).set_ 0 (.int .i64 0)).set_ 1 (.int .i64 0)).set_ 2 (.int .i64 0)).set_ 3 (.float .f64 0)).set_ 4 (.int .i64 0)).set_ 5 (.int .i64 0)).set_ 6 (.int .i64 0)).set_ 7 (.int .i64 0)
  have BY := ((((((((B3.out).setCell (p := ⟨w.heap.size, 0, none⟩) (Nat.le_refl _) (.int .i64 0)).setCell (p := ⟨w.heap.size, 1, none⟩) (Nat.le_refl _) (.int .i64 0)).setCell (p := ⟨w.heap.size, 2, none⟩) (Nat.le_refl _) (.int .i64 0)).setCell (p := ⟨w.heap.size, 3, none⟩) (Nat.le_refl _) (.float .f64 0)).setCell (p := ⟨w.heap.size, 4, none⟩) (Nat.le_refl _) (.int .i64 0)).setCell (p := ⟨w.heap.size, 5, none⟩) (Nat.le_refl _) (.int .i64 0)).setCell (p := ⟨w.heap.size, 6, none⟩) (Nat.le_refl _) (.int .i64 0)).setCell (p := ⟨w.heap.size, 7, none⟩) (Nat.le_refl _) (.int .i64 0)
  generalize ((((((((w3.setCell ⟨w.heap.size, 0, none⟩ (.int .i64 0)).setCell ⟨w.heap.size, 1, none⟩ (.int .i64 0)).setCell ⟨w.heap.size, 2, none⟩ (.int .i64 0)).setCell ⟨w.heap.size, 3, none⟩ (.float .f64 0)).setCell ⟨w.heap.size, 4, none⟩ (.int .i64 0)).setCell ⟨w.heap.size, 5, none⟩ (.int .i64 0)).setCell ⟨w.heap.size, 6, none⟩ (.int .i64 0)).setCell ⟨w.heap.size, 7, none⟩ (.int .i64 0)) = wz at *
  have y0 := Y.cell 0
  have y1 := Y.cell 1
  have y2 := Y.cell 2
  have y3 := Y.cell 3
  have y4 := Y.cell 4
  have y5 := Y.cell 5
  have y6 := Y.cell 6
  have y7 := Y.cell 7
  simp at y0 y1 y2 y3 y4 y5 y6 y7
  (try simp only [Exit.inBlock, Exit.then])
  refine bodyPost_ret (by simp [results, Try.results39, go_sem, y0, y1, y2, y3, y4, y5, y6, y7]; try rfl) rfl ?_
  exact ⟨rfl, BY⟩
set_option maxHeartbeats 4000000 in
theorem rc_a_one (A : Option Addr) (n c : Nat) (a : List B8) (A2 : Option Addr) (n2 c2 : Nat) (b : List B8) (w : World) (hra : Rd w w.heap.size A n a) (hca : n ≤ c) (hrb : Rd w w.heap.size A2 n2 b) (hcb : n2 ≤ c2) (hn : n ≤ 500) (hn2 : n2 ≤ 500) (hba : blankB a = false) (hbb : blankB b = true) (hea : decE a = 0) (heb : ¬ decE b = 0) (hg : numAt a 2 = 1) :
    Calls Try.prog 39 #[.slice A n c, .slice A2 n2 c2] w fun e w' => e = .returned (.tuple #[crownV a, .int .i64 0, .int .i64 0]) ∧ Below w.heap.size w w' := by
  have hst := storeFloat
  have BA := fun (W : World) (h' : Rd W W.heap.size A n a) => Lib.hid (refBlank_any A n c a W.heap.size W h' (by omega))
  rw [hba] at BA
  have BB := fun (W : World) (h' : Rd W W.heap.size A2 n2 b) => Lib.hid (refBlank_any A2 n2 c2 b W.heap.size W h' (by omega))
  rw [hbb] at BB
  have Da := fun (W : World) (h' : Rd W W.heap.size A n a) => Lib.hid (refDec_any A n c a W h' hca)
  have Db := fun (W : World) (h' : Rd W W.heap.size A2 n2 b) => Lib.hid (refDec_any A2 n2 c2 b W h' hcb)
  rw [decV_ok hea, hea] at Da
  unfold crownV at Da
  rw [decV_bad heb] at Db
  unfold zeroV at Db
  generalize hEb : decE b = Eb at *
  have mb : (Eb != 0) = true := by rw [bne_iff_ne]; exact heb
  have mb' : (Eb == 0) = false := by rw [beq_eq_false_iff_ne]; exact heb
  clear hEb
  have hg1 : (numAt a 2 == 1) = true := by first | (rw [beq_iff_eq]; exact hg) | (rw [beq_eq_false_iff_ne]; exact hg)
  clear hg
  have X1 := Lib.hid ((hra.alloc (Nat.le_refl _) (.cells #[.int .i64 0, .int .i64 0, .int .i64 0, .float .f64 0, .int .i64 0, .int .i64 0, .int .i64 0, .int .i64 0] 42)).more (B' := (w.alloc (.cells #[.int .i64 0, .int .i64 0, .int .i64 0, .float .f64 0, .int .i64 0, .int .i64 0, .int .i64 0, .int .i64 0] 42)).heap.size) (by simp))
  have Y1 := Lib.hid ((hrb.alloc (Nat.le_refl _) (.cells #[.int .i64 0, .int .i64 0, .int .i64 0, .float .f64 0, .int .i64 0, .int .i64 0, .int .i64 0, .int .i64 0] 42)).more (B' := (w.alloc (.cells #[.int .i64 0, .int .i64 0, .int .i64 0, .float .f64 0, .int .i64 0, .int .i64 0, .int .i64 0, .int .i64 0] 42)).heap.size) (by simp))
  have Q1 := Lib.hid (Blk.new w 42 #[.int .i64 0, .int .i64 0, .int .i64 0, .float .f64 0, .int .i64 0, .int .i64 0, .int .i64 0, .int .i64 0])
  have B1 := Lib.hid ((Below.refl w.heap.size w).alloc (Nat.le_refl _) (.cells #[.int .i64 0, .int .i64 0, .int .i64 0, .float .f64 0, .int .i64 0, .int .i64 0, .int .i64 0, .int .i64 0] 42))
  have s1 : (w.alloc (.cells #[.int .i64 0, .int .i64 0, .int .i64 0, .float .f64 0, .int .i64 0, .int .i64 0, .int .i64 0, .int .i64 0] 42)).heap.size = w.heap.size + 1 := by simp
  clear hra hrb
  go_enter Try.func39, Try.ntmps39
  go_upto_region 1 with fail
  generalize w.alloc (.cells #[.int .i64 0, .int .i64 0, .int .i64 0, .float .f64 0, .int .i64 0, .int .i64 0, .int .i64 0, .int .i64 0] 42) = w1 at *
  go_wp2_with fail
  refine (Da _ X1.out).out.mono ?_
  rintro e v2 ⟨rfl, hb2⟩
  have t2 := hb2.size
  have X2 := Lib.hid ((((X1.out.below hb2).more t2).alloc (Nat.le_refl _) (.cells #[.int .i64 (numAt a 2), .int .i64 (numAt a 6), .int .i64 (numAt a 10), .float .f64 (gainAt a), .int .i64 (numAt a 14), .int .i64 (numAt a 18), .int .i64 (numAt a 22), .int .i64 (numAt a 26)] 42)).more (B' := (v2.alloc (.cells #[.int .i64 (numAt a 2), .int .i64 (numAt a 6), .int .i64 (numAt a 10), .float .f64 (gainAt a), .int .i64 (numAt a 14), .int .i64 (numAt a 18), .int .i64 (numAt a 22), .int .i64 (numAt a 26)] 42)).heap.size) (by simp))
  have Y2 := Lib.hid ((((Y1.out.below hb2).more t2).alloc (Nat.le_refl _) (.cells #[.int .i64 (numAt a 2), .int .i64 (numAt a 6), .int .i64 (numAt a 10), .float .f64 (gainAt a), .int .i64 (numAt a 14), .int .i64 (numAt a 18), .int .i64 (numAt a 22), .int .i64 (numAt a 26)] 42)).more (B' := (v2.alloc (.cells #[.int .i64 (numAt a 2), .int .i64 (numAt a 6), .int .i64 (numAt a 10), .float .f64 (gainAt a), .int .i64 (numAt a 14), .int .i64 (numAt a 18), .int .i64 (numAt a 22), .int .i64 (numAt a 26)] 42)).heap.size) (by simp))
  have Q2 := Lib.hid ((Q1.out.below hb2 (by omega)).alloc (.cells #[.int .i64 (numAt a 2), .int .i64 (numAt a 6), .int .i64 (numAt a 10), .float .f64 (gainAt a), .int .i64 (numAt a 14), .int .i64 (numAt a 18), .int .i64 (numAt a 22), .int .i64 (numAt a 26)] 42))
  have B2 := Lib.hid ((B1.out.trans (hb2.mono (by omega))).alloc (by omega) (.cells #[.int .i64 (numAt a 2), .int .i64 (numAt a 6), .int .i64 (numAt a 10), .float .f64 (gainAt a), .int .i64 (numAt a 14), .int .i64 (numAt a 18), .int .i64 (numAt a 22), .int .i64 (numAt a 26)] 42))
  have Na := Lib.hid (Blk.new v2 42 #[.int .i64 (numAt a 2), .int .i64 (numAt a 6), .int .i64 (numAt a 10), .float .f64 (gainAt a), .int .i64 (numAt a 14), .int .i64 (numAt a 18), .int .i64 (numAt a 22), .int .i64 (numAt a 26)])
  have s2 : (v2.alloc (.cells #[.int .i64 (numAt a 2), .int .i64 (numAt a 6), .int .i64 (numAt a 10), .float .f64 (gainAt a), .int .i64 (numAt a 14), .int .i64 (numAt a 18), .int .i64 (numAt a 22), .int .i64 (numAt a 26)] 42)).heap.size = v2.heap.size + 1 := by simp
  go_upto_region 2 with fail
  generalize hW2 : v2.alloc (.cells #[.int .i64 (numAt a 2), .int .i64 (numAt a 6), .int .i64 (numAt a 10), .float .f64 (gainAt a), .int .i64 (numAt a 14), .int .i64 (numAt a 18), .int .i64 (numAt a 22), .int .i64 (numAt a 26)] 42) = w2 at *
  clear hW2 hb2 X1 Y1 Q1 B1
  go_wp2_with fail
  refine (Db _ Y2.out).out.mono ?_
  rintro e v3 ⟨rfl, hb3⟩
  have t3 := hb3.size
  have X3 := Lib.hid ((((X2.out.below hb3).more t3).alloc (Nat.le_refl _) (.cells #[.int .i64 0, .int .i64 0, .int .i64 0, .float .f64 0, .int .i64 0, .int .i64 0, .int .i64 0, .int .i64 0] 42)).more (B' := (v3.alloc (.cells #[.int .i64 0, .int .i64 0, .int .i64 0, .float .f64 0, .int .i64 0, .int .i64 0, .int .i64 0, .int .i64 0] 42)).heap.size) (by simp))
  have Y3 := Lib.hid ((((Y2.out.below hb3).more t3).alloc (Nat.le_refl _) (.cells #[.int .i64 0, .int .i64 0, .int .i64 0, .float .f64 0, .int .i64 0, .int .i64 0, .int .i64 0, .int .i64 0] 42)).more (B' := (v3.alloc (.cells #[.int .i64 0, .int .i64 0, .int .i64 0, .float .f64 0, .int .i64 0, .int .i64 0, .int .i64 0, .int .i64 0] 42)).heap.size) (by simp))
  have Q3 := Lib.hid ((Q2.out.below hb3 (by omega)).alloc (.cells #[.int .i64 0, .int .i64 0, .int .i64 0, .float .f64 0, .int .i64 0, .int .i64 0, .int .i64 0, .int .i64 0] 42))
  have B3 := Lib.hid ((B2.out.trans (hb3.mono (by omega))).alloc (by omega) (.cells #[.int .i64 0, .int .i64 0, .int .i64 0, .float .f64 0, .int .i64 0, .int .i64 0, .int .i64 0, .int .i64 0] 42))
  have Nb := Lib.hid (Blk.new v3 42 #[.int .i64 0, .int .i64 0, .int .i64 0, .float .f64 0, .int .i64 0, .int .i64 0, .int .i64 0, .int .i64 0])
  have s3 : (v3.alloc (.cells #[.int .i64 0, .int .i64 0, .int .i64 0, .float .f64 0, .int .i64 0, .int .i64 0, .int .i64 0, .int .i64 0] 42)).heap.size = v3.heap.size + 1 := by simp
  have Na := Lib.hid ((Na.out.below hb3 (by omega)).alloc (.cells #[.int .i64 0, .int .i64 0, .int .i64 0, .float .f64 0, .int .i64 0, .int .i64 0, .int .i64 0, .int .i64 0] 42))
  go_upto_region 3 with fail
  generalize hW3 : v3.alloc (.cells #[.int .i64 0, .int .i64 0, .int .i64 0, .float .f64 0, .int .i64 0, .int .i64 0, .int .i64 0, .int .i64 0] 42) = w3 at *
  clear hW3 hb3 X2 Y2 Q2 B2
  have k0 := Na.out.cell 0
  have k1 := Na.out.cell 1
  have k2 := Na.out.cell 2
  have k3 := Na.out.cell 3
  have k4 := Na.out.cell 4
  have k5 := Na.out.cell 5
  have k6 := Na.out.cell 6
  have k7 := Na.out.cell 7
  simp at k0 k1 k2 k3 k4 k5 k6 k7
  go_wp2_with fail
  refine (BA _ X3.out).out.mono ?_
  rintro e w' ⟨rfl, rfl⟩
  go_wp2_with fail
  refine (BB _ Y3.out).out.mono ?_
  rintro e w' ⟨rfl, rfl⟩
  go_upto_region 6 with fail
  have q0 := Q3.out.cell 0
  have g0 := Q3.out.frozen 0
  have q1 := Q3.out.cell 1
  have g1 := Q3.out.frozen 1
  have q2 := Q3.out.cell 2
  have g2 := Q3.out.frozen 2
  have q3 := Q3.out.cell 3
  have g3 := Q3.out.frozen 3
  have q4 := Q3.out.cell 4
  have g4 := Q3.out.frozen 4
  have q5 := Q3.out.cell 5
  have g5 := Q3.out.frozen 5
  have q6 := Q3.out.cell 6
  have g6 := Q3.out.frozen 6
  have q7 := Q3.out.cell 7
  have g7 := Q3.out.frozen 7
  simp at q0 q1 q2 q3 q4 q5 q6 q7
  go_wp2_with fail
  have Y := ((((((((Q3.out).set_ 0 (.int .i64 (numAt a 2))).set_ 1 (.int .i64 (numAt a 6))).set_ 2 (.int .i64 (numAt a 10))).set_ 3 (.float .f64 (gainAt a))).set_ 4 (.int .i64 (numAt a 14))).set_ 5 (.int .i64 (numAt a 18))).set_ 6 (.int .i64 (numAt a 22))).set_ 7 (.int .i64 (numAt a 26))
  have BY := ((((((((B3.out).setCell (p := ⟨w.heap.size, 0, none⟩) (Nat.le_refl _) (.int .i64 (numAt a 2))).setCell (p := ⟨w.heap.size, 1, none⟩) (Nat.le_refl _) (.int .i64 (numAt a 6))).setCell (p := ⟨w.heap.size, 2, none⟩) (Nat.le_refl _) (.int .i64 (numAt a 10))).setCell (p := ⟨w.heap.size, 3, none⟩) (Nat.le_refl _) (.float .f64 (gainAt a))).setCell (p := ⟨w.heap.size, 4, none⟩) (Nat.le_refl _) (.int .i64 (numAt a 14))).setCell (p := ⟨w.heap.size, 5, none⟩) (Nat.le_refl _) (.int .i64 (numAt a 18))).setCell (p := ⟨w.heap.size, 6, none⟩) (Nat.le_refl _) (.int .i64 (numAt a 22))).setCell (p := ⟨w.heap.size, 7, none⟩) (Nat.le_refl _) (.int .i64 (numAt a 26))
  generalize ((((((((w3.setCell ⟨w.heap.size, 0, none⟩ (.int .i64 (numAt a 2))).setCell ⟨w.heap.size, 1, none⟩ (.int .i64 (numAt a 6))).setCell ⟨w.heap.size, 2, none⟩ (.int .i64 (numAt a 10))).setCell ⟨w.heap.size, 3, none⟩ (.float .f64 (gainAt a))).setCell ⟨w.heap.size, 4, none⟩ (.int .i64 (numAt a 14))).setCell ⟨w.heap.size, 5, none⟩ (.int .i64 (numAt a 18))).setCell ⟨w.heap.size, 6, none⟩ (.int .i64 (numAt a 22))).setCell ⟨w.heap.size, 7, none⟩ (.int .i64 (numAt a 26))) = wz at *
  have y0 := Y.cell 0
  have y1 := Y.cell 1
  have y2 := Y.cell 2
  have y3 := Y.cell 3
  have y4 := Y.cell 4
  have y5 := Y.cell 5
  have y6 := Y.cell 6
  have y7 := Y.cell 7
  simp at y0 y1 y2 y3 y4 y5 y6 y7
  (try simp only [Exit.inBlock, Exit.then])
  refine bodyPost_ret (by simp [results, Try.results39, go_sem, y0, y1, y2, y3, y4, y5, y6, y7]; try rfl) rfl ?_
  exact ⟨rfl, BY⟩
set_option maxHeartbeats 4000000 in
theorem rc_a_no (A : Option Addr) (n c : Nat) (a : List B8) (A2 : Option Addr) (n2 c2 : Nat) (b : List B8) (w : World) (hra : Rd w w.heap.size A n a) (hca : n ≤ c) (hrb : Rd w w.heap.size A2 n2 b) (hcb : n2 ≤ c2) (hn : n ≤ 500) (hn2 : n2 ≤ 500) (hba : blankB a = false) (hbb : blankB b = true) (hea : decE a = 0) (heb : ¬ decE b = 0) (hg : ¬ numAt a 2 = 1) :
    Calls Try.prog 39 #[.slice A n c, .slice A2 n2 c2] w fun e w' => e = .returned (.tuple #[zeroV, .int .i64 0, .int .i64 5]) ∧ Below w.heap.size w w' := by
  have hst := storeFloat
  have BA := fun (W : World) (h' : Rd W W.heap.size A n a) => Lib.hid (refBlank_any A n c a W.heap.size W h' (by omega))
  rw [hba] at BA
  have BB := fun (W : World) (h' : Rd W W.heap.size A2 n2 b) => Lib.hid (refBlank_any A2 n2 c2 b W.heap.size W h' (by omega))
  rw [hbb] at BB
  have Da := fun (W : World) (h' : Rd W W.heap.size A n a) => Lib.hid (refDec_any A n c a W h' hca)
  have Db := fun (W : World) (h' : Rd W W.heap.size A2 n2 b) => Lib.hid (refDec_any A2 n2 c2 b W h' hcb)
  rw [decV_ok hea, hea] at Da
  unfold crownV at Da
  rw [decV_bad heb] at Db
  unfold zeroV at Db
  generalize hEb : decE b = Eb at *
  have mb : (Eb != 0) = true := by rw [bne_iff_ne]; exact heb
  have mb' : (Eb == 0) = false := by rw [beq_eq_false_iff_ne]; exact heb
  clear hEb
  have hg1 : (numAt a 2 == 1) = false := by first | (rw [beq_iff_eq]; exact hg) | (rw [beq_eq_false_iff_ne]; exact hg)
  clear hg
  have X1 := Lib.hid ((hra.alloc (Nat.le_refl _) (.cells #[.int .i64 0, .int .i64 0, .int .i64 0, .float .f64 0, .int .i64 0, .int .i64 0, .int .i64 0, .int .i64 0] 42)).more (B' := (w.alloc (.cells #[.int .i64 0, .int .i64 0, .int .i64 0, .float .f64 0, .int .i64 0, .int .i64 0, .int .i64 0, .int .i64 0] 42)).heap.size) (by simp))
  have Y1 := Lib.hid ((hrb.alloc (Nat.le_refl _) (.cells #[.int .i64 0, .int .i64 0, .int .i64 0, .float .f64 0, .int .i64 0, .int .i64 0, .int .i64 0, .int .i64 0] 42)).more (B' := (w.alloc (.cells #[.int .i64 0, .int .i64 0, .int .i64 0, .float .f64 0, .int .i64 0, .int .i64 0, .int .i64 0, .int .i64 0] 42)).heap.size) (by simp))
  have Q1 := Lib.hid (Blk.new w 42 #[.int .i64 0, .int .i64 0, .int .i64 0, .float .f64 0, .int .i64 0, .int .i64 0, .int .i64 0, .int .i64 0])
  have B1 := Lib.hid ((Below.refl w.heap.size w).alloc (Nat.le_refl _) (.cells #[.int .i64 0, .int .i64 0, .int .i64 0, .float .f64 0, .int .i64 0, .int .i64 0, .int .i64 0, .int .i64 0] 42))
  have s1 : (w.alloc (.cells #[.int .i64 0, .int .i64 0, .int .i64 0, .float .f64 0, .int .i64 0, .int .i64 0, .int .i64 0, .int .i64 0] 42)).heap.size = w.heap.size + 1 := by simp
  clear hra hrb
  go_enter Try.func39, Try.ntmps39
  go_upto_region 1 with fail
  generalize w.alloc (.cells #[.int .i64 0, .int .i64 0, .int .i64 0, .float .f64 0, .int .i64 0, .int .i64 0, .int .i64 0, .int .i64 0] 42) = w1 at *
  go_wp2_with fail
  refine (Da _ X1.out).out.mono ?_
  rintro e v2 ⟨rfl, hb2⟩
  have t2 := hb2.size
  have X2 := Lib.hid ((((X1.out.below hb2).more t2).alloc (Nat.le_refl _) (.cells #[.int .i64 (numAt a 2), .int .i64 (numAt a 6), .int .i64 (numAt a 10), .float .f64 (gainAt a), .int .i64 (numAt a 14), .int .i64 (numAt a 18), .int .i64 (numAt a 22), .int .i64 (numAt a 26)] 42)).more (B' := (v2.alloc (.cells #[.int .i64 (numAt a 2), .int .i64 (numAt a 6), .int .i64 (numAt a 10), .float .f64 (gainAt a), .int .i64 (numAt a 14), .int .i64 (numAt a 18), .int .i64 (numAt a 22), .int .i64 (numAt a 26)] 42)).heap.size) (by simp))
  have Y2 := Lib.hid ((((Y1.out.below hb2).more t2).alloc (Nat.le_refl _) (.cells #[.int .i64 (numAt a 2), .int .i64 (numAt a 6), .int .i64 (numAt a 10), .float .f64 (gainAt a), .int .i64 (numAt a 14), .int .i64 (numAt a 18), .int .i64 (numAt a 22), .int .i64 (numAt a 26)] 42)).more (B' := (v2.alloc (.cells #[.int .i64 (numAt a 2), .int .i64 (numAt a 6), .int .i64 (numAt a 10), .float .f64 (gainAt a), .int .i64 (numAt a 14), .int .i64 (numAt a 18), .int .i64 (numAt a 22), .int .i64 (numAt a 26)] 42)).heap.size) (by simp))
  have Q2 := Lib.hid ((Q1.out.below hb2 (by omega)).alloc (.cells #[.int .i64 (numAt a 2), .int .i64 (numAt a 6), .int .i64 (numAt a 10), .float .f64 (gainAt a), .int .i64 (numAt a 14), .int .i64 (numAt a 18), .int .i64 (numAt a 22), .int .i64 (numAt a 26)] 42))
  have B2 := Lib.hid ((B1.out.trans (hb2.mono (by omega))).alloc (by omega) (.cells #[.int .i64 (numAt a 2), .int .i64 (numAt a 6), .int .i64 (numAt a 10), .float .f64 (gainAt a), .int .i64 (numAt a 14), .int .i64 (numAt a 18), .int .i64 (numAt a 22), .int .i64 (numAt a 26)] 42))
  have Na := Lib.hid (Blk.new v2 42 #[.int .i64 (numAt a 2), .int .i64 (numAt a 6), .int .i64 (numAt a 10), .float .f64 (gainAt a), .int .i64 (numAt a 14), .int .i64 (numAt a 18), .int .i64 (numAt a 22), .int .i64 (numAt a 26)])
  have s2 : (v2.alloc (.cells #[.int .i64 (numAt a 2), .int .i64 (numAt a 6), .int .i64 (numAt a 10), .float .f64 (gainAt a), .int .i64 (numAt a 14), .int .i64 (numAt a 18), .int .i64 (numAt a 22), .int .i64 (numAt a 26)] 42)).heap.size = v2.heap.size + 1 := by simp
  go_upto_region 2 with fail
  generalize hW2 : v2.alloc (.cells #[.int .i64 (numAt a 2), .int .i64 (numAt a 6), .int .i64 (numAt a 10), .float .f64 (gainAt a), .int .i64 (numAt a 14), .int .i64 (numAt a 18), .int .i64 (numAt a 22), .int .i64 (numAt a 26)] 42) = w2 at *
  clear hW2 hb2 X1 Y1 Q1 B1
  go_wp2_with fail
  refine (Db _ Y2.out).out.mono ?_
  rintro e v3 ⟨rfl, hb3⟩
  have t3 := hb3.size
  have X3 := Lib.hid ((((X2.out.below hb3).more t3).alloc (Nat.le_refl _) (.cells #[.int .i64 0, .int .i64 0, .int .i64 0, .float .f64 0, .int .i64 0, .int .i64 0, .int .i64 0, .int .i64 0] 42)).more (B' := (v3.alloc (.cells #[.int .i64 0, .int .i64 0, .int .i64 0, .float .f64 0, .int .i64 0, .int .i64 0, .int .i64 0, .int .i64 0] 42)).heap.size) (by simp))
  have Y3 := Lib.hid ((((Y2.out.below hb3).more t3).alloc (Nat.le_refl _) (.cells #[.int .i64 0, .int .i64 0, .int .i64 0, .float .f64 0, .int .i64 0, .int .i64 0, .int .i64 0, .int .i64 0] 42)).more (B' := (v3.alloc (.cells #[.int .i64 0, .int .i64 0, .int .i64 0, .float .f64 0, .int .i64 0, .int .i64 0, .int .i64 0, .int .i64 0] 42)).heap.size) (by simp))
  have Q3 := Lib.hid ((Q2.out.below hb3 (by omega)).alloc (.cells #[.int .i64 0, .int .i64 0, .int .i64 0, .float .f64 0, .int .i64 0, .int .i64 0, .int .i64 0, .int .i64 0] 42))
  have B3 := Lib.hid ((B2.out.trans (hb3.mono (by omega))).alloc (by omega) (.cells #[.int .i64 0, .int .i64 0, .int .i64 0, .float .f64 0, .int .i64 0, .int .i64 0, .int .i64 0, .int .i64 0] 42))
  have Nb := Lib.hid (Blk.new v3 42 #[.int .i64 0, .int .i64 0, .int .i64 0, .float .f64 0, .int .i64 0, .int .i64 0, .int .i64 0, .int .i64 0])
  have s3 : (v3.alloc (.cells #[.int .i64 0, .int .i64 0, .int .i64 0, .float .f64 0, .int .i64 0, .int .i64 0, .int .i64 0, .int .i64 0] 42)).heap.size = v3.heap.size + 1 := by simp
  have Na := Lib.hid ((Na.out.below hb3 (by omega)).alloc (.cells #[.int .i64 0, .int .i64 0, .int .i64 0, .float .f64 0, .int .i64 0, .int .i64 0, .int .i64 0, .int .i64 0] 42))
  go_upto_region 3 with fail
  generalize hW3 : v3.alloc (.cells #[.int .i64 0, .int .i64 0, .int .i64 0, .float .f64 0, .int .i64 0, .int .i64 0, .int .i64 0, .int .i64 0] 42) = w3 at *
  clear hW3 hb3 X2 Y2 Q2 B2
  have k0 := Na.out.cell 0
  have k1 := Na.out.cell 1
  have k2 := Na.out.cell 2
  have k3 := Na.out.cell 3
  have k4 := Na.out.cell 4
  have k5 := Na.out.cell 5
  have k6 := Na.out.cell 6
  have k7 := Na.out.cell 7
  simp at k0 k1 k2 k3 k4 k5 k6 k7
  go_wp2_with fail
  refine (BA _ X3.out).out.mono ?_
  rintro e w' ⟨rfl, rfl⟩
  go_wp2_with fail
  refine (BB _ Y3.out).out.mono ?_
  rintro e w' ⟨rfl, rfl⟩
  go_wp2_with fail
  refine (BA _ X3.out).out.mono ?_
  rintro e w' ⟨rfl, rfl⟩
  go_upto_region 10 with fail
  have q0 := Q3.out.cell 0
  have g0 := Q3.out.frozen 0
  have q1 := Q3.out.cell 1
  have g1 := Q3.out.frozen 1
  have q2 := Q3.out.cell 2
  have g2 := Q3.out.frozen 2
  have q3 := Q3.out.cell 3
  have g3 := Q3.out.frozen 3
  have q4 := Q3.out.cell 4
  have g4 := Q3.out.frozen 4
  have q5 := Q3.out.cell 5
  have g5 := Q3.out.frozen 5
  have q6 := Q3.out.cell 6
  have g6 := Q3.out.frozen 6
  have q7 := Q3.out.cell 7
  have g7 := Q3.out.frozen 7
  simp at q0 q1 q2 q3 q4 q5 q6 q7
  go_wp2_with fail
  have Y := ((((((((Q3.out).set_ 0 (.int .i64 0)).set_ 1 (.int .i64 0)).set_ 2 (.int .i64 0)).set_ 3 (.float .f64 0)).set_ 4 (.int .i64 0)).set_ 5 (.int .i64 0)).set_ 6 (.int .i64 0)).set_ 7 (.int .i64 0)
  have BY := ((((((((B3.out).setCell (p := ⟨w.heap.size, 0, none⟩) (Nat.le_refl _) (.int .i64 0)).setCell (p := ⟨w.heap.size, 1, none⟩) (Nat.le_refl _) (.int .i64 0)).setCell (p := ⟨w.heap.size, 2, none⟩) (Nat.le_refl _) (.int .i64 0)).setCell (p := ⟨w.heap.size, 3, none⟩) (Nat.le_refl _) (.float .f64 0)).setCell (p := ⟨w.heap.size, 4, none⟩) (Nat.le_refl _) (.int .i64 0)).setCell (p := ⟨w.heap.size, 5, none⟩) (Nat.le_refl _) (.int .i64 0)).setCell (p := ⟨w.heap.size, 6, none⟩) (Nat.le_refl _) (.int .i64 0)).setCell (p := ⟨w.heap.size, 7, none⟩) (Nat.le_refl _) (.int .i64 0)
  generalize ((((((((w3.setCell ⟨w.heap.size, 0, none⟩ (.int .i64 0)).setCell ⟨w.heap.size, 1, none⟩ (.int .i64 0)).setCell ⟨w.heap.size, 2, none⟩ (.int .i64 0)).setCell ⟨w.heap.size, 3, none⟩ (.float .f64 0)).setCell ⟨w.heap.size, 4, none⟩ (.int .i64 0)).setCell ⟨w.heap.size, 5, none⟩ (.int .i64 0)).setCell ⟨w.heap.size, 6, none⟩ (.int .i64 0)).setCell ⟨w.heap.size, 7, none⟩ (.int .i64 0)) = wz at *
  have y0 := Y.cell 0
  have y1 := Y.cell 1
  have y2 := Y.cell 2
  have y3 := Y.cell 3
  have y4 := Y.cell 4
  have y5 := Y.cell 5
  have y6 := Y.cell 6
  have y7 := Y.cell 7
  simp at y0 y1 y2 y3 y4 y5 y6 y7
  (try simp only [Exit.inBlock, Exit.then])
  refine bodyPost_ret (by simp [results, Try.results39, go_sem, y0, y1, y2, y3, y4, y5, y6, y7]; try rfl) rfl ?_
  exact ⟨rfl, BY⟩
set_option maxHeartbeats 4000000 in
theorem rc_a_bad (A : Option Addr) (n c : Nat) (a : List B8) (A2 : Option Addr) (n2 c2 : Nat) (b : List B8) (w : World) (hra : Rd w w.heap.size A n a) (hca : n ≤ c) (hrb : Rd w w.heap.size A2 n2 b) (hcb : n2 ≤ c2) (hn : n ≤ 500) (hn2 : n2 ≤ 500) (hba : blankB a = false) (hbb : blankB b = true) (hea : ¬ decE a = 0) (heb : ¬ decE b = 0)  :
    Calls Try.prog 39 #[.slice A n c, .slice A2 n2 c2] w fun e w' => e = .returned (.tuple #[zeroV, .int .i64 0, .int .i64 5]) ∧ Below w.heap.size w w' := by
  have hst := storeFloat
  have BA := fun (W : World) (h' : Rd W W.heap.size A n a) => Lib.hid (refBlank_any A n c a W.heap.size W h' (by omega))
  rw [hba] at BA
  have BB := fun (W : World) (h' : Rd W W.heap.size A2 n2 b) => Lib.hid (refBlank_any A2 n2 c2 b W.heap.size W h' (by omega))
  rw [hbb] at BB
  have Da := fun (W : World) (h' : Rd W W.heap.size A n a) => Lib.hid (refDec_any A n c a W h' hca)
  have Db := fun (W : World) (h' : Rd W W.heap.size A2 n2 b) => Lib.hid (refDec_any A2 n2 c2 b W h' hcb)
  rw [decV_bad hea] at Da
  unfold zeroV at Da
  generalize hEa : decE a = Ea at *
  have ma : (Ea != 0) = true := by rw [bne_iff_ne]; exact hea
  have ma' : (Ea == 0) = false := by rw [beq_eq_false_iff_ne]; exact hea
  clear hEa
  rw [decV_bad heb] at Db
  unfold zeroV at Db
  generalize hEb : decE b = Eb at *
  have mb : (Eb != 0) = true := by rw [bne_iff_ne]; exact heb
  have mb' : (Eb == 0) = false := by rw [beq_eq_false_iff_ne]; exact heb
  clear hEb
  have X1 := Lib.hid ((hra.alloc (Nat.le_refl _) (.cells #[.int .i64 0, .int .i64 0, .int .i64 0, .float .f64 0, .int .i64 0, .int .i64 0, .int .i64 0, .int .i64 0] 42)).more (B' := (w.alloc (.cells #[.int .i64 0, .int .i64 0, .int .i64 0, .float .f64 0, .int .i64 0, .int .i64 0, .int .i64 0, .int .i64 0] 42)).heap.size) (by simp))
  have Y1 := Lib.hid ((hrb.alloc (Nat.le_refl _) (.cells #[.int .i64 0, .int .i64 0, .int .i64 0, .float .f64 0, .int .i64 0, .int .i64 0, .int .i64 0, .int .i64 0] 42)).more (B' := (w.alloc (.cells #[.int .i64 0, .int .i64 0, .int .i64 0, .float .f64 0, .int .i64 0, .int .i64 0, .int .i64 0, .int .i64 0] 42)).heap.size) (by simp))
  have Q1 := Lib.hid (Blk.new w 42 #[.int .i64 0, .int .i64 0, .int .i64 0, .float .f64 0, .int .i64 0, .int .i64 0, .int .i64 0, .int .i64 0])
  have B1 := Lib.hid ((Below.refl w.heap.size w).alloc (Nat.le_refl _) (.cells #[.int .i64 0, .int .i64 0, .int .i64 0, .float .f64 0, .int .i64 0, .int .i64 0, .int .i64 0, .int .i64 0] 42))
  have s1 : (w.alloc (.cells #[.int .i64 0, .int .i64 0, .int .i64 0, .float .f64 0, .int .i64 0, .int .i64 0, .int .i64 0, .int .i64 0] 42)).heap.size = w.heap.size + 1 := by simp
  clear hra hrb
  go_enter Try.func39, Try.ntmps39
  go_upto_region 1 with fail
  generalize w.alloc (.cells #[.int .i64 0, .int .i64 0, .int .i64 0, .float .f64 0, .int .i64 0, .int .i64 0, .int .i64 0, .int .i64 0] 42) = w1 at *
  go_wp2_with fail
  refine (Da _ X1.out).out.mono ?_
  rintro e v2 ⟨rfl, hb2⟩
  have t2 := hb2.size
  have X2 := Lib.hid ((((X1.out.below hb2).more t2).alloc (Nat.le_refl _) (.cells #[.int .i64 0, .int .i64 0, .int .i64 0, .float .f64 0, .int .i64 0, .int .i64 0, .int .i64 0, .int .i64 0] 42)).more (B' := (v2.alloc (.cells #[.int .i64 0, .int .i64 0, .int .i64 0, .float .f64 0, .int .i64 0, .int .i64 0, .int .i64 0, .int .i64 0] 42)).heap.size) (by simp))
  have Y2 := Lib.hid ((((Y1.out.below hb2).more t2).alloc (Nat.le_refl _) (.cells #[.int .i64 0, .int .i64 0, .int .i64 0, .float .f64 0, .int .i64 0, .int .i64 0, .int .i64 0, .int .i64 0] 42)).more (B' := (v2.alloc (.cells #[.int .i64 0, .int .i64 0, .int .i64 0, .float .f64 0, .int .i64 0, .int .i64 0, .int .i64 0, .int .i64 0] 42)).heap.size) (by simp))
  have Q2 := Lib.hid ((Q1.out.below hb2 (by omega)).alloc (.cells #[.int .i64 0, .int .i64 0, .int .i64 0, .float .f64 0, .int .i64 0, .int .i64 0, .int .i64 0, .int .i64 0] 42))
  have B2 := Lib.hid ((B1.out.trans (hb2.mono (by omega))).alloc (by omega) (.cells #[.int .i64 0, .int .i64 0, .int .i64 0, .float .f64 0, .int .i64 0, .int .i64 0, .int .i64 0, .int .i64 0] 42))
  have Na := Lib.hid (Blk.new v2 42 #[.int .i64 0, .int .i64 0, .int .i64 0, .float .f64 0, .int .i64 0, .int .i64 0, .int .i64 0, .int .i64 0])
  have s2 : (v2.alloc (.cells #[.int .i64 0, .int .i64 0, .int .i64 0, .float .f64 0, .int .i64 0, .int .i64 0, .int .i64 0, .int .i64 0] 42)).heap.size = v2.heap.size + 1 := by simp
  go_upto_region 2 with fail
  generalize hW2 : v2.alloc (.cells #[.int .i64 0, .int .i64 0, .int .i64 0, .float .f64 0, .int .i64 0, .int .i64 0, .int .i64 0, .int .i64 0] 42) = w2 at *
  clear hW2 hb2 X1 Y1 Q1 B1
  go_wp2_with fail
  refine (Db _ Y2.out).out.mono ?_
  rintro e v3 ⟨rfl, hb3⟩
  have t3 := hb3.size
  have X3 := Lib.hid ((((X2.out.below hb3).more t3).alloc (Nat.le_refl _) (.cells #[.int .i64 0, .int .i64 0, .int .i64 0, .float .f64 0, .int .i64 0, .int .i64 0, .int .i64 0, .int .i64 0] 42)).more (B' := (v3.alloc (.cells #[.int .i64 0, .int .i64 0, .int .i64 0, .float .f64 0, .int .i64 0, .int .i64 0, .int .i64 0, .int .i64 0] 42)).heap.size) (by simp))
  have Y3 := Lib.hid ((((Y2.out.below hb3).more t3).alloc (Nat.le_refl _) (.cells #[.int .i64 0, .int .i64 0, .int .i64 0, .float .f64 0, .int .i64 0, .int .i64 0, .int .i64 0, .int .i64 0] 42)).more (B' := (v3.alloc (.cells #[.int .i64 0, .int .i64 0, .int .i64 0, .float .f64 0, .int .i64 0, .int .i64 0, .int .i64 0, .int .i64 0] 42)).heap.size) (by simp))
  have Q3 := Lib.hid ((Q2.out.below hb3 (by omega)).alloc (.cells #[.int .i64 0, .int .i64 0, .int .i64 0, .float .f64 0, .int .i64 0, .int .i64 0, .int .i64 0, .int .i64 0] 42))
  have B3 := Lib.hid ((B2.out.trans (hb3.mono (by omega))).alloc (by omega) (.cells #[.int .i64 0, .int .i64 0, .int .i64 0, .float .f64 0, .int .i64 0, .int .i64 0, .int .i64 0, .int .i64 0] 42))
  have Nb := Lib.hid (Blk.new v3 42 #[.int .i64 0, .int .i64 0, .int .i64 0, .float .f64 0, .int .i64 0, .int .i64 0, .int .i64 0, .int .i64 0])
  have s3 : (v3.alloc (.cells #[.int .i64 0, .int .i64 0, .int .i64 0, .float .f64 0, .int .i64 0, .int .i64 0, .int .i64 0, .int .i64 0] 42)).heap.size = v3.heap.size + 1 := by simp
  have Na := Lib.hid ((Na.out.below hb3 (by omega)).alloc (.cells #[.int .i64 0, .int .i64 0, .int .i64 0, .float .f64 0, .int .i64 0, .int .i64 0, .int .i64 0, .int .i64 0] 42))
  go_upto_region 3 with fail
  generalize hW3 : v3.alloc (.cells #[.int .i64 0, .int .i64 0, .int .i64 0, .float .f64 0, .int .i64 0, .int .i64 0, .int .i64 0, .int .i64 0] 42) = w3 at *
  clear hW3 hb3 X2 Y2 Q2 B2
  go_wp2_with fail
  refine (BA _ X3.out).out.mono ?_
  rintro e w' ⟨rfl, rfl⟩
  go_wp2_with fail
  refine (BB _ Y3.out).out.mono ?_
  rintro e w' ⟨rfl, rfl⟩
  go_wp2_with fail
  refine (BA _ X3.out).out.mono ?_
  rintro e w' ⟨rfl, rfl⟩
  go_upto_region 10 with fail
  have q0 := Q3.out.cell 0
  have g0 := Q3.out.frozen 0
  have q1 := Q3.out.cell 1
  have g1 := Q3.out.frozen 1
  have q2 := Q3.out.cell 2
  have g2 := Q3.out.frozen 2
  have q3 := Q3.out.cell 3
  have g3 := Q3.out.frozen 3
  have q4 := Q3.out.cell 4
  have g4 := Q3.out.frozen 4
  have q5 := Q3.out.cell 5
  have g5 := Q3.out.frozen 5
  have q6 := Q3.out.cell 6
  have g6 := Q3.out.frozen 6
  have q7 := Q3.out.cell 7
  have g7 := Q3.out.frozen 7
  simp at q0 q1 q2 q3 q4 q5 q6 q7
  go_wp2_with fail
  have Y := ((((((((Q3.out).set_ 0 (.int .i64 0)).set_ 1 (.int .i64 0)).set_ 2 (.int .i64 0)).set_ 3 (.float .f64 0)).set_ 4 (.int .i64 0)).set_ 5 (.int .i64 0)).set_ 6 (.int .i64 0)).set_ 7 (.int .i64 0)
  have BY := ((((((((B3.out).setCell (p := ⟨w.heap.size, 0, none⟩) (Nat.le_refl _) (.int .i64 0)).setCell (p := ⟨w.heap.size, 1, none⟩) (Nat.le_refl _) (.int .i64 0)).setCell (p := ⟨w.heap.size, 2, none⟩) (Nat.le_refl _) (.int .i64 0)).setCell (p := ⟨w.heap.size, 3, none⟩) (Nat.le_refl _) (.float .f64 0)).setCell (p := ⟨w.heap.size, 4, none⟩) (Nat.le_refl _) (.int .i64 0)).setCell (p := ⟨w.heap.size, 5, none⟩) (Nat.le_refl _) (.int .i64 0)).setCell (p := ⟨w.heap.size, 6, none⟩) (Nat.le_refl _) (.int .i64 0)).setCell (p := ⟨w.heap.size, 7, none⟩) (Nat.le_refl _) (.int .i64 0)
  generalize ((((((((w3.setCell ⟨w.heap.size, 0, none⟩ (.int .i64 0)).setCell ⟨w.heap.size, 1, none⟩ (.int .i64 0)).setCell ⟨w.heap.size, 2, none⟩ (.int .i64 0)).setCell ⟨w.heap.size, 3, none⟩ (.float .f64 0)).setCell ⟨w.heap.size, 4, none⟩ (.int .i64 0)).setCell ⟨w.heap.size, 5, none⟩ (.int .i64 0)).setCell ⟨w.heap.size, 6, none⟩ (.int .i64 0)).setCell ⟨w.heap.size, 7, none⟩ (.int .i64 0)) = wz at *
  have y0 := Y.cell 0
  have y1 := Y.cell 1
  have y2 := Y.cell 2
  have y3 := Y.cell 3
  have y4 := Y.cell 4
  have y5 := Y.cell 5
  have y6 := Y.cell 6
  have y7 := Y.cell 7
  simp at y0 y1 y2 y3 y4 y5 y6 y7
  (try simp only [Exit.inBlock, Exit.then])
  refine bodyPost_ret (by simp [results, Try.results39, go_sem, y0, y1, y2, y3, y4, y5, y6, y7]; try rfl) rfl ?_
  exact ⟨rfl, BY⟩
set_option maxHeartbeats 4000000 in
theorem rc_bad1x (A : Option Addr) (n c : Nat) (a : List B8) (A2 : Option Addr) (n2 c2 : Nat) (b : List B8) (w : World) (hra : Rd w w.heap.size A n a) (hca : n ≤ c) (hrb : Rd w w.heap.size A2 n2 b) (hcb : n2 ≤ c2) (hn : n ≤ 500) (hn2 : n2 ≤ 500) (hba : blankB a = false) (hbb : blankB b = false) (hea : ¬ decE a = 0) (heb : decE b = 0)  :
    Calls Try.prog 39 #[.slice A n c, .slice A2 n2 c2] w fun e w' => e = .returned (.tuple #[zeroV, .int .i64 0, .int .i64 5]) ∧ Below w.heap.size w w' := by
  have hst := storeFloat
  have BA := fun (W : World) (h' : Rd W W.heap.size A n a) => Lib.hid (refBlank_any A n c a W.heap.size W h' (by omega))
  rw [hba] at BA
  have BB := fun (W : World) (h' : Rd W W.heap.size A2 n2 b) => Lib.hid (refBlank_any A2 n2 c2 b W.heap.size W h' (by omega))
  rw [hbb] at BB
  have Da := fun (W : World) (h' : Rd W W.heap.size A n a) => Lib.hid (refDec_any A n c a W h' hca)
  have Db := fun (W : World) (h' : Rd W W.heap.size A2 n2 b) => Lib.hid (refDec_any A2 n2 c2 b W h' hcb)
  rw [decV_bad hea] at Da
  unfold zeroV at Da
  generalize hEa : decE a = Ea at *
  have ma : (Ea != 0) = true := by rw [bne_iff_ne]; exact hea
  have ma' : (Ea == 0) = false := by rw [beq_eq_false_iff_ne]; exact hea
  clear hEa
  rw [decV_ok heb, heb] at Db
  unfold crownV at Db
  have X1 := Lib.hid ((hra.alloc (Nat.le_refl _) (.cells #[.int .i64 0, .int .i64 0, .int .i64 0, .float .f64 0, .int .i64 0, .int .i64 0, .int .i64 0, .int .i64 0] 42)).more (B' := (w.alloc (.cells #[.int .i64 0, .int .i64 0, .int .i64 0, .float .f64 0, .int .i64 0, .int .i64 0, .int .i64 0, .int .i64 0] 42)).heap.size) (by simp))
  have Y1 := Lib.hid ((hrb.alloc (Nat.le_refl _) (.cells #[.int .i64 0, .int .i64 0, .int .i64 0, .float .f64 0, .int .i64 0, .int .i64 0, .int .i64 0, .int .i64 0] 42)).more (B' := (w.alloc (.cells #[.int .i64 0, .int .i64 0, .int .i64 0, .float .f64 0, .int .i64 0, .int .i64 0, .int .i64 0, .int .i64 0] 42)).heap.size) (by simp))
  have Q1 := Lib.hid (Blk.new w 42 #[.int .i64 0, .int .i64 0, .int .i64 0, .float .f64 0, .int .i64 0, .int .i64 0, .int .i64 0, .int .i64 0])
  have B1 := Lib.hid ((Below.refl w.heap.size w).alloc (Nat.le_refl _) (.cells #[.int .i64 0, .int .i64 0, .int .i64 0, .float .f64 0, .int .i64 0, .int .i64 0, .int .i64 0, .int .i64 0] 42))
  have s1 : (w.alloc (.cells #[.int .i64 0, .int .i64 0, .int .i64 0, .float .f64 0, .int .i64 0, .int .i64 0, .int .i64 0, .int .i64 0] 42)).heap.size = w.heap.size + 1 := by simp
  clear hra hrb
  go_enter Try.func39, Try.ntmps39
  go_upto_region 1 with fail
  generalize w.alloc (.cells #[.int .i64 0, .int .i64 0, .int .i64 0, .float .f64 0, .int .i64 0, .int .i64 0, .int .i64 0, .int .i64 0] 42) = w1 at *
  go_wp2_with fail
  refine (Da _ X1.out).out.mono ?_
  rintro e v2 ⟨rfl, hb2⟩
  have t2 := hb2.size
  have X2 := Lib.hid ((((X1.out.below hb2).more t2).alloc (Nat.le_refl _) (.cells #[.int .i64 0, .int .i64 0, .int .i64 0, .float .f64 0, .int .i64 0, .int .i64 0, .int .i64 0, .int .i64 0] 42)).more (B' := (v2.alloc (.cells #[.int .i64 0, .int .i64 0, .int .i64 0, .float .f64 0, .int .i64 0, .int .i64 0, .int .i64 0, .int .i64 0] 42)).heap.size) (by simp))
  have Y2 := Lib.hid ((((Y1.out.below hb2).more t2).alloc (Nat.le_refl _) (.cells #[.int .i64 0, .int .i64 0, .int .i64 0, .float .f64 0, .int .i64 0, .int .i64 0, .int .i64 0, .int .i64 0] 42)).more (B' := (v2.alloc (.cells #[.int .i64 0, .int .i64 0, .int .i64 0, .float .f64 0, .int .i64 0, .int .i64 0, .int .i64 0, .int .i64 0] 42)).heap.size) (by simp))
  have Q2 := Lib.hid ((Q1.out.below hb2 (by omega)).alloc (.cells #[.int .i64 0, .int .i64 0, .int .i64 0, .float .f64 0, .int .i64 0, .int .i64 0, .int .i64 0, .int .i64 0] 42))
  have B2 := Lib.hid ((B1.out.trans (hb2.mono (by omega))).alloc (by omega) (.cells #[.int .i64 0, .int .i64 0, .int .i64 0, .float .f64 0, .int .i64 0, .int .i64 0, .int .i64 0, .int .i64 0] 42))
  have Na := Lib.hid (Blk.new v2 42 #[.int .i64 0, .int .i64 0, .int .i64 0, .float .f64 0, .int .i64 0, .int .i64 0, .int .i64 0, .int .i64 0])
  have s2 : (v2.alloc (.cells #[.int .i64 0, .int .i64 0, .int .i64 0, .float .f64 0, .int .i64 0, .int .i64 0, .int .i64 0, .int .i64 0] 42)).heap.size = v2.heap.size + 1 := by simp
  go_upto_region 2 with fail
  generalize hW2 : v2.alloc (.cells #[.int .i64 0, .int .i64 0, .int .i64 0, .float .f64 0, .int .i64 0, .int .i64 0, .int .i64 0, .int .i64 0] 42) = w2 at *
  clear hW2 hb2 X1 Y1 Q1 B1
  go_wp2_with fail
  refine (Db _ Y2.out).out.mono ?_
  rintro e v3 ⟨rfl, hb3⟩
  have t3 := hb3.size
  have X3 := Lib.hid ((((X2.out.below hb3).more t3).alloc (Nat.le_refl _) (.cells #[.int .i64 (numAt b 2), .int .i64 (numAt b 6), .int .i64 (numAt b 10), .float .f64 (gainAt b), .int .i64 (numAt b 14), .int .i64 (numAt b 18), .int .i64 (numAt b 22), .int .i64 (numAt b 26)] 42)).more (B' := (v3.alloc (.cells #[.int .i64 (numAt b 2), .int .i64 (numAt b 6), .int .i64 (numAt b 10), .float .f64 (gainAt b), .int .i64 (numAt b 14), .int .i64 (numAt b 18), .int .i64 (numAt b 22), .int .i64 (numAt b 26)] 42)).heap.size) (by simp))
  have Y3 := Lib.hid ((((Y2.out.below hb3).more t3).alloc (Nat.le_refl _) (.cells #[.int .i64 (numAt b 2), .int .i64 (numAt b 6), .int .i64 (numAt b 10), .float .f64 (gainAt b), .int .i64 (numAt b 14), .int .i64 (numAt b 18), .int .i64 (numAt b 22), .int .i64 (numAt b 26)] 42)).more (B' := (v3.alloc (.cells #[.int .i64 (numAt b 2), .int .i64 (numAt b 6), .int .i64 (numAt b 10), .float .f64 (gainAt b), .int .i64 (numAt b 14), .int .i64 (numAt b 18), .int .i64 (numAt b 22), .int .i64 (numAt b 26)] 42)).heap.size) (by simp))
  have Q3 := Lib.hid ((Q2.out.below hb3 (by omega)).alloc (.cells #[.int .i64 (numAt b 2), .int .i64 (numAt b 6), .int .i64 (numAt b 10), .float .f64 (gainAt b), .int .i64 (numAt b 14), .int .i64 (numAt b 18), .int .i64 (numAt b 22), .int .i64 (numAt b 26)] 42))
  have B3 := Lib.hid ((B2.out.trans (hb3.mono (by omega))).alloc (by omega) (.cells #[.int .i64 (numAt b 2), .int .i64 (numAt b 6), .int .i64 (numAt b 10), .float .f64 (gainAt b), .int .i64 (numAt b 14), .int .i64 (numAt b 18), .int .i64 (numAt b 22), .int .i64 (numAt b 26)] 42))
  have Nb := Lib.hid (Blk.new v3 42 #[.int .i64 (numAt b 2), .int .i64 (numAt b 6), .int .i64 (numAt b 10), .float .f64 (gainAt b), .int .i64 (numAt b 14), .int .i64 (numAt b 18), .int .i64 (numAt b 22), .int .i64 (numAt b 26)])
  have s3 : (v3.alloc (.cells #[.int .i64 (numAt b 2), .int .i64 (numAt b 6), .int .i64 (numAt b 10), .float .f64 (gainAt b), .int .i64 (numAt b 14), .int .i64 (numAt b 18), .int .i64 (numAt b 22), .int .i64 (numAt b 26)] 42)).heap.size = v3.heap.size + 1 := by simp
  have Na := Lib.hid ((Na.out.below hb3 (by omega)).alloc (.cells #[.int .i64 (numAt b 2), .int .i64 (numAt b 6), .int .i64 (numAt b 10), .float .f64 (gainAt b), .int .i64 (numAt b 14), .int .i64 (numAt b 18), .int .i64 (numAt b 22), .int .i64 (numAt b 26)] 42))
  go_upto_region 3 with fail
  generalize hW3 : v3.alloc (.cells #[.int .i64 (numAt b 2), .int .i64 (numAt b 6), .int .i64 (numAt b 10), .float .f64 (gainAt b), .int .i64 (numAt b 14), .int .i64 (numAt b 18), .int .i64 (numAt b 22), .int .i64 (numAt b 26)] 42) = w3 at *
  clear hW3 hb3 X2 Y2 Q2 B2
  have d0 := Nb.out.cell 0
  have d1 := Nb.out.cell 1
  have d2 := Nb.out.cell 2
  have d3 := Nb.out.cell 3
  have d4 := Nb.out.cell 4
  have d5 := Nb.out.cell 5
  have d6 := Nb.out.cell 6
  have d7 := Nb.out.cell 7
  simp at d0 d1 d2 d3 d4 d5 d6 d7
  go_wp2_with fail
  refine (BA _ X3.out).out.mono ?_
  rintro e w' ⟨rfl, rfl⟩
  go_wp2_with fail
  refine (BB _ Y3.out).out.mono ?_
  rintro e w' ⟨rfl, rfl⟩
  go_wp2_with fail
  refine (BA _ X3.out).out.mono ?_
  rintro e w' ⟨rfl, rfl⟩
  go_upto_region 10 with fail
  have q0 := Q3.out.cell 0
  have g0 := Q3.out.frozen 0
  have q1 := Q3.out.cell 1
  have g1 := Q3.out.frozen 1
  have q2 := Q3.out.cell 2
  have g2 := Q3.out.frozen 2
  have q3 := Q3.out.cell 3
  have g3 := Q3.out.frozen 3
  have q4 := Q3.out.cell 4
  have g4 := Q3.out.frozen 4
  have q5 := Q3.out.cell 5
  have g5 := Q3.out.frozen 5
  have q6 := Q3.out.cell 6
  have g6 := Q3.out.frozen 6
  have q7 := Q3.out.cell 7
  have g7 := Q3.out.frozen 7
  simp at q0 q1 q2 q3 q4 q5 q6 q7
  go_wp2_with fail
  have Y := ((((((((Q3.out).set_ 0 (.int .i64 0)).set_ 1 (.int .i64 0)).set_ 2 (.int .i64 0)).set_ 3 (.float .f64 0)).set_ 4 (.int .i64 0)).set_ 5 (.int .i64 0)).set_ 6 (.int .i64 0)).set_ 7 (.int .i64 0)
  have BY := ((((((((B3.out).setCell (p := ⟨w.heap.size, 0, none⟩) (Nat.le_refl _) (.int .i64 0)).setCell (p := ⟨w.heap.size, 1, none⟩) (Nat.le_refl _) (.int .i64 0)).setCell (p := ⟨w.heap.size, 2, none⟩) (Nat.le_refl _) (.int .i64 0)).setCell (p := ⟨w.heap.size, 3, none⟩) (Nat.le_refl _) (.float .f64 0)).setCell (p := ⟨w.heap.size, 4, none⟩) (Nat.le_refl _) (.int .i64 0)).setCell (p := ⟨w.heap.size, 5, none⟩) (Nat.le_refl _) (.int .i64 0)).setCell (p := ⟨w.heap.size, 6, none⟩) (Nat.le_refl _) (.int .i64 0)).setCell (p := ⟨w.heap.size, 7, none⟩) (Nat.le_refl _) (.int .i64 0)
  generalize ((((((((w3.setCell ⟨w.heap.size, 0, none⟩ (.int .i64 0)).setCell ⟨w.heap.size, 1, none⟩ (.int .i64 0)).setCell ⟨w.heap.size, 2, none⟩ (.int .i64 0)).setCell ⟨w.heap.size, 3, none⟩ (.float .f64 0)).setCell ⟨w.heap.size, 4, none⟩ (.int .i64 0)).setCell ⟨w.heap.size, 5, none⟩ (.int .i64 0)).setCell ⟨w.heap.size, 6, none⟩ (.int .i64 0)).setCell ⟨w.heap.size, 7, none⟩ (.int .i64 0)) = wz at *
  have y0 := Y.cell 0
  have y1 := Y.cell 1
  have y2 := Y.cell 2
  have y3 := Y.cell 3
  have y4 := Y.cell 4
  have y5 := Y.cell 5
  have y6 := Y.cell 6
  have y7 := Y.cell 7
  simp at y0 y1 y2 y3 y4 y5 y6 y7
  (try simp only [Exit.inBlock, Exit.then])
  refine bodyPost_ret (by simp [results, Try.results39, go_sem, y0, y1, y2, y3, y4, y5, y6, y7]; try rfl) rfl ?_
  exact ⟨rfl, BY⟩
set_option maxHeartbeats 4000000 in
theorem rc_bad1y (A : Option Addr) (n c : Nat) (a : List B8) (A2 : Option Addr) (n2 c2 : Nat) (b : List B8) (w : World) (hra : Rd w w.heap.size A n a) (hca : n ≤ c) (hrb : Rd w w.heap.size A2 n2 b) (hcb : n2 ≤ c2) (hn : n ≤ 500) (hn2 : n2 ≤ 500) (hba : blankB a = false) (hbb : blankB b = false) (hea : ¬ decE a = 0) (heb : ¬ decE b = 0)  :
    Calls Try.prog 39 #[.slice A n c, .slice A2 n2 c2] w fun e w' => e = .returned (.tuple #[zeroV, .int .i64 0, .int .i64 5]) ∧ Below w.heap.size w w' := by
  have hst := storeFloat
  have BA := fun (W : World) (h' : Rd W W.heap.size A n a) => Lib.hid (refBlank_any A n c a W.heap.size W h' (by omega))
  rw [hba] at BA
  have BB := fun (W : World) (h' : Rd W W.heap.size A2 n2 b) => Lib.hid (refBlank_any A2 n2 c2 b W.heap.size W h' (by omega))
  rw [hbb] at BB
  have Da := fun (W : World) (h' : Rd W W.heap.size A n a) => Lib.hid (refDec_any A n c a W h' hca)
  have Db := fun (W : World) (h' : Rd W W.heap.size A2 n2 b) => Lib.hid (refDec_any A2 n2 c2 b W h' hcb)
  rw [decV_bad hea] at Da
  unfold zeroV at Da
  generalize hEa : decE a = Ea at *
  have ma : (Ea != 0) = true := by rw [bne_iff_ne]; exact hea
  have ma' : (Ea == 0) = false := by rw [beq_eq_false_iff_ne]; exact hea
  clear hEa
  rw [decV_bad heb] at Db
  unfold zeroV at Db
  generalize hEb : decE b = Eb at *
  have mb : (Eb != 0) = true := by rw [bne_iff_ne]; exact heb
  have mb' : (Eb == 0) = false := by rw [beq_eq_false_iff_ne]; exact heb
  clear hEb
  have X1 := Lib.hid ((hra.alloc (Nat.le_refl _) (.cells #[.int .i64 0, .int .i64 0, .int .i64 0, .float .f64 0, .int .i64 0, .int .i64 0, .int .i64 0, .int .i64 0] 42)).more (B' := (w.alloc (.cells #[.int .i64 0, .int .i64 0, .int .i64 0, .float .f64 0, .int .i64 0, .int .i64 0, .int .i64 0, .int .i64 0] 42)).heap.size) (by simp))
  have Y1 := Lib.hid ((hrb.alloc (Nat.le_refl _) (.cells #[.int .i64 0, .int .i64 0, .int .i64 0, .float .f64 0, .int .i64 0, .int .i64 0, .int .i64 0, .int .i64 0] 42)).more (B' := (w.alloc (.cells #[.int .i64 0, .int .i64 0, .int .i64 0, .float .f64 0, .int .i64 0, .int .i64 0, .int .i64 0, .int .i64 0] 42)).heap.size) (by simp))
  have Q1 := Lib.hid (Blk.new w 42 #[.int .i64 0, .int .i64 0, .int .i64 0, .float .f64 0, .int .i64 0, .int .i64 0, .int .i64 0, .int .i64 0])
  have B1 := Lib.hid ((Below.refl w.heap.size w).alloc (Nat.le_refl _) (.cells #[.int .i64 0, .int .i64 0, .int .i64 0, .float .f64 0, .int .i64 0, .int .i64 0, .int .i64 0, .int .i64 0] 42))
  have s1 : (w.alloc (.cells #[.int .i64 0, .int .i64 0, .int .i64 0, .float .f64 0, .int .i64 0, .int .i64 0, .int .i64 0, .int .i64 0] 42)).heap.size = w.heap.size + 1 := by simp
  clear hra hrb
  go_enter Try.func39, Try.ntmps39
  go_upto_region 1 with fail
  generalize w.alloc (.cells #[.int .i64 0, .int .i64 0, .int .i64 0, .float .f64 0, .int .i64 0, .int .i64 0, .int .i64 0, .int .i64 0] 42) = w1 at *
  go_wp2_with fail
  refine (Da _ X1.out).out.mono ?_
  rintro e v2 ⟨rfl, hb2⟩
  have t2 := hb2.size
  have X2 := Lib.hid ((((X1.out.below hb2).more t2).alloc (Nat.le_refl _) (.cells #[.int .i64 0, .int .i64 0, .int .i64 0, .float .f64 0, .int .i64 0, .int .i64 0, .int .i64 0, .int .i64 0] 42)).more (B' := (v2.alloc (.cells #[.int .i64 0, .int .i64 0, .int .i64 0, .float .f64 0, .int .i64 0, .int .i64 0, .int .i64 0, .int .i64 0] 42)).heap.size) (by simp))
  have Y2 := Lib.hid ((((Y1.out.below hb2).more t2).alloc (Nat.le_refl _) (.cells #[.int .i64 0, .int .i64 0, .int .i64 0, .float .f64 0, .int .i64 0, .int .i64 0, .int .i64 0, .int .i64 0] 42)).more (B' := (v2.alloc (.cells #[.int .i64 0, .int .i64 0, .int .i64 0, .float .f64 0, .int .i64 0, .int .i64 0, .int .i64 0, .int .i64 0] 42)).heap.size) (by simp))
  have Q2 := Lib.hid ((Q1.out.below hb2 (by omega)).alloc (.cells #[.int .i64 0, .int .i64 0, .int .i64 0, .float .f64 0, .int .i64 0, .int .i64 0, .int .i64 0, .int .i64 0] 42))
  have B2 := Lib.hid ((B1.out.trans (hb2.mono (by omega))).alloc (by omega) (.cells #[.int .i64 0, .int .i64 0, .int .i64 0, .float .f64 0, .int .i64 0, .int .i64 0, .int .i64 0, .int .i64 0] 42))
  have Na := Lib.hid (Blk.new v2 42 #[.int .i64 0, .int .i64 0, .int .i64 0, .float .f64 0, .int .i64 0, .int .i64 0, .int .i64 0, .int .i64 0])
  have s2 : (v2.alloc (.cells #[.int .i64 0, .int .i64 0, .int .i64 0, .float .f64 0, .int .i64 0, .int .i64 0, .int .i64 0, .int .i64 0] 42)).heap.size = v2.heap.size + 1 := by simp
  go_upto_region 2 with fail
  generalize hW2 : v2.alloc (.cells #[.int .i64 0, .int .i64 0, .int .i64 0, .float .f64 0, .int .i64 0, .int .i64 0, .int .i64 0, .int .i64 0] 42) = w2 at *
  clear hW2 hb2 X1 Y1 Q1 B1
  go_wp2_with fail
  refine (Db _ Y2.out).out.mono ?_
  rintro e v3 ⟨rfl, hb3⟩
  have t3 := hb3.size
  have X3 := Lib.hid ((((X2.out.below hb3).more t3).alloc (Nat.le_refl _) (.cells #[.int .i64 0, .int .i64 0, .int .i64 0, .float .f64 0, .int .i64 0, .int .i64 0, .int .i64 0, .int .i64 0] 42)).more (B' := (v3.alloc (.cells #[.int .i64 0, .int .i64 0, .int .i64 0, .float .f64 0, .int .i64 0, .int .i64 0, .int .i64 0, .int .i64 0] 42)).heap.size) (by simp))
  have Y3 := Lib.hid ((((Y2.out.below hb3).more t3).alloc (Nat.le_refl _) (.cells #[.int .i64 0, .int .i64 0, .int .i64 0, .float .f64 0, .int .i64 0, .int .i64 0, .int .i64 0, .int .i64 0] 42)).more (B' := (v3.alloc (.cells #[.int .i64 0, .int .i64 0, .int .i64 0, .float .f64 0, .int .i64 0, .int .i64 0, .int .i64 0, .int .i64 0] 42)).heap.size) (by simp))
  have Q3 := Lib.hid ((Q2.out.below hb3 (by omega)).alloc (.cells #[.int .i64 0, .int .i64 0, .int .i64 0, .float .f64 0, .int .i64 0, .int .i64 0, .int .i64 0, .int .i64 0] 42))
  have B3 := Lib.hid ((B2.out.trans (hb3.mono (by omega))).alloc (by omega) (.cells #[.int .i64 0, .int .i64 0, .int .i64 0, .float .f64 0, .int .i64 0, .int .i64 0, .int .i64 0, .int .i64 0] 42))
  have Nb := Lib.hid (Blk.new v3 42 #[.int .i64 0, .int .i64 0, .int .i64 0, .float .f64 0, .int .i64 0, .int .i64 0, .int .i64 0, .int .i64 0])
  have s3 : (v3.alloc (.cells #[.int .i64 0, .int .i64 0, .int .i64 0, .float .f64 0, .int .i64 0, .int .i64 0, .int .i64 0, .int .i64 0] 42)).heap.size = v3.heap.size + 1 := by simp
  have Na := Lib.hid ((Na.out.below hb3 (by omega)).alloc (.cells #[.int .i64 0, .int .i64 0, .int .i64 0, .float .f64 0, .int .i64 0, .int .i64 0, .int .i64 0, .int .i64 0] 42))
  go_upto_region 3 with fail
  generalize hW3 : v3.alloc (.cells #[.int .i64 0, .int .i64 0, .int .i64 0, .float .f64 0, .int .i64 0, .int .i64 0, .int .i64 0, .int .i64 0] 42) = w3 at *
  clear hW3 hb3 X2 Y2 Q2 B2
  go_wp2_with fail
  refine (BA _ X3.out).out.mono ?_
  rintro e w' ⟨rfl, rfl⟩
  go_wp2_with fail
  refine (BB _ Y3.out).out.mono ?_
  rintro e w' ⟨rfl, rfl⟩
  go_wp2_with fail
  refine (BA _ X3.out).out.mono ?_
  rintro e w' ⟨rfl, rfl⟩
  go_upto_region 10 with fail
  have q0 := Q3.out.cell 0
  have g0 := Q3.out.frozen 0
  have q1 := Q3.out.cell 1
  have g1 := Q3.out.frozen 1
  have q2 := Q3.out.cell 2
  have g2 := Q3.out.frozen 2
  have q3 := Q3.out.cell 3
  have g3 := Q3.out.frozen 3
  have q4 := Q3.out.cell 4
  have g4 := Q3.out.frozen 4
  have q5 := Q3.out.cell 5
  have g5 := Q3.out.frozen 5
  have q6 := Q3.out.cell 6
  have g6 := Q3.out.frozen 6
  have q7 := Q3.out.cell 7
  have g7 := Q3.out.frozen 7
  simp at q0 q1 q2 q3 q4 q5 q6 q7
  go_wp2_with fail
  have Y := ((((((((Q3.out).set_ 0 (.int .i64 0)).set_ 1 (.int .i64 0)).set_ 2 (.int .i64 0)).set_ 3 (.float .f64 0)).set_ 4 (.int .i64 0)).set_ 5 (.int .i64 0)).set_ 6 (.int .i64 0)).set_ 7 (.int .i64 0)
  have BY := ((((((((B3.out).setCell (p := ⟨w.heap.size, 0, none⟩) (Nat.le_refl _) (.int .i64 0)).setCell (p := ⟨w.heap.size, 1, none⟩) (Nat.le_refl _) (.int .i64 0)).setCell (p := ⟨w.heap.size, 2, none⟩) (Nat.le_refl _) (.int .i64 0)).setCell (p := ⟨w.heap.size, 3, none⟩) (Nat.le_refl _) (.float .f64 0)).setCell (p := ⟨w.heap.size, 4, none⟩) (Nat.le_refl _) (.int .i64 0)).setCell (p := ⟨w.heap.size, 5, none⟩) (Nat.le_refl _) (.int .i64 0)).setCell (p := ⟨w.heap.size, 6, none⟩) (Nat.le_refl _) (.int .i64 0)).setCell (p := ⟨w.heap.size, 7, none⟩) (Nat.le_refl _) (.int .i64 0)
  generalize ((((((((w3.setCell ⟨w.heap.size, 0, none⟩ (.int .i64 0)).setCell ⟨w.heap.size, 1, none⟩ (.int .i64 0)).setCell ⟨w.heap.size, 2, none⟩ (.int .i64 0)).setCell ⟨w.heap.size, 3, none⟩ (.float .f64 0)).setCell ⟨w.heap.size, 4, none⟩ (.int .i64 0)).setCell ⟨w.heap.size, 5, none⟩ (.int .i64 0)).setCell ⟨w.heap.size, 6, none⟩ (.int .i64 0)).setCell ⟨w.heap.size, 7, none⟩ (.int .i64 0)) = wz at *
  have y0 := Y.cell 0
  have y1 := Y.cell 1
  have y2 := Y.cell 2
  have y3 := Y.cell 3
  have y4 := Y.cell 4
  have y5 := Y.cell 5
  have y6 := Y.cell 6
  have y7 := Y.cell 7
  simp at y0 y1 y2 y3 y4 y5 y6 y7
  (try simp only [Exit.inBlock, Exit.then])
  refine bodyPost_ret (by simp [results, Try.results39, go_sem, y0, y1, y2, y3, y4, y5, y6, y7]; try rfl) rfl ?_
  exact ⟨rfl, BY⟩
set_option maxHeartbeats 4000000 in
theorem rc_bad2 (A : Option Addr) (n c : Nat) (a : List B8) (A2 : Option Addr) (n2 c2 : Nat) (b : List B8) (w : World) (hra : Rd w w.heap.size A n a) (hca : n ≤ c) (hrb : Rd w w.heap.size A2 n2 b) (hcb : n2 ≤ c2) (hn : n ≤ 500) (hn2 : n2 ≤ 500) (hba : blankB a = false) (hbb : blankB b = false) (hea : decE a = 0) (heb : ¬ decE b = 0)  :
    Calls Try.prog 39 #[.slice A n c, .slice A2 n2 c2] w fun e w' => e = .returned (.tuple #[zeroV, .int .i64 0, .int .i64 5]) ∧ Below w.heap.size w w' := by
  have hst := storeFloat
  have BA := fun (W : World) (h' : Rd W W.heap.size A n a) => Lib.hid (refBlank_any A n c a W.heap.size W h' (by omega))
  rw [hba] at BA
  have BB := fun (W : World) (h' : Rd W W.heap.size A2 n2 b) => Lib.hid (refBlank_any A2 n2 c2 b W.heap.size W h' (by omega))
  rw [hbb] at BB
  have Da := fun (W : World) (h' : Rd W W.heap.size A n a) => Lib.hid (refDec_any A n c a W h' hca)
  have Db := fun (W : World) (h' : Rd W W.heap.size A2 n2 b) => Lib.hid (refDec_any A2 n2 c2 b W h' hcb)
  rw [decV_ok hea, hea] at Da
  unfold crownV at Da
  rw [decV_bad heb] at Db
  unfold zeroV at Db
  generalize hEb : decE b = Eb at *
  have mb : (Eb != 0) = true := by rw [bne_iff_ne]; exact heb
  have mb' : (Eb == 0) = false := by rw [beq_eq_false_iff_ne]; exact heb
  clear hEb
  have X1 := Lib.hid ((hra.alloc (Nat.le_refl _) (.cells #[.int .i64 0, .int .i64 0, .int .i64 0, .float .f64 0, .int .i64 0, .int .i64 0, .int .i64 0, .int .i64 0] 42)).more (B' := (w.alloc (.cells #[.int .i64 0, .int .i64 0, .int .i64 0, .float .f64 0, .int .i64 0, .int .i64 0, .int .i64 0, .int .i64 0] 42)).heap.size) (by simp))
  have Y1 := Lib.hid ((hrb.alloc (Nat.le_refl _) (.cells #[.int .i64 0, .int .i64 0, .int .i64 0, .float .f64 0, .int .i64 0, .int .i64 0, .int .i64 0, .int .i64 0] 42)).more (B' := (w.alloc (.cells #[.int .i64 0, .int .i64 0, .int .i64 0, .float .f64 0, .int .i64 0, .int .i64 0, .int .i64 0, .int .i64 0] 42)).heap.size) (by simp))
  have Q1 := Lib.hid (Blk.new w 42 #[.int .i64 0, .int .i64 0, .int .i64 0, .float .f64 0, .int .i64 0, .int .i64 0, .int .i64 0, .int .i64 0])
  have B1 := Lib.hid ((Below.refl w.heap.size w).alloc (Nat.le_refl _) (.cells #[.int .i64 0, .int .i64 0, .int .i64 0, .float .f64 0, .int .i64 0, .int .i64 0, .int .i64 0, .int .i64 0] 42))
  have s1 : (w.alloc (.cells #[.int .i64 0, .int .i64 0, .int .i64 0, .float .f64 0, .int .i64 0, .int .i64 0, .int .i64 0, .int .i64 0] 42)).heap.size = w.heap.size + 1 := by simp
  clear hra hrb
  go_enter Try.func39, Try.ntmps39
  go_upto_region 1 with fail
  generalize w.alloc (.cells #[.int .i64 0, .int .i64 0, .int .i64 0, .float .f64 0, .int .i64 0, .int .i64 0, .int .i64 0, .int .i64 0] 42) = w1 at *
  go_wp2_with fail
  refine (Da _ X1.out).out.mono ?_
  rintro e v2 ⟨rfl, hb2⟩
  have t2 := hb2.size
  have X2 := Lib.hid ((((X1.out.below hb2).more t2).alloc (Nat.le_refl _) (.cells #[.int .i64 (numAt a 2), .int .i64 (numAt a 6), .int .i64 (numAt a 10), .float .f64 (gainAt a), .int .i64 (numAt a 14), .int .i64 (numAt a 18), .int .i64 (numAt a 22), .int .i64 (numAt a 26)] 42)).more (B' := (v2.alloc (.cells #[.int .i64 (numAt a 2), .int .i64 (numAt a 6), .int .i64 (numAt a 10), .float .f64 (gainAt a), .int .i64 (numAt a 14), .int .i64 (numAt a 18), .int .i64 (numAt a 22), .int .i64 (numAt a 26)] 42)).heap.size) (by simp))
  have Y2 := Lib.hid ((((Y1.out.below hb2).more t2).alloc (Nat.le_refl _) (.cells #[.int .i64 (numAt a 2), .int .i64 (numAt a 6), .int .i64 (numAt a 10), .float .f64 (gainAt a), .int .i64 (numAt a 14), .int .i64 (numAt a 18), .int .i64 (numAt a 22), .int .i64 (numAt a 26)] 42)).more (B' := (v2.alloc (.cells #[.int .i64 (numAt a 2), .int .i64 (numAt a 6), .int .i64 (numAt a 10), .float .f64 (gainAt a), .int .i64 (numAt a 14), .int .i64 (numAt a 18), .int .i64 (numAt a 22), .int .i64 (numAt a 26)] 42)).heap.size) (by simp))
  have Q2 := Lib.hid ((Q1.out.below hb2 (by omega)).alloc (.cells #[.int .i64 (numAt a 2), .int .i64 (numAt a 6), .int .i64 (numAt a 10), .float .f64 (gainAt a), .int .i64 (numAt a 14), .int .i64 (numAt a 18), .int .i64 (numAt a 22), .int .i64 (numAt a 26)] 42))
  have B2 := Lib.hid ((B1.out.trans (hb2.mono (by omega))).alloc (by omega) (.cells #[.int .i64 (numAt a 2), .int .i64 (numAt a 6), .int .i64 (numAt a 10), .float .f64 (gainAt a), .int .i64 (numAt a 14), .int .i64 (numAt a 18), .int .i64 (numAt a 22), .int .i64 (numAt a 26)] 42))
  have Na := Lib.hid (Blk.new v2 42 #[.int .i64 (numAt a 2), .int .i64 (numAt a 6), .int .i64 (numAt a 10), .float .f64 (gainAt a), .int .i64 (numAt a 14), .int .i64 (numAt a 18), .int .i64 (numAt a 22), .int .i64 (numAt a 26)])
  have s2 : (v2.alloc (.cells #[.int .i64 (numAt a 2), .int .i64 (numAt a 6), .int .i64 (numAt a 10), .float .f64 (gainAt a), .int .i64 (numAt a 14), .int .i64 (numAt a 18), .int .i64 (numAt a 22), .int .i64 (numAt a 26)] 42)).heap.size = v2.heap.size + 1 := by simp
  go_upto_region 2 with fail
  generalize hW2 : v2.alloc (.cells #[.int .i64 (numAt a 2), .int .i64 (numAt a 6), .int .i64 (numAt a 10), .float .f64 (gainAt a), .int .i64 (numAt a 14), .int .i64 (numAt a 18), .int .i64 (numAt a 22), .int .i64 (numAt a 26)] 42) = w2 at *
  clear hW2 hb2 X1 Y1 Q1 B1
  go_wp2_with fail
  refine (Db _ Y2.out).out.mono ?_
  rintro e v3 ⟨rfl, hb3⟩
  have t3 := hb3.size
  have X3 := Lib.hid ((((X2.out.below hb3).more t3).alloc (Nat.le_refl _) (.cells #[.int .i64 0, .int .i64 0, .int .i64 0, .float .f64 0, .int .i64 0, .int .i64 0, .int .i64 0, .int .i64 0] 42)).more (B' := (v3.alloc (.cells #[.int .i64 0, .int .i64 0, .int .i64 0, .float .f64 0, .int .i64 0, .int .i64 0, .int .i64 0, .int .i64 0] 42)).heap.size) (by simp))
  have Y3 := Lib.hid ((((Y2.out.below hb3).more t3).alloc (Nat.le_refl _) (.cells #[.int .i64 0, .int .i64 0, .int .i64 0, .float .f64 0, .int .i64 0, .int .i64 0, .int .i64 0, .int .i64 0] 42)).more (B' := (v3.alloc (.cells #[.int .i64 0, .int .i64 0, .int .i64 0, .float .f64 0, .int .i64 0, .int .i64 0, .int .i64 0, .int .i64 0] 42)).heap.size) (by simp))
  have Q3 := Lib.hid ((Q2.out.below hb3 (by omega)).alloc (.cells #[.int .i64 0, .int .i64 0, .int .i64 0, .float .f64 0, .int .i64 0, .int .i64 0, .int .i64 0, .int .i64 0] 42))
  have B3 := Lib.hid ((B2.out.trans (hb3.mono (by omega))).alloc (by omega) (.cells #[.int .i64 0, .int .i64 0, .int .i64 0, .float .f64 0, .int .i64 0, .int .i64 0, .int .i64 0, .int .i64 0] 42))
  have Nb := Lib.hid (Blk.new v3 42 #[.int .i64 0, .int .i64 0, .int .i64 0, .float .f64 0, .int .i64 0, .int .i64 0, .int .i64 0, .int .i64 0])
  have s3 : (v3.alloc (.cells #[.int .i64 0, .int .i64 0, .int .i64 0, .float .f64 0, .int .i64 0, .int .i64 0, .int .i64 0, .int .i64 0] 42)).heap.size = v3.heap.size + 1 := by simp
  have Na := Lib.hid ((Na.out.below hb3 (by omega)).alloc (.cells #[.int .i64 0, .int .i64 0, .int .i64 0, .float .f64 0, .int .i64 0, .int .i64 0, .int .i64 0, .int .i64 0] 42))
  go_upto_region 3 with fail
  generalize hW3 : v3.alloc (.cells #[.int .i64 0, .int .i64 0, .int .i64 0, .float .f64 0, .int .i64 0, .int .i64 0, .int .i64 0, .int .i64 0] 42) = w3 at *
  clear hW3 hb3 X2 Y2 Q2 B2
  have k0 := Na.out.cell 0
  have k1 := Na.out.cell 1
  have k2 := Na.out.cell 2
  have k3 := Na.out.cell 3
  have k4 := Na.out.cell 4
  have k5 := Na.out.cell 5
  have k6 := Na.out.cell 6
  have k7 := Na.out.cell 7
  simp at k0 k1 k2 k3 k4 k5 k6 k7
  go_wp2_with fail
  refine (BA _ X3.out).out.mono ?_
  rintro e w' ⟨rfl, rfl⟩
  go_wp2_with fail
  refine (BB _ Y3.out).out.mono ?_
  rintro e w' ⟨rfl, rfl⟩
  go_wp2_with fail
  refine (BA _ X3.out).out.mono ?_
  rintro e w' ⟨rfl, rfl⟩
  go_upto_region 10 with fail
  have q0 := Q3.out.cell 0
  have g0 := Q3.out.frozen 0
  have q1 := Q3.out.cell 1
  have g1 := Q3.out.frozen 1
  have q2 := Q3.out.cell 2
  have g2 := Q3.out.frozen 2
  have q3 := Q3.out.cell 3
  have g3 := Q3.out.frozen 3
  have q4 := Q3.out.cell 4
  have g4 := Q3.out.frozen 4
  have q5 := Q3.out.cell 5
  have g5 := Q3.out.frozen 5
  have q6 := Q3.out.cell 6
  have g6 := Q3.out.frozen 6
  have q7 := Q3.out.cell 7
  have g7 := Q3.out.frozen 7
  simp at q0 q1 q2 q3 q4 q5 q6 q7
  go_wp2_with fail
  have Y := ((((((((Q3.out).set_ 0 (.int .i64 0)).set_ 1 (.int .i64 0)).set_ 2 (.int .i64 0)).set_ 3 (.float .f64 0)).set_ 4 (.int .i64 0)).set_ 5 (.int .i64 0)).set_ 6 (.int .i64 0)).set_ 7 (.int .i64 0)
  have BY := ((((((((B3.out).setCell (p := ⟨w.heap.size, 0, none⟩) (Nat.le_refl _) (.int .i64 0)).setCell (p := ⟨w.heap.size, 1, none⟩) (Nat.le_refl _) (.int .i64 0)).setCell (p := ⟨w.heap.size, 2, none⟩) (Nat.le_refl _) (.int .i64 0)).setCell (p := ⟨w.heap.size, 3, none⟩) (Nat.le_refl _) (.float .f64 0)).setCell (p := ⟨w.heap.size, 4, none⟩) (Nat.le_refl _) (.int .i64 0)).setCell (p := ⟨w.heap.size, 5, none⟩) (Nat.le_refl _) (.int .i64 0)).setCell (p := ⟨w.heap.size, 6, none⟩) (Nat.le_refl _) (.int .i64 0)).setCell (p := ⟨w.heap.size, 7, none⟩) (Nat.le_refl _) (.int .i64 0)
  generalize ((((((((w3.setCell ⟨w.heap.size, 0, none⟩ (.int .i64 0)).setCell ⟨w.heap.size, 1, none⟩ (.int .i64 0)).setCell ⟨w.heap.size, 2, none⟩ (.int .i64 0)).setCell ⟨w.heap.size, 3, none⟩ (.float .f64 0)).setCell ⟨w.heap.size, 4, none⟩ (.int .i64 0)).setCell ⟨w.heap.size, 5, none⟩ (.int .i64 0)).setCell ⟨w.heap.size, 6, none⟩ (.int .i64 0)).setCell ⟨w.heap.size, 7, none⟩ (.int .i64 0)) = wz at *
  have y0 := Y.cell 0
  have y1 := Y.cell 1
  have y2 := Y.cell 2
  have y3 := Y.cell 3
  have y4 := Y.cell 4
  have y5 := Y.cell 5
  have y6 := Y.cell 6
  have y7 := Y.cell 7
  simp at y0 y1 y2 y3 y4 y5 y6 y7
  (try simp only [Exit.inBlock, Exit.then])
  refine bodyPost_ret (by simp [results, Try.results39, go_sem, y0, y1, y2, y3, y4, y5, y6, y7]; try rfl) rfl ?_
  exact ⟨rfl, BY⟩
set_option maxHeartbeats 4000000 in
theorem rc_same (A : Option Addr) (n c : Nat) (a : List B8) (A2 : Option Addr) (n2 c2 : Nat) (b : List B8) (w : World) (hra : Rd w w.heap.size A n a) (hca : n ≤ c) (hrb : Rd w w.heap.size A2 n2 b) (hcb : n2 ≤ c2) (hn : n ≤ 500) (hn2 : n2 ≤ 500) (hba : blankB a = false) (hbb : blankB b = false) (hea : decE a = 0) (heb : decE b = 0) (hg : numAt a 2 = numAt b 2) :
    Calls Try.prog 39 #[.slice A n c, .slice A2 n2 c2] w fun e w' => e = .returned (.tuple #[zeroV, .int .i64 0, .int .i64 4]) ∧ Below w.heap.size w w' := by
  have hst := storeFloat
  have BA := fun (W : World) (h' : Rd W W.heap.size A n a) => Lib.hid (refBlank_any A n c a W.heap.size W h' (by omega))
  rw [hba] at BA
  have BB := fun (W : World) (h' : Rd W W.heap.size A2 n2 b) => Lib.hid (refBlank_any A2 n2 c2 b W.heap.size W h' (by omega))
  rw [hbb] at BB
  have Da := fun (W : World) (h' : Rd W W.heap.size A n a) => Lib.hid (refDec_any A n c a W h' hca)
  have Db := fun (W : World) (h' : Rd W W.heap.size A2 n2 b) => Lib.hid (refDec_any A2 n2 c2 b W h' hcb)
  rw [decV_ok hea, hea] at Da
  unfold crownV at Da
  rw [decV_ok heb, heb] at Db
  unfold crownV at Db
  have hg1 : (numAt a 2 == numAt b 2) = true := by rw [beq_iff_eq]; exact hg
  clear hg
  have X1 := Lib.hid ((hra.alloc (Nat.le_refl _) (.cells #[.int .i64 0, .int .i64 0, .int .i64 0, .float .f64 0, .int .i64 0, .int .i64 0, .int .i64 0, .int .i64 0] 42)).more (B' := (w.alloc (.cells #[.int .i64 0, .int .i64 0, .int .i64 0, .float .f64 0, .int .i64 0, .int .i64 0, .int .i64 0, .int .i64 0] 42)).heap.size) (by simp))
  have Y1 := Lib.hid ((hrb.alloc (Nat.le_refl _) (.cells #[.int .i64 0, .int .i64 0, .int .i64 0, .float .f64 0, .int .i64 0, .int .i64 0, .int .i64 0, .int .i64 0] 42)).more (B' := (w.alloc (.cells #[.int .i64 0, .int .i64 0, .int .i64 0, .float .f64 0, .int .i64 0, .int .i64 0, .int .i64 0, .int .i64 0] 42)).heap.size) (by simp))
  have Q1 := Lib.hid (Blk.new w 42 #[.int .i64 0, .int .i64 0, .int .i64 0, .float .f64 0, .int .i64 0, .int .i64 0, .int .i64 0, .int .i64 0])
  have B1 := Lib.hid ((Below.refl w.heap.size w).alloc (Nat.le_refl _) (.cells #[.int .i64 0, .int .i64 0, .int .i64 0, .float .f64 0, .int .i64 0, .int .i64 0, .int .i64 0, .int .i64 0] 42))
  have s1 : (w.alloc (.cells #[.int .i64 0, .int .i64 0, .int .i64 0, .float .f64 0, .int .i64 0, .int .i64 0, .int .i64 0, .int .i64 0] 42)).heap.size = w.heap.size + 1 := by simp
  clear hra hrb
  go_enter Try.func39, Try.ntmps39
  go_upto_region 1 with fail
  generalize w.alloc (.cells #[.int .i64 0, .int .i64 0, .int .i64 0, .float .f64 0, .int .i64 0, .int .i64 0, .int .i64 0, .int .i64 0] 42) = w1 at *
  go_wp2_with fail
  refine (Da _ X1.out).out.mono ?_
  rintro e v2 ⟨rfl, hb2⟩
  have t2 := hb2.size
  have X2 := Lib.hid ((((X1.out.below hb2).more t2).alloc (Nat.le_refl _) (.cells #[.int .i64 (numAt a 2), .int .i64 (numAt a 6), .int .i64 (numAt a 10), .float .f64 (gainAt a), .int .i64 (numAt a 14), .int .i64 (numAt a 18), .int .i64 (numAt a 22), .int .i64 (numAt a 26)] 42)).more (B' := (v2.alloc (.cells #[.int .i64 (numAt a 2), .int .i64 (numAt a 6), .int .i64 (numAt a 10), .float .f64 (gainAt a), .int .i64 (numAt a 14), .int .i64 (numAt a 18), .int .i64 (numAt a 22), .int .i64 (numAt a 26)] 42)).heap.size) (by simp))
  have Y2 := Lib.hid ((((Y1.out.below hb2).more t2).alloc (Nat.le_refl _) (.cells #[.int .i64 (numAt a 2), .int .i64 (numAt a 6), .int .i64 (numAt a 10), .float .f64 (gainAt a), .int .i64 (numAt a 14), .int .i64 (numAt a 18), .int .i64 (numAt a 22), .int .i64 (numAt a 26)] 42)).more (B' := (v2.alloc (.cells #[.int .i64 (numAt a 2), .int .i64 (numAt a 6), .int .i64 (numAt a 10), .float .f64 (gainAt a), .int .i64 (numAt a 14), .int .i64 (numAt a 18), .int .i64 (numAt a 22), .int .i64 (numAt a 26)] 42)).heap.size) (by simp))
  have Q2 := Lib.hid ((Q1.out.below hb2 (by omega)).alloc (.cells #[.int .i64 (numAt a 2), .int .i64 (numAt a 6), .int .i64 (numAt a 10), .float .f64 (gainAt a), .int .i64 (numAt a 14), .int .i64 (numAt a 18), .int .i64 (numAt a 22), .int .i64 (numAt a 26)] 42))
  have B2 := Lib.hid ((B1.out.trans (hb2.mono (by omega))).alloc (by omega) (.cells #[.int .i64 (numAt a 2), .int .i64 (numAt a 6), .int .i64 (numAt a 10), .float .f64 (gainAt a), .int .i64 (numAt a 14), .int .i64 (numAt a 18), .int .i64 (numAt a 22), .int .i64 (numAt a 26)] 42))
  have Na := Lib.hid (Blk.new v2 42 #[.int .i64 (numAt a 2), .int .i64 (numAt a 6), .int .i64 (numAt a 10), .float .f64 (gainAt a), .int .i64 (numAt a 14), .int .i64 (numAt a 18), .int .i64 (numAt a 22), .int .i64 (numAt a 26)])
  have s2 : (v2.alloc (.cells #[.int .i64 (numAt a 2), .int .i64 (numAt a 6), .int .i64 (numAt a 10), .float .f64 (gainAt a), .int .i64 (numAt a 14), .int .i64 (numAt a 18), .int .i64 (numAt a 22), .int .i64 (numAt a 26)] 42)).heap.size = v2.heap.size + 1 := by simp
  go_upto_region 2 with fail
  generalize hW2 : v2.alloc (.cells #[.int .i64 (numAt a 2), .int .i64 (numAt a 6), .int .i64 (numAt a 10), .float .f64 (gainAt a), .int .i64 (numAt a 14), .int .i64 (numAt a 18), .int .i64 (numAt a 22), .int .i64 (numAt a 26)] 42) = w2 at *
  clear hW2 hb2 X1 Y1 Q1 B1
  go_wp2_with fail
  refine (Db _ Y2.out).out.mono ?_
  rintro e v3 ⟨rfl, hb3⟩
  have t3 := hb3.size
  have X3 := Lib.hid ((((X2.out.below hb3).more t3).alloc (Nat.le_refl _) (.cells #[.int .i64 (numAt b 2), .int .i64 (numAt b 6), .int .i64 (numAt b 10), .float .f64 (gainAt b), .int .i64 (numAt b 14), .int .i64 (numAt b 18), .int .i64 (numAt b 22), .int .i64 (numAt b 26)] 42)).more (B' := (v3.alloc (.cells #[.int .i64 (numAt b 2), .int .i64 (numAt b 6), .int .i64 (numAt b 10), .float .f64 (gainAt b), .int .i64 (numAt b 14), .int .i64 (numAt b 18), .int .i64 (numAt b 22), .int .i64 (numAt b 26)] 42)).heap.size) (by simp))
  have Y3 := Lib.hid ((((Y2.out.below hb3).more t3).alloc (Nat.le_refl _) (.cells #[.int .i64 (numAt b 2), .int .i64 (numAt b 6), .int .i64 (numAt b 10), .float .f64 (gainAt b), .int .i64 (numAt b 14), .int .i64 (numAt b 18), .int .i64 (numAt b 22), .int .i64 (numAt b 26)] 42)).more (B' := (v3.alloc (.cells #[.int .i64 (numAt b 2), .int .i64 (numAt b 6), .int .i64 (numAt b 10), .float .f64 (gainAt b), .int .i64 (numAt b 14), .int .i64 (numAt b 18), .int .i64 (numAt b 22), .int .i64 (numAt b 26)] 42)).heap.size) (by simp))
  have Q3 := Lib.hid ((Q2.out.below hb3 (by omega)).alloc (.cells #[.int .i64 (numAt b 2), .int .i64 (numAt b 6), .int .i64 (numAt b 10), .float .f64 (gainAt b), .int .i64 (numAt b 14), .int .i64 (numAt b 18), .int .i64 (numAt b 22), .int .i64 (numAt b 26)] 42))
  have B3 := Lib.hid ((B2.out.trans (hb3.mono (by omega))).alloc (by omega) (.cells #[.int .i64 (numAt b 2), .int .i64 (numAt b 6), .int .i64 (numAt b 10), .float .f64 (gainAt b), .int .i64 (numAt b 14), .int .i64 (numAt b 18), .int .i64 (numAt b 22), .int .i64 (numAt b 26)] 42))
  have Nb := Lib.hid (Blk.new v3 42 #[.int .i64 (numAt b 2), .int .i64 (numAt b 6), .int .i64 (numAt b 10), .float .f64 (gainAt b), .int .i64 (numAt b 14), .int .i64 (numAt b 18), .int .i64 (numAt b 22), .int .i64 (numAt b 26)])
  have s3 : (v3.alloc (.cells #[.int .i64 (numAt b 2), .int .i64 (numAt b 6), .int .i64 (numAt b 10), .float .f64 (gainAt b), .int .i64 (numAt b 14), .int .i64 (numAt b 18), .int .i64 (numAt b 22), .int .i64 (numAt b 26)] 42)).heap.size = v3.heap.size + 1 := by simp
  have Na := Lib.hid ((Na.out.below hb3 (by omega)).alloc (.cells #[.int .i64 (numAt b 2), .int .i64 (numAt b 6), .int .i64 (numAt b 10), .float .f64 (gainAt b), .int .i64 (numAt b 14), .int .i64 (numAt b 18), .int .i64 (numAt b 22), .int .i64 (numAt b 26)] 42))
  go_upto_region 3 with fail
  generalize hW3 : v3.alloc (.cells #[.int .i64 (numAt b 2), .int .i64 (numAt b 6), .int .i64 (numAt b 10), .float .f64 (gainAt b), .int .i64 (numAt b 14), .int .i64 (numAt b 18), .int .i64 (numAt b 22), .int .i64 (numAt b 26)] 42) = w3 at *
  clear hW3 hb3 X2 Y2 Q2 B2
  have k0 := Na.out.cell 0
  have k1 := Na.out.cell 1
  have k2 := Na.out.cell 2
  have k3 := Na.out.cell 3
  have k4 := Na.out.cell 4
  have k5 := Na.out.cell 5
  have k6 := Na.out.cell 6
  have k7 := Na.out.cell 7
  simp at k0 k1 k2 k3 k4 k5 k6 k7
  have d0 := Nb.out.cell 0
  have d1 := Nb.out.cell 1
  have d2 := Nb.out.cell 2
  have d3 := Nb.out.cell 3
  have d4 := Nb.out.cell 4
  have d5 := Nb.out.cell 5
  have d6 := Nb.out.cell 6
  have d7 := Nb.out.cell 7
  simp at d0 d1 d2 d3 d4 d5 d6 d7
  go_wp2_with fail
  refine (BA _ X3.out).out.mono ?_
  rintro e w' ⟨rfl, rfl⟩
  go_wp2_with fail
  refine (BB _ Y3.out).out.mono ?_
  rintro e w' ⟨rfl, rfl⟩
  go_wp2_with fail
  refine (BA _ X3.out).out.mono ?_
  rintro e w' ⟨rfl, rfl⟩
  have q0 := Q3.out.cell 0
  have g0 := Q3.out.frozen 0
  have q1 := Q3.out.cell 1
  have g1 := Q3.out.frozen 1
  have q2 := Q3.out.cell 2
  have g2 := Q3.out.frozen 2
  have q3 := Q3.out.cell 3
  have g3 := Q3.out.frozen 3
  have q4 := Q3.out.cell 4
  have g4 := Q3.out.frozen 4
  have q5 := Q3.out.cell 5
  have g5 := Q3.out.frozen 5
  have q6 := Q3.out.cell 6
  have g6 := Q3.out.frozen 6
  have q7 := Q3.out.cell 7
  have g7 := Q3.out.frozen 7
  simp at q0 q1 q2 q3 q4 q5 q6 q7
  go_wp2_with fail
  have Y := ((((((((Q3.out).set_ 0 (.int .i64 0)).set_ 1 (.int .i64 0)).set_ 2 (.int .i64 0)).set_ 3 (.float .f64 0)).set_ 4 (.int .i64 0)).set_ 5 (.int .i64 0)).set_ 6 (.int .i64 0)).set_ 7 (.int .i64 0)
  have BY := ((((((((B3.out).setCell (p := ⟨w.heap.size, 0, none⟩) (Nat.le_refl _) (.int .i64 0)).setCell (p := ⟨w.heap.size, 1, none⟩) (Nat.le_refl _) (.int .i64 0)).setCell (p := ⟨w.heap.size, 2, none⟩) (Nat.le_refl _) (.int .i64 0)).setCell (p := ⟨w.heap.size, 3, none⟩) (Nat.le_refl _) (.float .f64 0)).setCell (p := ⟨w.heap.size, 4, none⟩) (Nat.le_refl _) (.int .i64 0)).setCell (p := ⟨w.heap.size, 5, none⟩) (Nat.le_refl _) (.int .i64 0)).setCell (p := ⟨w.heap.size, 6, none⟩) (Nat.le_refl _) (.int .i64 0)).setCell (p := ⟨w.heap.size, 7, none⟩) (Nat.le_refl _) (.int .i64 0)
  generalize ((((((((w3.setCell ⟨w.heap.size, 0, none⟩ (.int .i64 0)).setCell ⟨w.heap.size, 1, none⟩ (.int .i64 0)).setCell ⟨w.heap.size, 2, none⟩ (.int .i64 0)).setCell ⟨w.heap.size, 3, none⟩ (.float .f64 0)).setCell ⟨w.heap.size, 4, none⟩ (.int .i64 0)).setCell ⟨w.heap.size, 5, none⟩ (.int .i64 0)).setCell ⟨w.heap.size, 6, none⟩ (.int .i64 0)).setCell ⟨w.heap.size, 7, none⟩ (.int .i64 0)) = wz at *
  have y0 := Y.cell 0
  have y1 := Y.cell 1
  have y2 := Y.cell 2
  have y3 := Y.cell 3
  have y4 := Y.cell 4
  have y5 := Y.cell 5
  have y6 := Y.cell 6
  have y7 := Y.cell 7
  simp at y0 y1 y2 y3 y4 y5 y6 y7
  (try simp only [Exit.inBlock, Exit.then])
  refine bodyPost_ret (by simp [results, Try.results39, go_sem, y0, y1, y2, y3, y4, y5, y6, y7]; try rfl) rfl ?_
  exact ⟨rfl, BY⟩
set_option maxHeartbeats 4000000 in
theorem rc_gt (A : Option Addr) (n c : Nat) (a : List B8) (A2 : Option Addr) (n2 c2 : Nat) (b : List B8) (w : World) (hra : Rd w w.heap.size A n a) (hca : n ≤ c) (hrb : Rd w w.heap.size A2 n2 b) (hcb : n2 ≤ c2) (hn : n ≤ 500) (hn2 : n2 ≤ 500) (hba : blankB a = false) (hbb : blankB b = false) (hea : decE a = 0) (heb : decE b = 0) (hg : numAt b 2 < numAt a 2) :
    Calls Try.prog 39 #[.slice A n c, .slice A2 n2 c2] w fun e w' => e = .returned (.tuple #[crownV a, .int .i64 0, .int .i64 0]) ∧ Below w.heap.size w w' := by
  have hst := storeFloat
  have BA := fun (W : World) (h' : Rd W W.heap.size A n a) => Lib.hid (refBlank_any A n c a W.heap.size W h' (by omega))
  rw [hba] at BA
  have BB := fun (W : World) (h' : Rd W W.heap.size A2 n2 b) => Lib.hid (refBlank_any A2 n2 c2 b W.heap.size W h' (by omega))
  rw [hbb] at BB
  have Da := fun (W : World) (h' : Rd W W.heap.size A n a) => Lib.hid (refDec_any A n c a W h' hca)
  have Db := fun (W : World) (h' : Rd W W.heap.size A2 n2 b) => Lib.hid (refDec_any A2 n2 c2 b W h' hcb)
  rw [decV_ok hea, hea] at Da
  unfold crownV at Da
  rw [decV_ok heb, heb] at Db
  unfold crownV at Db
  have hg1 : (numAt a 2 == numAt b 2) = false := by rw [beq_eq_false_iff_ne]; omega
  have hg2 : decide (numAt b 2 < numAt a 2) = true := decide_eq_true hg
  have X1 := Lib.hid ((hra.alloc (Nat.le_refl _) (.cells #[.int .i64 0, .int .i64 0, .int .i64 0, .float .f64 0, .int .i64 0, .int .i64 0, .int .i64 0, .int .i64 0] 42)).more (B' := (w.alloc (.cells #[.int .i64 0, .int .i64 0, .int .i64 0, .float .f64 0, .int .i64 0, .int .i64 0, .int .i64 0, .int .i64 0] 42)).heap.size) (by simp))
  have Y1 := Lib.hid ((hrb.alloc (Nat.le_refl _) (.cells #[.int .i64 0, .int .i64 0, .int .i64 0, .float .f64 0, .int .i64 0, .int .i64 0, .int .i64 0, .int .i64 0] 42)).more (B' := (w.alloc (.cells #[.int .i64 0, .int .i64 0, .int .i64 0, .float .f64 0, .int .i64 0, .int .i64 0, .int .i64 0, .int .i64 0] 42)).heap.size) (by simp))
  have Q1 := Lib.hid (Blk.new w 42 #[.int .i64 0, .int .i64 0, .int .i64 0, .float .f64 0, .int .i64 0, .int .i64 0, .int .i64 0, .int .i64 0])
  have B1 := Lib.hid ((Below.refl w.heap.size w).alloc (Nat.le_refl _) (.cells #[.int .i64 0, .int .i64 0, .int .i64 0, .float .f64 0, .int .i64 0, .int .i64 0, .int .i64 0, .int .i64 0] 42))
  have s1 : (w.alloc (.cells #[.int .i64 0, .int .i64 0, .int .i64 0, .float .f64 0, .int .i64 0, .int .i64 0, .int .i64 0, .int .i64 0] 42)).heap.size = w.heap.size + 1 := by simp
  clear hra hrb
  go_enter Try.func39, Try.ntmps39
  go_upto_region 1 with fail
  generalize w.alloc (.cells #[.int .i64 0, .int .i64 0, .int .i64 0, .float .f64 0, .int .i64 0, .int .i64 0, .int .i64 0, .int .i64 0] 42) = w1 at *
  go_wp2_with fail
  refine (Da _ X1.out).out.mono ?_
  rintro e v2 ⟨rfl, hb2⟩
  have t2 := hb2.size
  have X2 := Lib.hid ((((X1.out.below hb2).more t2).alloc (Nat.le_refl _) (.cells #[.int .i64 (numAt a 2), .int .i64 (numAt a 6), .int .i64 (numAt a 10), .float .f64 (gainAt a), .int .i64 (numAt a 14), .int .i64 (numAt a 18), .int .i64 (numAt a 22), .int .i64 (numAt a 26)] 42)).more (B' := (v2.alloc (.cells #[.int .i64 (numAt a 2), .int .i64 (numAt a 6), .int .i64 (numAt a 10), .float .f64 (gainAt a), .int .i64 (numAt a 14), .int .i64 (numAt a 18), .int .i64 (numAt a 22), .int .i64 (numAt a 26)] 42)).heap.size) (by simp))
  have Y2 := Lib.hid ((((Y1.out.below hb2).more t2).alloc (Nat.le_refl _) (.cells #[.int .i64 (numAt a 2), .int .i64 (numAt a 6), .int .i64 (numAt a 10), .float .f64 (gainAt a), .int .i64 (numAt a 14), .int .i64 (numAt a 18), .int .i64 (numAt a 22), .int .i64 (numAt a 26)] 42)).more (B' := (v2.alloc (.cells #[.int .i64 (numAt a 2), .int .i64 (numAt a 6), .int .i64 (numAt a 10), .float .f64 (gainAt a), .int .i64 (numAt a 14), .int .i64 (numAt a 18), .int .i64 (numAt a 22), .int .i64 (numAt a 26)] 42)).heap.size) (by simp))
  have Q2 := Lib.hid ((Q1.out.below hb2 (by omega)).alloc (.cells #[.int .i64 (numAt a 2), .int .i64 (numAt a 6), .int .i64 (numAt a 10), .float .f64 (gainAt a), .int .i64 (numAt a 14), .int .i64 (numAt a 18), .int .i64 (numAt a 22), .int .i64 (numAt a 26)] 42))
  have B2 := Lib.hid ((B1.out.trans (hb2.mono (by omega))).alloc (by omega) (.cells #[.int .i64 (numAt a 2), .int .i64 (numAt a 6), .int .i64 (numAt a 10), .float .f64 (gainAt a), .int .i64 (numAt a 14), .int .i64 (numAt a 18), .int .i64 (numAt a 22), .int .i64 (numAt a 26)] 42))
  have Na := Lib.hid (Blk.new v2 42 #[.int .i64 (numAt a 2), .int .i64 (numAt a 6), .int .i64 (numAt a 10), .float .f64 (gainAt a), .int .i64 (numAt a 14), .int .i64 (numAt a 18), .int .i64 (numAt a 22), .int .i64 (numAt a 26)])
  have s2 : (v2.alloc (.cells #[.int .i64 (numAt a 2), .int .i64 (numAt a 6), .int .i64 (numAt a 10), .float .f64 (gainAt a), .int .i64 (numAt a 14), .int .i64 (numAt a 18), .int .i64 (numAt a 22), .int .i64 (numAt a 26)] 42)).heap.size = v2.heap.size + 1 := by simp
  go_upto_region 2 with fail
  generalize hW2 : v2.alloc (.cells #[.int .i64 (numAt a 2), .int .i64 (numAt a 6), .int .i64 (numAt a 10), .float .f64 (gainAt a), .int .i64 (numAt a 14), .int .i64 (numAt a 18), .int .i64 (numAt a 22), .int .i64 (numAt a 26)] 42) = w2 at *
  clear hW2 hb2 X1 Y1 Q1 B1
  go_wp2_with fail
  refine (Db _ Y2.out).out.mono ?_
  rintro e v3 ⟨rfl, hb3⟩
  have t3 := hb3.size
  have X3 := Lib.hid ((((X2.out.below hb3).more t3).alloc (Nat.le_refl _) (.cells #[.int .i64 (numAt b 2), .int .i64 (numAt b 6), .int .i64 (numAt b 10), .float .f64 (gainAt b), .int .i64 (numAt b 14), .int .i64 (numAt b 18), .int .i64 (numAt b 22), .int .i64 (numAt b 26)] 42)).more (B' := (v3.alloc (.cells #[.int .i64 (numAt b 2), .int .i64 (numAt b 6), .int .i64 (numAt b 10), .float .f64 (gainAt b), .int .i64 (numAt b 14), .int .i64 (numAt b 18), .int .i64 (numAt b 22), .int .i64 (numAt b 26)] 42)).heap.size) (by simp))
  have Y3 := Lib.hid ((((Y2.out.below hb3).more t3).alloc (Nat.le_refl _) (.cells #[.int .i64 (numAt b 2), .int .i64 (numAt b 6), .int .i64 (numAt b 10), .float .f64 (gainAt b), .int .i64 (numAt b 14), .int .i64 (numAt b 18), .int .i64 (numAt b 22), .int .i64 (numAt b 26)] 42)).more (B' := (v3.alloc (.cells #[.int .i64 (numAt b 2), .int .i64 (numAt b 6), .int .i64 (numAt b 10), .float .f64 (gainAt b), .int .i64 (numAt b 14), .int .i64 (numAt b 18), .int .i64 (numAt b 22), .int .i64 (numAt b 26)] 42)).heap.size) (by simp))
  have Q3 := Lib.hid ((Q2.out.below hb3 (by omega)).alloc (.cells #[.int .i64 (numAt b 2), .int .i64 (numAt b 6), .int .i64 (numAt b 10), .float .f64 (gainAt b), .int .i64 (numAt b 14), .int .i64 (numAt b 18), .int .i64 (numAt b 22), .int .i64 (numAt b 26)] 42))
  have B3 := Lib.hid ((B2.out.trans (hb3.mono (by omega))).alloc (by omega) (.cells #[.int .i64 (numAt b 2), .int .i64 (numAt b 6), .int .i64 (numAt b 10), .float .f64 (gainAt b), .int .i64 (numAt b 14), .int .i64 (numAt b 18), .int .i64 (numAt b 22), .int .i64 (numAt b 26)] 42))
  have Nb := Lib.hid (Blk.new v3 42 #[.int .i64 (numAt b 2), .int .i64 (numAt b 6), .int .i64 (numAt b 10), .float .f64 (gainAt b), .int .i64 (numAt b 14), .int .i64 (numAt b 18), .int .i64 (numAt b 22), .int .i64 (numAt b 26)])
  have s3 : (v3.alloc (.cells #[.int .i64 (numAt b 2), .int .i64 (numAt b 6), .int .i64 (numAt b 10), .float .f64 (gainAt b), .int .i64 (numAt b 14), .int .i64 (numAt b 18), .int .i64 (numAt b 22), .int .i64 (numAt b 26)] 42)).heap.size = v3.heap.size + 1 := by simp
  have Na := Lib.hid ((Na.out.below hb3 (by omega)).alloc (.cells #[.int .i64 (numAt b 2), .int .i64 (numAt b 6), .int .i64 (numAt b 10), .float .f64 (gainAt b), .int .i64 (numAt b 14), .int .i64 (numAt b 18), .int .i64 (numAt b 22), .int .i64 (numAt b 26)] 42))
  go_upto_region 3 with fail
  generalize hW3 : v3.alloc (.cells #[.int .i64 (numAt b 2), .int .i64 (numAt b 6), .int .i64 (numAt b 10), .float .f64 (gainAt b), .int .i64 (numAt b 14), .int .i64 (numAt b 18), .int .i64 (numAt b 22), .int .i64 (numAt b 26)] 42) = w3 at *
  clear hW3 hb3 X2 Y2 Q2 B2
  have k0 := Na.out.cell 0
  have k1 := Na.out.cell 1
  have k2 := Na.out.cell 2
  have k3 := Na.out.cell 3
  have k4 := Na.out.cell 4
  have k5 := Na.out.cell 5
  have k6 := Na.out.cell 6
  have k7 := Na.out.cell 7
  simp at k0 k1 k2 k3 k4 k5 k6 k7
  have d0 := Nb.out.cell 0
  have d1 := Nb.out.cell 1
  have d2 := Nb.out.cell 2
  have d3 := Nb.out.cell 3
  have d4 := Nb.out.cell 4
  have d5 := Nb.out.cell 5
  have d6 := Nb.out.cell 6
  have d7 := Nb.out.cell 7
  simp at d0 d1 d2 d3 d4 d5 d6 d7
  go_wp2_with fail
  refine (BA _ X3.out).out.mono ?_
  rintro e w' ⟨rfl, rfl⟩
  go_wp2_with fail
  refine (BB _ Y3.out).out.mono ?_
  rintro e w' ⟨rfl, rfl⟩
  go_wp2_with fail
  refine (BA _ X3.out).out.mono ?_
  rintro e w' ⟨rfl, rfl⟩
  have q0 := Q3.out.cell 0
  have g0 := Q3.out.frozen 0
  have q1 := Q3.out.cell 1
  have g1 := Q3.out.frozen 1
  have q2 := Q3.out.cell 2
  have g2 := Q3.out.frozen 2
  have q3 := Q3.out.cell 3
  have g3 := Q3.out.frozen 3
  have q4 := Q3.out.cell 4
  have g4 := Q3.out.frozen 4
  have q5 := Q3.out.cell 5
  have g5 := Q3.out.frozen 5
  have q6 := Q3.out.cell 6
  have g6 := Q3.out.frozen 6
  have q7 := Q3.out.cell 7
  have g7 := Q3.out.frozen 7
  simp at q0 q1 q2 q3 q4 q5 q6 q7
  go_wp2_with fail
  have Y := ((((((((Q3.out).set_ 0 (.int .i64 (numAt a 2))).set_ 1 (.int .i64 (numAt a 6))).set_ 2 (.int .i64 (numAt a 10))).set_ 3 (.float .f64 (gainAt a))).set_ 4 (.int .i64 (numAt a 14))).set_ 5 (.int .i64 (numAt a 18))).set_ 6 (.int .i64 (numAt a 22))).set_ 7 (.int .i64 (numAt a 26))
  have BY := ((((((((B3.out).setCell (p := ⟨w.heap.size, 0, none⟩) (Nat.le_refl _) (.int .i64 (numAt a 2))).setCell (p := ⟨w.heap.size, 1, none⟩) (Nat.le_refl _) (.int .i64 (numAt a 6))).setCell (p := ⟨w.heap.size, 2, none⟩) (Nat.le_refl _) (.int .i64 (numAt a 10))).setCell (p := ⟨w.heap.size, 3, none⟩) (Nat.le_refl _) (.float .f64 (gainAt a))).setCell (p := ⟨w.heap.size, 4, none⟩) (Nat.le_refl _) (.int .i64 (numAt a 14))).setCell (p := ⟨w.heap.size, 5, none⟩) (Nat.le_refl _) (.int .i64 (numAt a 18))).setCell (p := ⟨w.heap.size, 6, none⟩) (Nat.le_refl _) (.int .i64 (numAt a 22))).setCell (p := ⟨w.heap.size, 7, none⟩) (Nat.le_refl _) (.int .i64 (numAt a 26))
  generalize ((((((((w3.setCell ⟨w.heap.size, 0, none⟩ (.int .i64 (numAt a 2))).setCell ⟨w.heap.size, 1, none⟩ (.int .i64 (numAt a 6))).setCell ⟨w.heap.size, 2, none⟩ (.int .i64 (numAt a 10))).setCell ⟨w.heap.size, 3, none⟩ (.float .f64 (gainAt a))).setCell ⟨w.heap.size, 4, none⟩ (.int .i64 (numAt a 14))).setCell ⟨w.heap.size, 5, none⟩ (.int .i64 (numAt a 18))).setCell ⟨w.heap.size, 6, none⟩ (.int .i64 (numAt a 22))).setCell ⟨w.heap.size, 7, none⟩ (.int .i64 (numAt a 26))) = wz at *
  have y0 := Y.cell 0
  have y1 := Y.cell 1
  have y2 := Y.cell 2
  have y3 := Y.cell 3
  have y4 := Y.cell 4
  have y5 := Y.cell 5
  have y6 := Y.cell 6
  have y7 := Y.cell 7
  simp at y0 y1 y2 y3 y4 y5 y6 y7
  (try simp only [Exit.inBlock, Exit.then])
  refine bodyPost_ret (by simp [results, Try.results39, go_sem, y0, y1, y2, y3, y4, y5, y6, y7]; try rfl) rfl ?_
  exact ⟨rfl, BY⟩
set_option maxHeartbeats 4000000 in
theorem rc_lt (A : Option Addr) (n c : Nat) (a : List B8) (A2 : Option Addr) (n2 c2 : Nat) (b : List B8) (w : World) (hra : Rd w w.heap.size A n a) (hca : n ≤ c) (hrb : Rd w w.heap.size A2 n2 b) (hcb : n2 ≤ c2) (hn : n ≤ 500) (hn2 : n2 ≤ 500) (hba : blankB a = false) (hbb : blankB b = false) (hea : decE a = 0) (heb : decE b = 0) (hg : numAt a 2 < numAt b 2) :
    Calls Try.prog 39 #[.slice A n c, .slice A2 n2 c2] w fun e w' => e = .returned (.tuple #[crownV b, .int .i64 1, .int .i64 0]) ∧ Below w.heap.size w w' := by
  have hst := storeFloat
  have BA := fun (W : World) (h' : Rd W W.heap.size A n a) => Lib.hid (refBlank_any A n c a W.heap.size W h' (by omega))
  rw [hba] at BA
  have BB := fun (W : World) (h' : Rd W W.heap.size A2 n2 b) => Lib.hid (refBlank_any A2 n2 c2 b W.heap.size W h' (by omega))
  rw [hbb] at BB
  have Da := fun (W : World) (h' : Rd W W.heap.size A n a) => Lib.hid (refDec_any A n c a W h' hca)
  have Db := fun (W : World) (h' : Rd W W.heap.size A2 n2 b) => Lib.hid (refDec_any A2 n2 c2 b W h' hcb)
  rw [decV_ok hea, hea] at Da
  unfold crownV at Da
  rw [decV_ok heb, heb] at Db
  unfold crownV at Db
  have hg1 : (numAt a 2 == numAt b 2) = false := by rw [beq_eq_false_iff_ne]; omega
  have hg2 : ¬ numAt b 2 < numAt a 2 := by omega
  clear hg
  have X1 := Lib.hid ((hra.alloc (Nat.le_refl _) (.cells #[.int .i64 0, .int .i64 0, .int .i64 0, .float .f64 0, .int .i64 0, .int .i64 0, .int .i64 0, .int .i64 0] 42)).more (B' := (w.alloc (.cells #[.int .i64 0, .int .i64 0, .int .i64 0, .float .f64 0, .int .i64 0, .int .i64 0, .int .i64 0, .int .i64 0] 42)).heap.size) (by simp))
  have Y1 := Lib.hid ((hrb.alloc (Nat.le_refl _) (.cells #[.int .i64 0, .int .i64 0, .int .i64 0, .float .f64 0, .int .i64 0, .int .i64 0, .int .i64 0, .int .i64 0] 42)).more (B' := (w.alloc (.cells #[.int .i64 0, .int .i64 0, .int .i64 0, .float .f64 0, .int .i64 0, .int .i64 0, .int .i64 0, .int .i64 0] 42)).heap.size) (by simp))
  have Q1 := Lib.hid (Blk.new w 42 #[.int .i64 0, .int .i64 0, .int .i64 0, .float .f64 0, .int .i64 0, .int .i64 0, .int .i64 0, .int .i64 0])
  have B1 := Lib.hid ((Below.refl w.heap.size w).alloc (Nat.le_refl _) (.cells #[.int .i64 0, .int .i64 0, .int .i64 0, .float .f64 0, .int .i64 0, .int .i64 0, .int .i64 0, .int .i64 0] 42))
  have s1 : (w.alloc (.cells #[.int .i64 0, .int .i64 0, .int .i64 0, .float .f64 0, .int .i64 0, .int .i64 0, .int .i64 0, .int .i64 0] 42)).heap.size = w.heap.size + 1 := by simp
  clear hra hrb
  go_enter Try.func39, Try.ntmps39
  go_upto_region 1 with fail
  generalize w.alloc (.cells #[.int .i64 0, .int .i64 0, .int .i64 0, .float .f64 0, .int .i64 0, .int .i64 0, .int .i64 0, .int .i64 0] 42) = w1 at *
  go_wp2_with fail
  refine (Da _ X1.out).out.mono ?_
  rintro e v2 ⟨rfl, hb2⟩
  have t2 := hb2.size
  have X2 := Lib.hid ((((X1.out.below hb2).more t2).alloc (Nat.le_refl _) (.cells #[.int .i64 (numAt a 2), .int .i64 (numAt a 6), .int .i64 (numAt a 10), .float .f64 (gainAt a), .int .i64 (numAt a 14), .int .i64 (numAt a 18), .int .i64 (numAt a 22), .int .i64 (numAt a 26)] 42)).more (B' := (v2.alloc (.cells #[.int .i64 (numAt a 2), .int .i64 (numAt a 6), .int .i64 (numAt a 10), .float .f64 (gainAt a), .int .i64 (numAt a 14), .int .i64 (numAt a 18), .int .i64 (numAt a 22), .int .i64 (numAt a 26)] 42)).heap.size) (by simp))
  have Y2 := Lib.hid ((((Y1.out.below hb2).more t2).alloc (Nat.le_refl _) (.cells #[.int .i64 (numAt a 2), .int .i64 (numAt a 6), .int .i64 (numAt a 10), .float .f64 (gainAt a), .int .i64 (numAt a 14), .int .i64 (numAt a 18), .int .i64 (numAt a 22), .int .i64 (numAt a 26)] 42)).more (B' := (v2.alloc (.cells #[.int .i64 (numAt a 2), .int .i64 (numAt a 6), .int .i64 (numAt a 10), .float .f64 (gainAt a), .int .i64 (numAt a 14), .int .i64 (numAt a 18), .int .i64 (numAt a 22), .int .i64 (numAt a 26)] 42)).heap.size) (by simp))
  have Q2 := Lib.hid ((Q1.out.below hb2 (by omega)).alloc (.cells #[.int .i64 (numAt a 2), .int .i64 (numAt a 6), .int .i64 (numAt a 10), .float .f64 (gainAt a), .int .i64 (numAt a 14), .int .i64 (numAt a 18), .int .i64 (numAt a 22), .int .i64 (numAt a 26)] 42))
  have B2 := Lib.hid ((B1.out.trans (hb2.mono (by omega))).alloc (by omega) (.cells #[.int .i64 (numAt a 2), .int .i64 (numAt a 6), .int .i64 (numAt a 10), .float .f64 (gainAt a), .int .i64 (numAt a 14), .int .i64 (numAt a 18), .int .i64 (numAt a 22), .int .i64 (numAt a 26)] 42))
  have Na := Lib.hid (Blk.new v2 42 #[.int .i64 (numAt a 2), .int .i64 (numAt a 6), .int .i64 (numAt a 10), .float .f64 (gainAt a), .int .i64 (numAt a 14), .int .i64 (numAt a 18), .int .i64 (numAt a 22), .int .i64 (numAt a 26)])
  have s2 : (v2.alloc (.cells #[.int .i64 (numAt a 2), .int .i64 (numAt a 6), .int .i64 (numAt a 10), .float .f64 (gainAt a), .int .i64 (numAt a 14), .int .i64 (numAt a 18), .int .i64 (numAt a 22), .int .i64 (numAt a 26)] 42)).heap.size = v2.heap.size + 1 := by simp
  go_upto_region 2 with fail
  generalize hW2 : v2.alloc (.cells #[.int .i64 (numAt a 2), .int .i64 (numAt a 6), .int .i64 (numAt a 10), .float .f64 (gainAt a), .int .i64 (numAt a 14), .int .i64 (numAt a 18), .int .i64 (numAt a 22), .int .i64 (numAt a 26)] 42) = w2 at *
  clear hW2 hb2 X1 Y1 Q1 B1
  go_wp2_with fail
  refine (Db _ Y2.out).out.mono ?_
  rintro e v3 ⟨rfl, hb3⟩
  have t3 := hb3.size
  have X3 := Lib.hid ((((X2.out.below hb3).more t3).alloc (Nat.le_refl _) (.cells #[.int .i64 (numAt b 2), .int .i64 (numAt b 6), .int .i64 (numAt b 10), .float .f64 (gainAt b), .int .i64 (numAt b 14), .int .i64 (numAt b 18), .int .i64 (numAt b 22), .int .i64 (numAt b 26)] 42)).more (B' := (v3.alloc (.cells #[.int .i64 (numAt b 2), .int .i64 (numAt b 6), .int .i64 (numAt b 10), .float .f64 (gainAt b), .int .i64 (numAt b 14), .int .i64 (numAt b 18), .int .i64 (numAt b 22), .int .i64 (numAt b 26)] 42)).heap.size) (by simp))
  have Y3 := Lib.hid ((((Y2.out.below hb3).more t3).alloc (Nat.le_refl _) (.cells #[.int .i64 (numAt b 2), .int .i64 (numAt b 6), .int .i64 (numAt b 10), .float .f64 (gainAt b), .int .i64 (numAt b 14), .int .i64 (numAt b 18), .int .i64 (numAt b 22), .int .i64 (numAt b 26)] 42)).more (B' := (v3.alloc (.cells #[.int .i64 (numAt b 2), .int .i64 (numAt b 6), .int .i64 (numAt b 10), .float .f64 (gainAt b), .int .i64 (numAt b 14), .int .i64 (numAt b 18), .int .i64 (numAt b 22), .int .i64 (numAt b 26)] 42)).heap.size) (by simp))
  have Q3 := Lib.hid ((Q2.out.below hb3 (by omega)).alloc (.cells #[.int .i64 (numAt b 2), .int .i64 (numAt b 6), .int .i64 (numAt b 10), .float .f64 (gainAt b), .int .i64 (numAt b 14), .int .i64 (numAt b 18), .int .i64 (numAt b 22), .int .i64 (numAt b 26)] 42))
  have B3 := Lib.hid ((B2.out.trans (hb3.mono (by omega))).alloc (by omega) (.cells #[.int .i64 (numAt b 2), .int .i64 (numAt b 6), .int .i64 (numAt b 10), .float .f64 (gainAt b), .int .i64 (numAt b 14), .int .i64 (numAt b 18), .int .i64 (numAt b 22), .int .i64 (numAt b 26)] 42))
  have Nb := Lib.hid (Blk.new v3 42 #[.int .i64 (numAt b 2), .int .i64 (numAt b 6), .int .i64 (numAt b 10), .float .f64 (gainAt b), .int .i64 (numAt b 14), .int .i64 (numAt b 18), .int .i64 (numAt b 22), .int .i64 (numAt b 26)])
  have s3 : (v3.alloc (.cells #[.int .i64 (numAt b 2), .int .i64 (numAt b 6), .int .i64 (numAt b 10), .float .f64 (gainAt b), .int .i64 (numAt b 14), .int .i64 (numAt b 18), .int .i64 (numAt b 22), .int .i64 (numAt b 26)] 42)).heap.size = v3.heap.size + 1 := by simp
  have Na := Lib.hid ((Na.out.below hb3 (by omega)).alloc (.cells #[.int .i64 (numAt b 2), .int .i64 (numAt b 6), .int .i64 (numAt b 10), .float .f64 (gainAt b), .int .i64 (numAt b 14), .int .i64 (numAt b 18), .int .i64 (numAt b 22), .int .i64 (numAt b 26)] 42))
  go_upto_region 3 with fail
  generalize hW3 : v3.alloc (.cells #[.int .i64 (numAt b 2), .int .i64 (numAt b 6), .int .i64 (numAt b 10), .float .f64 (gainAt b), .int .i64 (numAt b 14), .int .i64 (numAt b 18), .int .i64 (numAt b 22), .int .i64 (numAt b 26)] 42) = w3 at *
  clear hW3 hb3 X2 Y2 Q2 B2
  have k0 := Na.out.cell 0
  have k1 := Na.out.cell 1
  have k2 := Na.out.cell 2
  have k3 := Na.out.cell 3
  have k4 := Na.out.cell 4
  have k5 := Na.out.cell 5
  have k6 := Na.out.cell 6
  have k7 := Na.out.cell 7
  simp at k0 k1 k2 k3 k4 k5 k6 k7
  have d0 := Nb.out.cell 0
  have d1 := Nb.out.cell 1
  have d2 := Nb.out.cell 2
  have d3 := Nb.out.cell 3
  have d4 := Nb.out.cell 4
  have d5 := Nb.out.cell 5
  have d6 := Nb.out.cell 6
  have d7 := Nb.out.cell 7
  simp at d0 d1 d2 d3 d4 d5 d6 d7
  go_wp2_with fail
  refine (BA _ X3.out).out.mono ?_
  rintro e w' ⟨rfl, rfl⟩
  go_wp2_with fail
  refine (BB _ Y3.out).out.mono ?_
  rintro e w' ⟨rfl, rfl⟩
  go_wp2_with fail
  refine (BA _ X3.out).out.mono ?_
  rintro e w' ⟨rfl, rfl⟩
  have q0 := Q3.out.cell 0
  have g0 := Q3.out.frozen 0
  have q1 := Q3.out.cell 1
  have g1 := Q3.out.frozen 1
  have q2 := Q3.out.cell 2
  have g2 := Q3.out.frozen 2
  have q3 := Q3.out.cell 3
  have g3 := Q3.out.frozen 3
  have q4 := Q3.out.cell 4
  have g4 := Q3.out.frozen 4
  have q5 := Q3.out.cell 5
  have g5 := Q3.out.frozen 5
  have q6 := Q3.out.cell 6
  have g6 := Q3.out.frozen 6
  have q7 := Q3.out.cell 7
  have g7 := Q3.out.frozen 7
  simp at q0 q1 q2 q3 q4 q5 q6 q7
  go_wp2_with fail
  have Y := ((((((((Q3.out).set_ 0 (.int .i64 (numAt b 2))).set_ 1 (.int .i64 (numAt b 6))).set_ 2 (.int .i64 (numAt b 10))).set_ 3 (.float .f64 (gainAt b))).set_ 4 (.int .i64 (numAt b 14))).set_ 5 (.int .i64 (numAt b 18))).set_ 6 (.int .i64 (numAt b 22))).set_ 7 (.int .i64 (numAt b 26))
  have BY := ((((((((B3.out).setCell (p := ⟨w.heap.size, 0, none⟩) (Nat.le_refl _) (.int .i64 (numAt b 2))).setCell (p := ⟨w.heap.size, 1, none⟩) (Nat.le_refl _) (.int .i64 (numAt b 6))).setCell (p := ⟨w.heap.size, 2, none⟩) (Nat.le_refl _) (.int .i64 (numAt b 10))).setCell (p := ⟨w.heap.size, 3, none⟩) (Nat.le_refl _) (.float .f64 (gainAt b))).setCell (p := ⟨w.heap.size, 4, none⟩) (Nat.le_refl _) (.int .i64 (numAt b 14))).setCell (p := ⟨w.heap.size, 5, none⟩) (Nat.le_refl _) (.int .i64 (numAt b 18))).setCell (p := ⟨w.heap.size, 6, none⟩) (Nat.le_refl _) (.int .i64 (numAt b 22))).setCell (p := ⟨w.heap.size, 7, none⟩) (Nat.le_refl _) (.int .i64 (numAt b 26))
  generalize ((((((((w3.setCell ⟨w.heap.size, 0, none⟩ (.int .i64 (numAt b 2))).setCell ⟨w.heap.size, 1, none⟩ (.int .i64 (numAt b 6))).setCell ⟨w.heap.size, 2, none⟩ (.int .i64 (numAt b 10))).setCell ⟨w.heap.size, 3, none⟩ (.float .f64 (gainAt b))).setCell ⟨w.heap.size, 4, none⟩ (.int .i64 (numAt b 14))).setCell ⟨w.heap.size, 5, none⟩ (.int .i64 (numAt b 18))).setCell ⟨w.heap.size, 6, none⟩ (.int .i64 (numAt b 22))).setCell ⟨w.heap.size, 7, none⟩ (.int .i64 (numAt b 26))) = wz at *
  have y0 := Y.cell 0
  have y1 := Y.cell 1
  have y2 := Y.cell 2
  have y3 := Y.cell 3
  have y4 := Y.cell 4
  have y5 := Y.cell 5
  have y6 := Y.cell 6
  have y7 := Y.cell 7
  simp at y0 y1 y2 y3 y4 y5 y6 y7
  (try simp only [Exit.inBlock, Exit.then])
  refine bodyPost_ret (by simp [results, Try.results39, go_sem, y0, y1, y2, y3, y4, y5, y6, y7]; try rfl) rfl ?_
  exact ⟨rfl, BY⟩

theorem blank_dec {bs : List B8} (h : blankB bs = true) : ¬ decE bs = 0 := by
  have e : bs = List.replicate 64 0#8 := of_decide_eq_true h
  subst e
  have hh : headAt (List.replicate 64 0#8) = false := by decide
  unfold decE
  rw [if_pos List.length_replicate, hh]
  split <;> simp
theorem refChoose_any (A : Option Addr) (n c : Nat) (a : List B8) (A2 : Option Addr) (n2 c2 : Nat) (b : List B8) (w : World) (hra : Rd w w.heap.size A n a) (hca : n ≤ c) (hrb : Rd w w.heap.size A2 n2 b) (hcb : n2 ≤ c2) (hn : n ≤ 500) (hn2 : n2 ≤ 500) :
    Calls Try.prog 39 #[.slice A n c, .slice A2 n2 c2] w fun e w' => e = .returned (.tuple #[(chooseR a b).1, .int .i64 (chooseR a b).2.1, .int .i64 (chooseR a b).2.2]) ∧ Below w.heap.size w w' := by
  unfold chooseR
  rcases tf (blankB a) with h1 | h1 <;> rcases tf (blankB b) with h2 | h2 <;> simp only [h1, h2, if_true, Bool.false_eq_true, if_false]
  · exact rc_both A n c a A2 n2 c2 b w hra hca hrb hcb hn hn2 h1 h2 (blank_dec h1) (blank_dec h2)
  · unfold aloneV aloneN aloneE oneB
    by_cases hb : decE b = 0
    · by_cases hg : numAt b 2 = 1
      · simp only [hb, hg, decide_true, Bool.and_self, if_true]
        exact rc_b_one A n c a A2 n2 c2 b w hra hca hrb hcb hn hn2 h1 h2 (blank_dec h1) hb hg
      · simp only [hb, hg, decide_true, decide_false, Bool.and_false, Bool.false_eq_true, if_false]
        exact rc_b_no A n c a A2 n2 c2 b w hra hca hrb hcb hn hn2 h1 h2 (blank_dec h1) hb hg
    · simp only [hb, decide_false, Bool.false_and, Bool.false_eq_true, if_false]
      exact rc_b_bad A n c a A2 n2 c2 b w hra hca hrb hcb hn hn2 h1 h2 (blank_dec h1) hb
  · unfold aloneV aloneN aloneE oneB
    by_cases ha : decE a = 0
    · by_cases hg : numAt a 2 = 1
      · simp only [ha, hg, decide_true, Bool.and_self, if_true]
        exact rc_a_one A n c a A2 n2 c2 b w hra hca hrb hcb hn hn2 h1 h2 ha (blank_dec h2) hg
      · simp only [ha, hg, decide_true, decide_false, Bool.and_false, Bool.false_eq_true, if_false]
        exact rc_a_no A n c a A2 n2 c2 b w hra hca hrb hcb hn hn2 h1 h2 ha (blank_dec h2) hg
    · simp only [ha, decide_false, Bool.false_and, Bool.false_eq_true, if_false]
      exact rc_a_bad A n c a A2 n2 c2 b w hra hca hrb hcb hn hn2 h1 h2 ha (blank_dec h2)
  · by_cases ha : decE a = 0 <;> by_cases hb : decE b = 0
    · rw [if_pos ⟨ha, hb⟩]
      by_cases hg : numAt a 2 = numAt b 2
      · rw [if_pos hg]; exact rc_same A n c a A2 n2 c2 b w hra hca hrb hcb hn hn2 h1 h2 ha hb hg
      · rw [if_neg hg]
        by_cases hl : numAt b 2 < numAt a 2
        · rw [if_pos hl]; exact rc_gt A n c a A2 n2 c2 b w hra hca hrb hcb hn hn2 h1 h2 ha hb hl
        · rw [if_neg hl]; exact rc_lt A n c a A2 n2 c2 b w hra hca hrb hcb hn hn2 h1 h2 ha hb (by omega)
    · rw [if_neg (by intro h; exact hb h.2)]; exact rc_bad2 A n c a A2 n2 c2 b w hra hca hrb hcb hn hn2 h1 h2 ha hb
    · rw [if_neg (by intro h; exact ha h.1)]; exact rc_bad1x A n c a A2 n2 c2 b w hra hca hrb hcb hn hn2 h1 h2 ha hb
    · rw [if_neg (by intro h; exact ha h.1)]; exact rc_bad1y A n c a A2 n2 c2 b w hra hca hrb hcb hn hn2 h1 h2 ha hb
end Go.Proofs.Ythhgmanoifpoiaa

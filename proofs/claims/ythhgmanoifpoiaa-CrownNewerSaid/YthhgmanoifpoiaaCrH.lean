/- Contracts of alone and Choose. -/
import Derived.Test.YthhgmanoifpoiaaCrG
namespace Go.Proofs.Ythhgmanoifpoiaa
open Go.RowKit
set_option linter.unusedVariables false

def oneB (bs : List B8) : Bool := decide (decE bs = 0) && decide (numAt bs 2 = 1)
def aloneV (bs : List B8) : Value := if oneB bs then crownV bs else zeroV
def aloneN (bs : List B8) (at_ : Int) : Int := if oneB bs then at_ else 0
def aloneE (bs : List B8) : Int := if oneB bs then 0 else 5

theorem decV_bad {bs : List B8} (h : ¬ decE bs = 0) : decV bs = zeroV := by unfold decV; rw [if_neg h]
theorem decV_ok {bs : List B8} (h : decE bs = 0) : decV bs = crownV bs := by unfold decV; rw [if_pos h]

set_option maxHeartbeats 2000000 in
theorem alone_bad (A : Option Addr) (n c : Nat) (bs : List B8) (at_ : Int) (w : World) (hr : Rd w w.heap.size A n bs) (hc : n ≤ c) (h : ¬ decE bs = 0) :
    Calls Try.prog 51 #[.slice A n c, .int .i64 at_] w fun e w' => e = .returned (.tuple #[zeroV, .int .i64 0, .int .i64 5]) ∧ Below w.heap.size w w' := by
  have hst := storeFloat
  have D := fun (W : World) (h' : Rd W W.heap.size A n bs) => Lib.hid (dec_any A n c bs W h' hc)
  rw [decV_bad h] at D
  unfold zeroV at D
  generalize hE : decE bs = E at *
  have h1 : (E != 0) = true := by rw [bne_iff_ne]; exact h
  clear hE
  have R0 := Lib.hid ((hr.alloc (Nat.le_refl _) (.cells #[.int .i64 0, .int .i64 0, .int .i64 0, .float .f64 0, .int .i64 0, .int .i64 0, .int .i64 0, .int .i64 0] 51)).more (B' := (w.alloc (.cells #[.int .i64 0, .int .i64 0, .int .i64 0, .float .f64 0, .int .i64 0, .int .i64 0, .int .i64 0, .int .i64 0] 51)).heap.size) (by simp))
  have Q0 := Lib.hid (Blk.new w 51 #[.int .i64 0, .int .i64 0, .int .i64 0, .float .f64 0, .int .i64 0, .int .i64 0, .int .i64 0, .int .i64 0])
  have B0 := Lib.hid ((Below.refl w.heap.size w).alloc (Nat.le_refl _) (.cells #[.int .i64 0, .int .i64 0, .int .i64 0, .float .f64 0, .int .i64 0, .int .i64 0, .int .i64 0, .int .i64 0] 51))
  clear hr h
  go_enter Try.func51, Try.ntmps51
  go_wp2_with fail
  refine (D _ R0.out).out.mono ?_
  rintro e w2 ⟨rfl, hb2⟩
  have s2 := hb2.size
  simp only [World.size_alloc] at s2
  have Q2 := Lib.hid ((Q0.out.below hb2 (by simp)).alloc (.cells #[.int .i64 0, .int .i64 0, .int .i64 0, .float .f64 0, .int .i64 0, .int .i64 0, .int .i64 0, .int .i64 0] 51))
  have B2 := Lib.hid ((B0.out.trans (hb2.mono (by simp))).alloc (by omega) (.cells #[.int .i64 0, .int .i64 0, .int .i64 0, .float .f64 0, .int .i64 0, .int .i64 0, .int .i64 0, .int .i64 0] 51))
  have C2 := Lib.hid (Blk.new w2 51 #[.int .i64 0, .int .i64 0, .int .i64 0, .float .f64 0, .int .i64 0, .int .i64 0, .int .i64 0, .int .i64 0])
  clear R0 Q0 B0 hb2
  go_upto_region 2 with fail
  generalize hW : w2.alloc (.cells #[.int .i64 0, .int .i64 0, .int .i64 0, .float .f64 0, .int .i64 0, .int .i64 0, .int .i64 0, .int .i64 0] 51) = w3 at *
  clear hW
  have q0 := Q2.out.cell 0
  have g0 := Q2.out.frozen 0
  have q1 := Q2.out.cell 1
  have g1 := Q2.out.frozen 1
  have q2 := Q2.out.cell 2
  have g2 := Q2.out.frozen 2
  have q3 := Q2.out.cell 3
  have g3 := Q2.out.frozen 3
  have q4 := Q2.out.cell 4
  have g4 := Q2.out.frozen 4
  have q5 := Q2.out.cell 5
  have g5 := Q2.out.frozen 5
  have q6 := Q2.out.cell 6
  have g6 := Q2.out.frozen 6
  have q7 := Q2.out.cell 7
  have g7 := Q2.out.frozen 7
  simp at q0 q1 q2 q3 q4 q5 q6 q7
  go_wp2_with fail
  have Y := ((((((((Q2.out).set_ 0 (.int .i64 0)).set_ 1 (.int .i64 0)).set_ 2 (.int .i64 0)).set_ 3 (.float .f64 0)).set_ 4 (.int .i64 0)).set_ 5 (.int .i64 0)).set_ 6 (.int .i64 0)).set_ 7 (.int .i64 0)
  have BY := ((((((((B2.out).setCell (p := ⟨w.heap.size, 0, none⟩) (Nat.le_refl _) (.int .i64 0)).setCell (p := ⟨w.heap.size, 1, none⟩) (Nat.le_refl _) (.int .i64 0)).setCell (p := ⟨w.heap.size, 2, none⟩) (Nat.le_refl _) (.int .i64 0)).setCell (p := ⟨w.heap.size, 3, none⟩) (Nat.le_refl _) (.float .f64 0)).setCell (p := ⟨w.heap.size, 4, none⟩) (Nat.le_refl _) (.int .i64 0)).setCell (p := ⟨w.heap.size, 5, none⟩) (Nat.le_refl _) (.int .i64 0)).setCell (p := ⟨w.heap.size, 6, none⟩) (Nat.le_refl _) (.int .i64 0)).setCell (p := ⟨w.heap.size, 7, none⟩) (Nat.le_refl _) (.int .i64 0)
  generalize ((((((((w3.setCell ⟨w.heap.size, 0, none⟩ (.int .i64 0)).setCell ⟨w.heap.size, 1, none⟩ (.int .i64 0)).setCell ⟨w.heap.size, 2, none⟩ (.int .i64 0)).setCell ⟨w.heap.size, 3, none⟩ (.float .f64 0)).setCell ⟨w.heap.size, 4, none⟩ (.int .i64 0)).setCell ⟨w.heap.size, 5, none⟩ (.int .i64 0)).setCell ⟨w.heap.size, 6, none⟩ (.int .i64 0)).setCell ⟨w.heap.size, 7, none⟩ (.int .i64 0)) = wz at *
  have y0 := Y.cell 0
  have y1 := Y.cell 1
  have y2 := Y.cell 2
  have y3 := Y.cell 3
  have y4 := Y.cell 4
  have y5 := Y.cell 5
  have y6 := Y.cell 6
  have y7 := Y.cell 7
  simp at y0 y1 y2 y3 y4 y5 y6 y7
  (try simp only [Exit.inBlock, Exit.then])
  refine bodyPost_ret (by simp [results, Try.results51, go_sem, y0, y1, y2, y3, y4, y5, y6, y7]; try rfl) rfl ?_
  exact ⟨rfl, BY⟩
set_option maxHeartbeats 2000000 in
theorem alone_not (A : Option Addr) (n c : Nat) (bs : List B8) (at_ : Int) (w : World) (hr : Rd w w.heap.size A n bs) (hc : n ≤ c) (h : decE bs = 0) (hg : ¬ numAt bs 2 = 1) :
    Calls Try.prog 51 #[.slice A n c, .int .i64 at_] w fun e w' => e = .returned (.tuple #[zeroV, .int .i64 0, .int .i64 5]) ∧ Below w.heap.size w w' := by
  have hst := storeFloat
  have D := fun (W : World) (h' : Rd W W.heap.size A n bs) => Lib.hid (dec_any A n c bs W h' hc)
  rw [decV_ok h, h] at D
  unfold crownV at D
  have h1 : (numAt bs 2 != 1) = true := by rw [bne_iff_ne]; exact hg
  have R0 := Lib.hid ((hr.alloc (Nat.le_refl _) (.cells #[.int .i64 0, .int .i64 0, .int .i64 0, .float .f64 0, .int .i64 0, .int .i64 0, .int .i64 0, .int .i64 0] 51)).more (B' := (w.alloc (.cells #[.int .i64 0, .int .i64 0, .int .i64 0, .float .f64 0, .int .i64 0, .int .i64 0, .int .i64 0, .int .i64 0] 51)).heap.size) (by simp))
  have Q0 := Lib.hid (Blk.new w 51 #[.int .i64 0, .int .i64 0, .int .i64 0, .float .f64 0, .int .i64 0, .int .i64 0, .int .i64 0, .int .i64 0])
  have B0 := Lib.hid ((Below.refl w.heap.size w).alloc (Nat.le_refl _) (.cells #[.int .i64 0, .int .i64 0, .int .i64 0, .float .f64 0, .int .i64 0, .int .i64 0, .int .i64 0, .int .i64 0] 51))
  clear hr h
  go_enter Try.func51, Try.ntmps51
  go_wp2_with fail
  refine (D _ R0.out).out.mono ?_
  rintro e w2 ⟨rfl, hb2⟩
  have s2 := hb2.size
  simp only [World.size_alloc] at s2
  have Q2 := Lib.hid ((Q0.out.below hb2 (by simp)).alloc (.cells #[.int .i64 (numAt bs 2), .int .i64 (numAt bs 6), .int .i64 (numAt bs 10), .float .f64 (gainAt bs), .int .i64 (numAt bs 14), .int .i64 (numAt bs 18), .int .i64 (numAt bs 22), .int .i64 (numAt bs 26)] 51))
  have B2 := Lib.hid ((B0.out.trans (hb2.mono (by simp))).alloc (by omega) (.cells #[.int .i64 (numAt bs 2), .int .i64 (numAt bs 6), .int .i64 (numAt bs 10), .float .f64 (gainAt bs), .int .i64 (numAt bs 14), .int .i64 (numAt bs 18), .int .i64 (numAt bs 22), .int .i64 (numAt bs 26)] 51))
  have C2 := Lib.hid (Blk.new w2 51 #[.int .i64 (numAt bs 2), .int .i64 (numAt bs 6), .int .i64 (numAt bs 10), .float .f64 (gainAt bs), .int .i64 (numAt bs 14), .int .i64 (numAt bs 18), .int .i64 (numAt bs 22), .int .i64 (numAt bs 26)])
  clear R0 Q0 B0 hb2
  go_upto_region 2 with fail
  generalize hW : w2.alloc (.cells #[.int .i64 (numAt bs 2), .int .i64 (numAt bs 6), .int .i64 (numAt bs 10), .float .f64 (gainAt bs), .int .i64 (numAt bs 14), .int .i64 (numAt bs 18), .int .i64 (numAt bs 22), .int .i64 (numAt bs 26)] 51) = w3 at *
  clear hW
  have v0 := C2.out.cell 0
  have v1 := C2.out.cell 1
  have v2 := C2.out.cell 2
  have v3 := C2.out.cell 3
  have v4 := C2.out.cell 4
  have v5 := C2.out.cell 5
  have v6 := C2.out.cell 6
  have v7 := C2.out.cell 7
  simp at v0 v1 v2 v3 v4 v5 v6 v7
  have q0 := Q2.out.cell 0
  have g0 := Q2.out.frozen 0
  have q1 := Q2.out.cell 1
  have g1 := Q2.out.frozen 1
  have q2 := Q2.out.cell 2
  have g2 := Q2.out.frozen 2
  have q3 := Q2.out.cell 3
  have g3 := Q2.out.frozen 3
  have q4 := Q2.out.cell 4
  have g4 := Q2.out.frozen 4
  have q5 := Q2.out.cell 5
  have g5 := Q2.out.frozen 5
  have q6 := Q2.out.cell 6
  have g6 := Q2.out.frozen 6
  have q7 := Q2.out.cell 7
  have g7 := Q2.out.frozen 7
  simp at q0 q1 q2 q3 q4 q5 q6 q7
  go_wp2_with fail
  have Y := ((((((((Q2.out).set_ 0 (.int .i64 0)).set_ 1 (.int .i64 0)).set_ 2 (.int .i64 0)).set_ 3 (.float .f64 0)).set_ 4 (.int .i64 0)).set_ 5 (.int .i64 0)).set_ 6 (.int .i64 0)).set_ 7 (.int .i64 0)
  have BY := ((((((((B2.out).setCell (p := ⟨w.heap.size, 0, none⟩) (Nat.le_refl _) (.int .i64 0)).setCell (p := ⟨w.heap.size, 1, none⟩) (Nat.le_refl _) (.int .i64 0)).setCell (p := ⟨w.heap.size, 2, none⟩) (Nat.le_refl _) (.int .i64 0)).setCell (p := ⟨w.heap.size, 3, none⟩) (Nat.le_refl _) (.float .f64 0)).setCell (p := ⟨w.heap.size, 4, none⟩) (Nat.le_refl _) (.int .i64 0)).setCell (p := ⟨w.heap.size, 5, none⟩) (Nat.le_refl _) (.int .i64 0)).setCell (p := ⟨w.heap.size, 6, none⟩) (Nat.le_refl _) (.int .i64 0)).setCell (p := ⟨w.heap.size, 7, none⟩) (Nat.le_refl _) (.int .i64 0)
  generalize ((((((((w3.setCell ⟨w.heap.size, 0, none⟩ (.int .i64 0)).setCell ⟨w.heap.size, 1, none⟩ (.int .i64 0)).setCell ⟨w.heap.size, 2, none⟩ (.int .i64 0)).setCell ⟨w.heap.size, 3, none⟩ (.float .f64 0)).setCell ⟨w.heap.size, 4, none⟩ (.int .i64 0)).setCell ⟨w.heap.size, 5, none⟩ (.int .i64 0)).setCell ⟨w.heap.size, 6, none⟩ (.int .i64 0)).setCell ⟨w.heap.size, 7, none⟩ (.int .i64 0)) = wz at *
  have y0 := Y.cell 0
  have y1 := Y.cell 1
  have y2 := Y.cell 2
  have y3 := Y.cell 3
  have y4 := Y.cell 4
  have y5 := Y.cell 5
  have y6 := Y.cell 6
  have y7 := Y.cell 7
  simp at y0 y1 y2 y3 y4 y5 y6 y7
  (try simp only [Exit.inBlock, Exit.then])
  refine bodyPost_ret (by simp [results, Try.results51, go_sem, y0, y1, y2, y3, y4, y5, y6, y7]; try rfl) rfl ?_
  exact ⟨rfl, BY⟩
set_option maxHeartbeats 2000000 in
theorem alone_one (A : Option Addr) (n c : Nat) (bs : List B8) (at_ : Int) (w : World) (hr : Rd w w.heap.size A n bs) (hc : n ≤ c) (h : decE bs = 0) (hg : numAt bs 2 = 1) :
    Calls Try.prog 51 #[.slice A n c, .int .i64 at_] w fun e w' => e = .returned (.tuple #[crownV bs, .int .i64 at_, .int .i64 0]) ∧ Below w.heap.size w w' := by
  have hst := storeFloat
  have D := fun (W : World) (h' : Rd W W.heap.size A n bs) => Lib.hid (dec_any A n c bs W h' hc)
  rw [decV_ok h, h] at D
  unfold crownV at D
  have h1 : (numAt bs 2 != 1) = false := by rw [bne_eq_false_iff_eq]; exact hg
  have HG := Lib.hid hg
  clear hg
  have R0 := Lib.hid ((hr.alloc (Nat.le_refl _) (.cells #[.int .i64 0, .int .i64 0, .int .i64 0, .float .f64 0, .int .i64 0, .int .i64 0, .int .i64 0, .int .i64 0] 51)).more (B' := (w.alloc (.cells #[.int .i64 0, .int .i64 0, .int .i64 0, .float .f64 0, .int .i64 0, .int .i64 0, .int .i64 0, .int .i64 0] 51)).heap.size) (by simp))
  have Q0 := Lib.hid (Blk.new w 51 #[.int .i64 0, .int .i64 0, .int .i64 0, .float .f64 0, .int .i64 0, .int .i64 0, .int .i64 0, .int .i64 0])
  have B0 := Lib.hid ((Below.refl w.heap.size w).alloc (Nat.le_refl _) (.cells #[.int .i64 0, .int .i64 0, .int .i64 0, .float .f64 0, .int .i64 0, .int .i64 0, .int .i64 0, .int .i64 0] 51))
  clear hr h
  go_enter Try.func51, Try.ntmps51
  go_wp2_with fail
  refine (D _ R0.out).out.mono ?_
  rintro e w2 ⟨rfl, hb2⟩
  have s2 := hb2.size
  simp only [World.size_alloc] at s2
  have Q2 := Lib.hid ((Q0.out.below hb2 (by simp)).alloc (.cells #[.int .i64 (numAt bs 2), .int .i64 (numAt bs 6), .int .i64 (numAt bs 10), .float .f64 (gainAt bs), .int .i64 (numAt bs 14), .int .i64 (numAt bs 18), .int .i64 (numAt bs 22), .int .i64 (numAt bs 26)] 51))
  have B2 := Lib.hid ((B0.out.trans (hb2.mono (by simp))).alloc (by omega) (.cells #[.int .i64 (numAt bs 2), .int .i64 (numAt bs 6), .int .i64 (numAt bs 10), .float .f64 (gainAt bs), .int .i64 (numAt bs 14), .int .i64 (numAt bs 18), .int .i64 (numAt bs 22), .int .i64 (numAt bs 26)] 51))
  have C2 := Lib.hid (Blk.new w2 51 #[.int .i64 (numAt bs 2), .int .i64 (numAt bs 6), .int .i64 (numAt bs 10), .float .f64 (gainAt bs), .int .i64 (numAt bs 14), .int .i64 (numAt bs 18), .int .i64 (numAt bs 22), .int .i64 (numAt bs 26)])
  clear R0 Q0 B0 hb2
  go_upto_region 2 with fail
  generalize hW : w2.alloc (.cells #[.int .i64 (numAt bs 2), .int .i64 (numAt bs 6), .int .i64 (numAt bs 10), .float .f64 (gainAt bs), .int .i64 (numAt bs 14), .int .i64 (numAt bs 18), .int .i64 (numAt bs 22), .int .i64 (numAt bs 26)] 51) = w3 at *
  clear hW
  have v0 := C2.out.cell 0
  have v1 := C2.out.cell 1
  have v2 := C2.out.cell 2
  have v3 := C2.out.cell 3
  have v4 := C2.out.cell 4
  have v5 := C2.out.cell 5
  have v6 := C2.out.cell 6
  have v7 := C2.out.cell 7
  simp at v0 v1 v2 v3 v4 v5 v6 v7
  have q0 := Q2.out.cell 0
  have g0 := Q2.out.frozen 0
  have q1 := Q2.out.cell 1
  have g1 := Q2.out.frozen 1
  have q2 := Q2.out.cell 2
  have g2 := Q2.out.frozen 2
  have q3 := Q2.out.cell 3
  have g3 := Q2.out.frozen 3
  have q4 := Q2.out.cell 4
  have g4 := Q2.out.frozen 4
  have q5 := Q2.out.cell 5
  have g5 := Q2.out.frozen 5
  have q6 := Q2.out.cell 6
  have g6 := Q2.out.frozen 6
  have q7 := Q2.out.cell 7
  have g7 := Q2.out.frozen 7
  simp at q0 q1 q2 q3 q4 q5 q6 q7
  go_wp2_with fail
  have Y := ((((((((Q2.out).set_ 0 (.int .i64 (numAt bs 2))).set_ 1 (.int .i64 (numAt bs 6))).set_ 2 (.int .i64 (numAt bs 10))).set_ 3 (.float .f64 (gainAt bs))).set_ 4 (.int .i64 (numAt bs 14))).set_ 5 (.int .i64 (numAt bs 18))).set_ 6 (.int .i64 (numAt bs 22))).set_ 7 (.int .i64 (numAt bs 26))
  have BY := ((((((((B2.out).setCell (p := ⟨w.heap.size, 0, none⟩) (Nat.le_refl _) (.int .i64 (numAt bs 2))).setCell (p := ⟨w.heap.size, 1, none⟩) (Nat.le_refl _) (.int .i64 (numAt bs 6))).setCell (p := ⟨w.heap.size, 2, none⟩) (Nat.le_refl _) (.int .i64 (numAt bs 10))).setCell (p := ⟨w.heap.size, 3, none⟩) (Nat.le_refl _) (.float .f64 (gainAt bs))).setCell (p := ⟨w.heap.size, 4, none⟩) (Nat.le_refl _) (.int .i64 (numAt bs 14))).setCell (p := ⟨w.heap.size, 5, none⟩) (Nat.le_refl _) (.int .i64 (numAt bs 18))).setCell (p := ⟨w.heap.size, 6, none⟩) (Nat.le_refl _) (.int .i64 (numAt bs 22))).setCell (p := ⟨w.heap.size, 7, none⟩) (Nat.le_refl _) (.int .i64 (numAt bs 26))
  generalize ((((((((w3.setCell ⟨w.heap.size, 0, none⟩ (.int .i64 (numAt bs 2))).setCell ⟨w.heap.size, 1, none⟩ (.int .i64 (numAt bs 6))).setCell ⟨w.heap.size, 2, none⟩ (.int .i64 (numAt bs 10))).setCell ⟨w.heap.size, 3, none⟩ (.float .f64 (gainAt bs))).setCell ⟨w.heap.size, 4, none⟩ (.int .i64 (numAt bs 14))).setCell ⟨w.heap.size, 5, none⟩ (.int .i64 (numAt bs 18))).setCell ⟨w.heap.size, 6, none⟩ (.int .i64 (numAt bs 22))).setCell ⟨w.heap.size, 7, none⟩ (.int .i64 (numAt bs 26))) = wz at *
  have y0 := Y.cell 0
  have y1 := Y.cell 1
  have y2 := Y.cell 2
  have y3 := Y.cell 3
  have y4 := Y.cell 4
  have y5 := Y.cell 5
  have y6 := Y.cell 6
  have y7 := Y.cell 7
  simp at y0 y1 y2 y3 y4 y5 y6 y7
  (try simp only [Exit.inBlock, Exit.then])
  refine bodyPost_ret (by simp [results, Try.results51, go_sem, y0, y1, y2, y3, y4, y5, y6, y7]; try rfl) rfl ?_
  exact ⟨rfl, BY⟩
theorem alone_any (A : Option Addr) (n c : Nat) (bs : List B8) (at_ : Int) (w : World) (hr : Rd w w.heap.size A n bs) (hc : n ≤ c) :
    Calls Try.prog 51 #[.slice A n c, .int .i64 at_] w fun e w' => e = .returned (.tuple #[aloneV bs, .int .i64 (aloneN bs at_), .int .i64 (aloneE bs)]) ∧ Below w.heap.size w w' := by
  unfold aloneV aloneN aloneE oneB
  by_cases h : decE bs = 0
  · by_cases hg : numAt bs 2 = 1
    · simp only [h, hg, decide_true, Bool.and_self, if_true]
      exact alone_one A n c bs at_ w hr hc h hg
    · simp only [h, hg, decide_true, decide_false, Bool.and_false, Bool.false_eq_true, if_false]
      exact alone_not A n c bs at_ w hr hc h hg
  · simp only [h, decide_false, Bool.false_and, Bool.false_eq_true, if_false]
    exact alone_bad A n c bs at_ w hr hc h
end Go.Proofs.Ythhgmanoifpoiaa

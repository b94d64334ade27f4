/- The walk of CrownChooses. -/
import Derived.Test.YthhgmanoifpoiaaCrL
namespace Go.Proofs.Ythhgmanoifpoiaa
open Go.RowKit
set_option linter.unusedVariables false

theorem chooseR_cases (a b : List B8) : (∃ E, chooseR a b = (zeroV, 0, E) ∧ ¬ E = 0) ∨ (∃ x N, chooseR a b = (crownV x, N, 0)) := by
  unfold chooseR aloneV aloneN aloneE
  split
  · split
    · exact .inl ⟨8, rfl, by decide⟩
    · cases oneB b
      · exact .inl ⟨5, rfl, by decide⟩
      · exact .inr ⟨b, 1, rfl⟩
  · split
    · cases oneB a
      · exact .inl ⟨5, rfl, by decide⟩
      · exact .inr ⟨a, 0, rfl⟩
    · split
      · split
        · exact .inl ⟨4, rfl, by decide⟩
        · split
          · exact .inr ⟨a, 0, rfl⟩
          · exact .inr ⟨b, 1, rfl⟩
      · exact .inl ⟨5, rfl, by decide⟩

set_option maxHeartbeats 4000000 in
theorem walkChBad (A : Option Addr) (n c : Nat) (a : List B8) (A2 : Option Addr) (n2 c2 : Nat) (b : List B8) (w : World) (hra : Rd w w.heap.size A n a) (hca : n ≤ c) (hrb : Rd w w.heap.size A2 n2 b) (hcb : n2 ≤ c2) (hn : n ≤ 500) (hn2 : n2 ≤ 500) (E : Int) (h : chooseR a b = (zeroV, 0, E)) (hE : ¬ E = 0) :
    Calls Try.prog 11 #[.slice A n c, .slice A2 n2 c2] w fun e w' => e = .returned (.bool true) ∧ Below w.heap.size w w' := by
  have hst := storeFloat
  have D := fun (W : World) (h' : Rd W W.heap.size A n a) (h2 : Rd W W.heap.size A2 n2 b) => Lib.hid (choose_any A n c a A2 n2 c2 b W h' hca h2 hcb)
  have F := fun (W : World) (h' : Rd W W.heap.size A n a) (h2 : Rd W W.heap.size A2 n2 b) => Lib.hid (refChoose_any A n c a A2 n2 c2 b W h' hca h2 hcb hn hn2)
  rw [h] at D F
  dsimp only at D F
  unfold zeroV at D F
  have h1 : (E != 0) = true := by rw [bne_iff_ne]; exact hE
  have h2 : (E == 0) = false := by rw [beq_eq_false_iff_ne]; exact hE
  clear hE
  have HRa := Lib.hid hra
  have HRb := Lib.hid hrb
  clear hra hrb h
  go_enter Try.func11, Try.ntmps11
  go_wp2_with (first
    | (go_at_call 26
       refine (awake16 _).mono ?_
       rintro e w1 ⟨rfl, hb1⟩
       have B1 := Lib.hid hb1
       have X1 := Lib.hid ((HRa.out.below hb1).more hb1.size)
       have Y1 := Lib.hid ((HRb.out.below hb1).more hb1.size)
       have s1 := hb1.size
       clear hb1)
    | fail)
  refine (D _ X1.out Y1.out).out.mono ?_
  rintro e w2 ⟨rfl, hb2⟩
  have s2 := hb2.size
  have B2 := Lib.hid ((B1.out.trans (hb2.mono (by omega))).alloc (by omega) (.cells #[.int .i64 0, .int .i64 0, .int .i64 0, .float .f64 0, .int .i64 0, .int .i64 0, .int .i64 0, .int .i64 0] 51))
  have C2 := Lib.hid (Blk.new w2 51 #[.int .i64 0, .int .i64 0, .int .i64 0, .float .f64 0, .int .i64 0, .int .i64 0, .int .i64 0, .int .i64 0])
  have X2 := Lib.hid (((X1.out.below hb2).alloc s2 (.cells #[.int .i64 0, .int .i64 0, .int .i64 0, .float .f64 0, .int .i64 0, .int .i64 0, .int .i64 0, .int .i64 0] 51)).more (B' := (w2.alloc (.cells #[.int .i64 0, .int .i64 0, .int .i64 0, .float .f64 0, .int .i64 0, .int .i64 0, .int .i64 0, .int .i64 0] 51)).heap.size) (by simp; omega))
  have Y2 := Lib.hid (((Y1.out.below hb2).alloc s2 (.cells #[.int .i64 0, .int .i64 0, .int .i64 0, .float .f64 0, .int .i64 0, .int .i64 0, .int .i64 0, .int .i64 0] 51)).more (B' := (w2.alloc (.cells #[.int .i64 0, .int .i64 0, .int .i64 0, .float .f64 0, .int .i64 0, .int .i64 0, .int .i64 0, .int .i64 0] 51)).heap.size) (by simp; omega))
  clear B1 X1 Y1 hb2
  go_wp2_with fail
  refine (F _ X2.out Y2.out).out.mono ?_
  rintro e w3 ⟨rfl, hb3⟩
  have s3 := hb3.size
  simp only [World.size_alloc] at s3
  have C3 := Lib.hid (C2.out.below hb3 (by simp))
  have B3 := Lib.hid (B2.out.trans (hb3.mono (by simp; omega)))
  clear C2 B2 X2 Y2 hb3
  go_upto_region 7 with fail
  have C4 := Lib.hid (C3.out.alloc (.cells #[.int .i64 0, .int .i64 0, .int .i64 0, .float .f64 0, .int .i64 0, .int .i64 0, .int .i64 0, .int .i64 0] 42))
  have D4 := Lib.hid (Blk.new w3 42 #[.int .i64 0, .int .i64 0, .int .i64 0, .float .f64 0, .int .i64 0, .int .i64 0, .int .i64 0, .int .i64 0])
  have B4 := Lib.hid (B3.out.alloc (by omega) (.cells #[.int .i64 0, .int .i64 0, .int .i64 0, .float .f64 0, .int .i64 0, .int .i64 0, .int .i64 0, .int .i64 0] 42))
  have s4 : (w3.alloc (.cells #[.int .i64 0, .int .i64 0, .int .i64 0, .float .f64 0, .int .i64 0, .int .i64 0, .int .i64 0, .int .i64 0] 42)).heap.size = w3.heap.size + 1 := by simp
  generalize hW : w3.alloc (.cells #[.int .i64 0, .int .i64 0, .int .i64 0, .float .f64 0, .int .i64 0, .int .i64 0, .int .i64 0, .int .i64 0] 42) = w4 at *
  clear hW C3 B3
  go_wp2_with fail
  go_ret
  exact ⟨rfl, B4.out⟩
set_option maxHeartbeats 4000000 in
theorem walkChOk (A : Option Addr) (n c : Nat) (a : List B8) (A2 : Option Addr) (n2 c2 : Nat) (b : List B8) (w : World) (hra : Rd w w.heap.size A n a) (hca : n ≤ c) (hrb : Rd w w.heap.size A2 n2 b) (hcb : n2 ≤ c2) (hn : n ≤ 500) (hn2 : n2 ≤ 500) (x : List B8) (N : Int) (h : chooseR a b = (crownV x, N, 0)) :
    Calls Try.prog 11 #[.slice A n c, .slice A2 n2 c2] w fun e w' => e = .returned (.bool true) ∧ Below w.heap.size w w' := by
  have hst := storeFloat
  have D := fun (W : World) (h' : Rd W W.heap.size A n a) (h2 : Rd W W.heap.size A2 n2 b) => Lib.hid (choose_any A n c a A2 n2 c2 b W h' hca h2 hcb)
  have F := fun (W : World) (h' : Rd W W.heap.size A n a) (h2 : Rd W W.heap.size A2 n2 b) => Lib.hid (refChoose_any A n c a A2 n2 c2 b W h' hca h2 hcb hn hn2)
  rw [h] at D F
  dsimp only at D F
  unfold crownV at D F
  have HRa := Lib.hid hra
  have HRb := Lib.hid hrb
  clear hra hrb h
  go_enter Try.func11, Try.ntmps11
  go_wp2_with (first
    | (go_at_call 26
       refine (awake16 _).mono ?_
       rintro e w1 ⟨rfl, hb1⟩
       have B1 := Lib.hid hb1
       have X1 := Lib.hid ((HRa.out.below hb1).more hb1.size)
       have Y1 := Lib.hid ((HRb.out.below hb1).more hb1.size)
       have s1 := hb1.size
       clear hb1)
    | fail)
  refine (D _ X1.out Y1.out).out.mono ?_
  rintro e w2 ⟨rfl, hb2⟩
  have s2 := hb2.size
  have B2 := Lib.hid ((B1.out.trans (hb2.mono (by omega))).alloc (by omega) (.cells #[.int .i64 (numAt x 2), .int .i64 (numAt x 6), .int .i64 (numAt x 10), .float .f64 (gainAt x), .int .i64 (numAt x 14), .int .i64 (numAt x 18), .int .i64 (numAt x 22), .int .i64 (numAt x 26)] 51))
  have C2 := Lib.hid (Blk.new w2 51 #[.int .i64 (numAt x 2), .int .i64 (numAt x 6), .int .i64 (numAt x 10), .float .f64 (gainAt x), .int .i64 (numAt x 14), .int .i64 (numAt x 18), .int .i64 (numAt x 22), .int .i64 (numAt x 26)])
  have X2 := Lib.hid (((X1.out.below hb2).alloc s2 (.cells #[.int .i64 (numAt x 2), .int .i64 (numAt x 6), .int .i64 (numAt x 10), .float .f64 (gainAt x), .int .i64 (numAt x 14), .int .i64 (numAt x 18), .int .i64 (numAt x 22), .int .i64 (numAt x 26)] 51)).more (B' := (w2.alloc (.cells #[.int .i64 (numAt x 2), .int .i64 (numAt x 6), .int .i64 (numAt x 10), .float .f64 (gainAt x), .int .i64 (numAt x 14), .int .i64 (numAt x 18), .int .i64 (numAt x 22), .int .i64 (numAt x 26)] 51)).heap.size) (by simp; omega))
  have Y2 := Lib.hid (((Y1.out.below hb2).alloc s2 (.cells #[.int .i64 (numAt x 2), .int .i64 (numAt x 6), .int .i64 (numAt x 10), .float .f64 (gainAt x), .int .i64 (numAt x 14), .int .i64 (numAt x 18), .int .i64 (numAt x 22), .int .i64 (numAt x 26)] 51)).more (B' := (w2.alloc (.cells #[.int .i64 (numAt x 2), .int .i64 (numAt x 6), .int .i64 (numAt x 10), .float .f64 (gainAt x), .int .i64 (numAt x 14), .int .i64 (numAt x 18), .int .i64 (numAt x 22), .int .i64 (numAt x 26)] 51)).heap.size) (by simp; omega))
  clear B1 X1 Y1 hb2
  go_wp2_with fail
  refine (F _ X2.out Y2.out).out.mono ?_
  rintro e w3 ⟨rfl, hb3⟩
  have s3 := hb3.size
  simp only [World.size_alloc] at s3
  have C3 := Lib.hid (C2.out.below hb3 (by simp))
  have B3 := Lib.hid (B2.out.trans (hb3.mono (by simp; omega)))
  clear C2 B2 X2 Y2 hb3
  go_upto_region 7 with fail
  have C4 := Lib.hid (C3.out.alloc (.cells #[.int .i64 (numAt x 2), .int .i64 (numAt x 6), .int .i64 (numAt x 10), .float .f64 (gainAt x), .int .i64 (numAt x 14), .int .i64 (numAt x 18), .int .i64 (numAt x 22), .int .i64 (numAt x 26)] 42))
  have D4 := Lib.hid (Blk.new w3 42 #[.int .i64 (numAt x 2), .int .i64 (numAt x 6), .int .i64 (numAt x 10), .float .f64 (gainAt x), .int .i64 (numAt x 14), .int .i64 (numAt x 18), .int .i64 (numAt x 22), .int .i64 (numAt x 26)])
  have B4 := Lib.hid (B3.out.alloc (by omega) (.cells #[.int .i64 (numAt x 2), .int .i64 (numAt x 6), .int .i64 (numAt x 10), .float .f64 (gainAt x), .int .i64 (numAt x 14), .int .i64 (numAt x 18), .int .i64 (numAt x 22), .int .i64 (numAt x 26)] 42))
  have s4 : (w3.alloc (.cells #[.int .i64 (numAt x 2), .int .i64 (numAt x 6), .int .i64 (numAt x 10), .float .f64 (gainAt x), .int .i64 (numAt x 14), .int .i64 (numAt x 18), .int .i64 (numAt x 22), .int .i64 (numAt x 26)] 42)).heap.size = w3.heap.size + 1 := by simp
  generalize hW : w3.alloc (.cells #[.int .i64 (numAt x 2), .int .i64 (numAt x 6), .int .i64 (numAt x 10), .float .f64 (gainAt x), .int .i64 (numAt x 14), .int .i64 (numAt x 18), .int .i64 (numAt x 22), .int .i64 (numAt x 26)] 42) = w4 at *
  clear hW C3 B3
  have k0 := C4.out.cell 0
  have k1 := C4.out.cell 1
  have k2 := C4.out.cell 2
  have k3 := C4.out.cell 3
  have k4 := C4.out.cell 4
  have k5 := C4.out.cell 5
  have k6 := C4.out.cell 6
  have k7 := C4.out.cell 7
  simp at k0 k1 k2 k3 k4 k5 k6 k7
  have d0 := D4.out.cell 0
  have d1 := D4.out.cell 1
  have d2 := D4.out.cell 2
  have d3 := D4.out.cell 3
  have d4 := D4.out.cell 4
  have d5 := D4.out.cell 5
  have d6 := D4.out.cell 6
  have d7 := D4.out.cell 7
  simp at d0 d1 d2 d3 d4 d5 d6 d7
  go_wp2_with fail
  refine (same_any _ _ _ _ _ _ _ _ _).mono ?_
  rintro e w5 ⟨rfl, hb5⟩
  go_wp2_with fail
  go_ret
  exact ⟨rfl, B4.out.trans (hb5.mono (by omega))⟩
theorem walkChoose (A : Option Addr) (n c : Nat) (a : List B8) (A2 : Option Addr) (n2 c2 : Nat) (b : List B8) (w : World) (hra : Rd w w.heap.size A n a) (hca : n ≤ c) (hrb : Rd w w.heap.size A2 n2 b) (hcb : n2 ≤ c2) :
    Calls Try.prog 11 #[.slice A n c, .slice A2 n2 c2] w fun e w' => e = .returned (.bool true) ∧ Below w.heap.size w w' := by
  by_cases hn : n ≤ 500
  · by_cases hn2 : n2 ≤ 500
    · rcases chooseR_cases a b with ⟨E, h, hE⟩ | ⟨x, N, h⟩
      · exact walkChBad A n c a A2 n2 c2 b w hra hca hrb hcb hn hn2 E h hE
      · exact walkChOk A n c a A2 n2 c2 b w hra hca hrb hcb hn hn2 x N h
    · have hnI : (500 : Int) < (n2 : Int) := by omega
      have hnJ : ¬ (500 : Int) < (n : Int) := by omega
      clear hra hrb
      go_enter Try.func11, Try.ntmps11
      go_wp2_with (go_at_call 26; refine (awake16 _).mono ?_; rintro e w1 ⟨rfl, hb1⟩)
      go_ret
      exact ⟨rfl, hb1⟩
  · have hnI : (500 : Int) < (n : Int) := by omega
    clear hra hrb
    go_enter Try.func11, Try.ntmps11
    go_wp2_with (go_at_call 26; refine (awake16 _).mono ?_; rintro e w1 ⟨rfl, hb1⟩)
    go_ret
    exact ⟨rfl, hb1⟩
end Go.Proofs.Ythhgmanoifpoiaa

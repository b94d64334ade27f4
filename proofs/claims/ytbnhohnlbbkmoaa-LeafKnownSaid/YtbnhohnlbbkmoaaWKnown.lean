/- The walk of LeafKnown. -/
import Derived.Test.YtbnhohnlbbkmoaaWMakes
import Derived.Deep.QuietTactic
import Derived.Deep.CutRange
namespace Go.Proofs.Ytbnhohnlbbkmoaa
open Go.RowKit
set_option linter.unusedVariables false

def kH : List B8 := [197#8, 126#8, 65#8, 0#8, 2#8, 1#8, 0#8, 0#8, 1#8, 0#8, 0#8, 0#8]
def kS : B32 := sum (kH ++ [9#8])
/-- The first bytes of the frame by hand. -/
def kW : List B8 := kH ++ leB kS ++ [9#8]
def kF : List B8 := frame 65#8 258#32 [9#8]
theorem kF_eq : kF = kW ++ List.replicate 47 0#8 := by
  have hs : frameSum 65#8 258#32 [9#8] = kS := by
    unfold kS frameSum sum
    rw [more_append]
    rfl
  unfold kF frame kW
  rw [hs]
  rfl
theorem kW_len : kW.length = 17 := rfl
theorem kF_len : kF.length = 64 := by rw [kF_eq]; rfl
theorem kF_low (i : Nat) (h : i < 17) : bt kF i = bt kW i := by
  rw [kF_eq]; exact bt_pre (by rw [kW_len]; exact h)
theorem kF_high (i : Nat) (h : 17 ≤ i) : bt kF i = 0#8 := by
  rw [kF_eq]
  unfold bt
  rw [List.getD_eq_getElem?_getD, List.getElem?_append_right (by rw [kW_len]; exact h), List.getElem?_replicate]
  split <;> rfl
theorem kF_short : headE (kF.take 15) = 2 := by
  unfold headE; rw [if_pos (by rw [List.length_take, kF_len]; decide)]
theorem kF_head : headE (kF.take 16) = 0 ∧ sizeS (kF.take 16) = 1 := by
  have hl := kF_len
  have ht : (kF.take 16).length = 16 := by rw [List.length_take]; omega
  obtain ⟨e1, e2⟩ := head_same (a := kF.take 16) (b := kF) (by omega) (by omega) (fun i hi => bt_take (by omega))
  have h1 : headE kF = 0 := frame_head _ _ _ (by decide) (by decide)
  have h2 : manyN kF = 1 := frame_many _ _ _ (by decide)
  refine ⟨by rw [e1, h1], ?_⟩
  unfold sizeS
  rw [if_pos (by rw [e1, h1]), e2, h2]
  rfl
theorem zeros_form : openE (List.replicate 64 0#8) 0#8 = 4 := by decide
theorem changed_sum : openE (kF.set 40 1#8) 65#8 = 5 := by
  have hl := kF_len
  have ht : (kF.set 40 1#8).length = 64 := by rw [List.length_set]; exact hl
  have hb (i : Nat) (h : i < 40) : bt (kF.set 40 1#8) i = bt kF i := by
    unfold bt
    rw [List.getD_eq_getElem?_getD, List.getD_eq_getElem?_getD, List.getElem?_set, if_neg (by omega)]
  obtain ⟨e1, e2⟩ := head_same (a := kF.set 40 1#8) (b := kF) (by omega) (by omega) (fun i hi => hb i (by omega))
  have h1 : headE kF = 0 := frame_head _ _ _ (by decide) (by decide)
  have h2 : manyN kF = 1 := frame_many _ _ _ (by decide)
  unfold openE
  rw [e1, h1, e2, h2, ht, if_neg (by decide), if_neg (by decide), if_neg (by decide), if_pos]
  right
  intro h
  have := congrArg (fun l => l[23]?) h
  simp only [List.getElem?_drop, List.getElem?_replicate] at this
  rw [List.getElem?_set, if_pos (by decide), if_pos (by omega)] at this
  simp at this

theorem make_known (w : World) :
    Calls Try.prog 21 #[.int .u8 65, .int .i64 258, .slice (some ⟨w.heap.size, 0, none⟩) 1 1] (w.alloc (.cells ([9#8].map v8).toArray 5)) fun e w' =>
      e = .returned (.tuple #[.slice (some ⟨w.heap.size + 1, 0, none⟩) 64 64, .int .i64 0]) ∧ w'.heap[w.heap.size + 1]? = some (.cells (kF.map v8).toArray 5 (0, 0)) ∧ Below w.heap.size w w' := by
  have hs : (w.alloc (.cells ([9#8].map v8).toArray 5)).heap.size = w.heap.size + 1 := by show (w.heap.push _).size = _; rw [Array.size_push]
  have hr : Rd (w.alloc (.cells ([9#8].map v8).toArray 5)) (w.alloc (.cells ([9#8].map v8).toArray 5)).heap.size (some ⟨w.heap.size, 0, none⟩) 1 [9#8] := by
    rw [hs]; exact rd_lit w [9#8] _ 5 (0, 0) rfl
  refine (make_ok 65#8 258#32 _ 1 1 [9#8] _ hr (by omega) (by decide)).mono ?_
  rintro e w' ⟨rfl, hh, hb⟩
  rw [hs] at hh hb ⊢
  exact ⟨rfl, hh, ((Below.refl _ _).alloc (Nat.le_refl _) _).trans (hb.mono (by omega))⟩

theorem grown_own {w w0 w2 : World} {base n m : Nat} {v v2 : Value} {xs ys : List B8} (hB : Below base w0 w) (hb : base ≤ w.heap.size) (ho : w.ownsRow base 5 1 v n (xs.map v8)) (hown : w2.ownsRow base 5 1 v2 (n + m) (xs.map v8 ++ ys.map v8)) (hg : w.grownBy w2 v.ownBlock) :
    ∃ A c, v2 = .slice A (n + m) c ∧ Hid (w2.ownsRow base 5 1 (.slice A (n + m) c) (n + m) ((xs ++ ys).map v8)) ∧ Hid (Below base w0 w2) := by
  obtain ⟨A, c, rfl, _⟩ := own_cap hown
  exact ⟨A, c, rfl, by show World.ownsRow _ _ _ _ _ _ _; rw [List.map_append]; exact hown, hB.grown hg hb (fun q hq => (ho.lt q hq).1)⟩

set_option maxHeartbeats 1000000 in
theorem walkKnown (w : World) : Calls Try.prog 13 #[] w fun e w' => e = .returned (.bool true) ∧ Below w.heap.size w w' := by
  obtain ⟨i0, hi, hz0, hz1, hz2⟩ := info_parts info5
  have MK := fun w => Lib.hid (make_known w)
  have m0 := mb_0 kS
  have m1 := mb_1 kS
  have m2 := mb_2 kS
  have m3 := mb_3 kS
  have m3b := mb_3b kS
  have hbS := I32.bd kS
  generalize hkS : kS = S at *
  have hk12 : kH.length = 12 := rfl
  go_enter Try.func13, Try.ntmps13
  go_upto_region 6 with (first
    | (go_at_call 20; refine (awake5 _).mono ?_; rintro e w1 ⟨rfl, hb1⟩)
    | (go_at_call 21; refine (MK _).out.mono ?_; rintro e w2 ⟨rfl, hf, hb2⟩))
  have hBw : Below w.heap.size w w2 := hb1.trans (hb2.mono hb1.size)
  have hs2 : w1.heap.size + 1 < w2.heap.size := (Array.getElem?_eq_some_iff.1 hf).1
  obtain ⟨w3, hw3⟩ : ∃ w3, w3 = w2.alloc (.cells (kH.map v8).toArray 5) := ⟨_, rfl⟩
  have s3 : w3.heap.size = w2.heap.size + 1 := by rw [hw3]; simp
  have R3 : Hid (Rd w3 (w2.heap.size + 1) (some ⟨w2.heap.size, 0, none⟩) 12 kH) := by show Rd _ _ _ _ _; rw [hw3]; exact rd_lit w2 kH _ 5 (0, 0) rfl
  have B3 : Hid (Below w2.heap.size w2 w3) := by show Below _ _ _; rw [hw3]; exact (Below.refl _ _).alloc (Nat.le_refl _) _
  have HF := Lib.hid hf
  have HBW := Lib.hid hBw
  go_cut [3] from 31 to 31 (fun v wx => v = .slice (some ⟨w2.heap.size, 0, none⟩) 12 12 ∧ w3 = wx)
  case first =>
    go_wp2_with fail
    go_meet
    exact ⟨rfl, hw3⟩
  case rest =>
  obtain ⟨rfl, rfl⟩ := hcut
  have HS2 := Lib.hid hs2
  have HS1 := Lib.hid hb1.size
  clear hw3 hf hBw hb1 hb2 hs2
  have O0 := Lib.hid (World.ownsRow_lit (base := w2.heap.size + 1) (e := 5) (size := 1) w3 #[] 0 (by omega) (by unfold maxLen; omega) rfl)
  have B0 := Lib.hid ((Below.refl (w2.heap.size + 1) w3).alloc (by omega) (.cells #[] 5))
  have R0 := Lib.hid (R3.out.alloc (by omega) (.cells #[] 5))
  have S0 : Hid (w2.heap.size + 1 ≤ (w3.alloc (.cells #[] 5)).heap.size) := by show _ ≤ _; simp; omega
  have HS3 := Lib.hid s3
  clear s3
  go_wp2_with (first
    | (at_builtin
       refine wpList_append_any _ rfl (.tmp 32) (.tmp 33) 22 rfl (w2.heap.size + 1) 5 i0 (.int .u8 0) 1 1 Try.underlying22 hi hz0 hz1 hz2 rfl (by decide) _ 0 _ rfl O0.out (w2.heap.size + 1) _ 12 12 (kH.map v8) rfl R0.out (oneCell_v8 _) (by unfold maxLen; omega) (by omega) S0.out ?_
       intro v4 w4 hown4 hg4 hat4
       obtain ⟨A4, c4, rfl, O4, B4⟩ := grown_own (xs := []) B0.out S0.out O0.out hown4 hg4
       have O4a := Lib.hid (O4.out.alloc (.cells #[.int .u8 9] 5))
       have B4a := Lib.hid (B4.out.alloc (by have := B4.out.size; have := HS3.out; omega) (.cells #[.int .u8 9] 5))
       have S4 : Hid (w2.heap.size + 1 ≤ (w4.alloc (.cells #[.int .u8 9] 5)).heap.size) := by show _ ≤ _; have := B4.out.size; have := HS3.out; simp; omega
       clear hown4 hg4 hat4)
    | (at_builtin
       refine wpList_append_any _ rfl (.tmp 34) (.tmp 35) 22 rfl (w2.heap.size + 1) 5 i0 (.int .u8 0) 1 1 Try.underlying22 hi hz0 hz1 hz2 rfl (by decide) _ (0 + 12) _ rfl O4a.out (w4.heap.size + 1) _ 1 1 ([9#8].map v8) rfl (rd_lit w4 [9#8] _ 5 (0, 0) rfl) (oneCell_v8 _) (by unfold maxLen; omega) (by omega) S4.out ?_
       intro v5 w5 hown5 hg5 hat5
       obtain ⟨A5, c5, rfl, O5, B5⟩ := grown_own B4a.out S4.out O4a.out hown5 hg5
       clear hown5 hg5 hat5))
  have SM := Lib.hid (sum_any A5 13 c5 (kH ++ [9#8]) _ w5 (Rd.of_own O5.out) (by omega))
  rw [show sum (kH ++ [9#8]) = kS from rfl, hkS] at SM
  have S5 : Hid (w2.heap.size + 1 ≤ w5.heap.size) := by show _ ≤ _; have := B5.out.size; have := HS3.out; omega
  have O6 := Lib.hid (World.ownsRow_lit (base := w2.heap.size + 1) (e := 5) (size := 1) w5 #[] 0 S5.out (by unfold maxLen; omega) rfl)
  have B6 := Lib.hid (B5.out.alloc S5.out (.cells #[] 5))
  have R6 := Lib.hid ((R3.out.below B5.out).alloc S5.out (.cells #[] 5))
  have S6 : Hid (w2.heap.size + 1 ≤ (w5.alloc (.cells #[] 5)).heap.size) := by show _ ≤ _; have := S5.out; simp; omega
  refine SM.out.mono ?_
  rintro e w' ⟨rfl, rfl⟩
  go_wp2_with (first
    | (at_builtin
       refine wpList_append_any _ rfl (.tmp 38) (.tmp 39) 22 rfl (w2.heap.size + 1) 5 i0 (.int .u8 0) 1 1 Try.underlying22 hi hz0 hz1 hz2 rfl (by decide) _ 0 _ rfl O6.out (w2.heap.size + 1) _ 12 12 (kH.map v8) rfl R6.out (oneCell_v8 _) (by unfold maxLen; omega) (by omega) S6.out ?_
       intro v7 w7 hown7 hg7 hat7
       obtain ⟨A7, c7, rfl, O7, B7⟩ := grown_own (xs := []) B6.out S6.out O6.out hown7 hg7
       have S7 : Hid (w2.heap.size + 1 ≤ w7.heap.size) := by show _ ≤ _; have := B7.out.size; have := HS3.out; omega
       have O7a := Lib.hid (O7.out.alloc (.cells (leCells S) 5))
       have B7a := Lib.hid (B7.out.alloc S7.out (.cells (leCells S) 5))
       have T7 : Hid (w2.heap.size + 1 ≤ (w7.alloc (.cells (leCells S) 5)).heap.size) := by show _ ≤ _; have := S7.out; simp; omega
       clear hown7 hg7 hat7)
    | (at_builtin
       refine wpList_append_any _ rfl (.tmp 40) (.tmp 52) 22 rfl (w2.heap.size + 1) 5 i0 (.int .u8 0) 1 1 Try.underlying22 hi hz0 hz1 hz2 rfl (by decide) _ (0 + 12) _ rfl O7a.out (w7.heap.size + 1) _ 4 4 ((leB S).map v8) rfl (rd_lit w7 (leB S) _ 5 (0, 0) rfl) (oneCell_v8 _) (by unfold maxLen; omega) (by omega) T7.out ?_
       intro v8' w8 hown8 hg8 hat8
       obtain ⟨A8, c8, rfl, O8, B8⟩ := grown_own B7a.out T7.out O7a.out hown8 hg8
       have S8 : Hid (w2.heap.size + 1 ≤ w8.heap.size) := by show _ ≤ _; have := B8.out.size; have := HS3.out; omega
       have O8a := Lib.hid (O8.out.alloc (.cells #[.int .u8 9] 5))
       have B8a := Lib.hid (B8.out.alloc S8.out (.cells #[.int .u8 9] 5))
       have T8 : Hid (w2.heap.size + 1 ≤ (w8.alloc (.cells #[.int .u8 9] 5)).heap.size) := by show _ ≤ _; have := S8.out; simp; omega
       clear hown8 hg8 hat8)
    | (at_builtin
       refine wpList_append_any _ rfl (.tmp 53) (.tmp 54) 22 rfl (w2.heap.size + 1) 5 i0 (.int .u8 0) 1 1 Try.underlying22 hi hz0 hz1 hz2 rfl (by decide) _ (0 + 12 + 4) _ rfl O8a.out (w8.heap.size + 1) _ 1 1 ([9#8].map v8) rfl (rd_lit w8 [9#8] _ 5 (0, 0) rfl) (oneCell_v8 _) (by unfold maxLen; omega) (by omega) T8.out ?_
       intro v9 w9 hown9 hg9 hat9
       obtain ⟨A9, c9, rfl, O9, B9⟩ := grown_own B8a.out T8.out O8a.out hown9 hg9
       clear hown9 hg9 hat9))
  have hFb : w9.heap[w1.heap.size + 1]? = some (.cells (kF.map v8).toArray 5 (0, 0)) :=
    (B9.out.block _ (by have := HS2.out; omega)).trans ((B3.out.block _ HS2.out).trans HF.out)
  have hs9 : w1.heap.size + 1 < w9.heap.size := (Array.getElem?_eq_some_iff.1 hFb).1
  have RF := block_rd hFb kF_len (by omega)
  have hkW : ([] ++ kH ++ [9#8]) = [] ++ kH ++ [9#8] := rfl
  have RW : Rd w9 w9.heap.size A9 17 kW := by
    have := Rd.of_own O9.out
    have e : [] ++ kH ++ leB S ++ [9#8] = kW := by rw [← hkS]; rfl
    rw [e] at this
    exact this
  have HRF := Lib.hid RF
  have HRW := Lib.hid RW
  have HFB := Lib.hid hFb
  have HB9 : Hid (Below w.heap.size w w9) := by
    show Below _ _ _
    exact (HBW.out.trans (B3.out.mono HBW.out.size)).trans (B9.out.mono (by have := HBW.out.size; omega))
  have HS9 := Lib.hid hs9
  clear RF RW hFb hs9 hkW m0 m1 m2 m3 m3b hbS
  go_loopw [6] (fun a wr => ∃ i nq : Nat, i ≤ 64 ∧ a = .int .i64 (i : Int) ∧ wr = w9.drewN nq) (fun a _ => 64 - (intOf a).toNat)
  case atStart => exact ⟨0, 0, by omega, rfl, rfl⟩
  case round =>
    obtain ⟨i, nq, hi64, rfl, rfl⟩ := hrel
    by_cases h64 : i < 64
    · have h64I : (i : Int) < 64 := by omega
      obtain ⟨ad, x, e, _, ex, cx⟩ := HRF.out.at_ (k := i) h64
      injection e with e; subst e
      have cx : w9.cell? ⟨w1.heap.size + 1, i, none⟩ = some (.int .u8 (I8 x)) := by
        have e : (Addr.add ⟨w1.heap.size + 1, 0, none⟩ i) = ⟨w1.heap.size + 1, i, none⟩ := by
          unfold Addr.add; split <;> simp_all
        rw [e] at cx; exact cx
      rw [bt_at (by rw [kF_len]; exact h64)] at ex
      injection ex with ex
      by_cases h17 : i < 17
      · have h17I : (i : Int) < 17 := by omega
        have h17N : decide ((17 : Int) ≤ (i : Int)) = false := by rw [decide_eq_false_iff_not]; omega
        obtain ⟨ad2, y, rfl, _, ey, cy⟩ := HRW.out.at_ (k := i) h17
        rw [bt_at (by rw [kW_len]; exact h17)] at ey
        injection ey with ey
        have hxy : x = y := by rw [← ex, ← ey]; exact kF_low i h17
        subst hxy
        have hne : (I8 x != I8 x) = false := by simp
        clear ex ey h17
        go_wp2_with fail
        go_quiet (fail)
        go_wp2_with fail
        refine ⟨⟨i + 1, _, by omega, rfl, rfl⟩, ?_⟩
        show 64 - ((i + 1 : Nat) : Int).toNat < 64 - ((i : Nat) : Int).toNat
        rw [Int.toNat_natCast, Int.toNat_natCast]
        omega
      · have h17I : ¬ (i : Int) < 17 := by omega
        have h17N : (17 : Int) ≤ (i : Int) := by omega
        have h17D : decide ((i : Int) < 17) = false := by rw [decide_eq_false_iff_not]; omega
        have hx0 : x = 0#8 := by rw [← ex]; exact kF_high i (by omega)
        subst hx0
        have cx : w9.cell? ⟨w1.heap.size + 1, i, none⟩ = some (.int .u8 0) := cx
        clear ex h17 h17I
        go_wp2_with fail
        go_quiet (fail)
        go_wp2_with fail
        refine ⟨⟨i + 1, _, by omega, rfl, rfl⟩, ?_⟩
        show 64 - ((i + 1 : Nat) : Int).toNat < 64 - ((i : Nat) : Int).toNat
        rw [Int.toNat_natCast, Int.toNat_natCast]
        omega
    · obtain rfl : i = 64 := by omega
      have h64I : ¬ (64 : Int) < 64 := by omega
      have hsz15 : sizeS (kF.take 15) = 0 := by unfold sizeS; rw [kF_short]; rfl
      have Z15 : ∀ nq, Hid (Calls Try.prog 26 #[.slice (some ⟨w1.heap.size + 1, 0, none⟩) 15 64] (w9.drewN nq) fun e w' => e = .returned (.tuple #[.int .i64 0, .int .i64 2]) ∧ ∃ k, w' = (w9.drewN nq).drewN k) := fun nq => by
        have := size_any _ 15 64 (kF.take 15) (w9.drewN nq) ((HRF.out.drewN nq).take (by omega)) (by omega) (by omega)
        rw [kF_short, hsz15] at this
        exact this
      have Z16 : ∀ nq, Hid (Calls Try.prog 26 #[.slice (some ⟨w1.heap.size + 1, 0, none⟩) 16 64] (w9.drewN nq) fun e w' => e = .returned (.tuple #[.int .i64 1, .int .i64 0]) ∧ ∃ k, w' = (w9.drewN nq).drewN k) := fun nq => by
        have := size_any _ 16 64 (kF.take 16) (w9.drewN nq) ((HRF.out.drewN nq).take (by omega)) (by omega) (by omega)
        rw [kF_head.1, kF_head.2] at this
        exact this
      have hmz : ∀ W : World, (Instr.makeSlice 22 (.int .i64 64) (.int .i64 64)).run Try.prog W = .ok (.slice (some ⟨W.heap.size, 0, none⟩) 64 64) (W.alloc (.cells (zeros 64) 5)) := fun W => make_zeros (P := Try.prog) 22 5 i0 Try.underlying22 hi hz0 hz1 hz2 64 (by omega) W
      have OZ : ∀ nq, Hid (Calls Try.prog 22 #[.slice (some ⟨w9.heap.size, 0, none⟩) 64 64, .int .u8 0] ((w9.drewN nq).alloc (.cells (zeros 64) 5)) fun e w' => ∃ A' c', e = .returned (.tuple #[.int .i64 0, .slice A' 0 c', .int .i64 4]) ∧ Below ((w9.drewN nq).alloc (.cells (zeros 64) 5)).heap.size ((w9.drewN nq).alloc (.cells (zeros 64) 5)) w') := fun nq => by
        have hr := rd_zeros (w9.drewN nq) w9.heap.size 64 5 (0, 0) rfl
        exact open_bad _ 64 64 _ 0#8 _ (by simpa using hr) (Nat.le_refl _) (by omega) 4 zeros_form (by decide)
      go_wp2_with fail
      refine (Z15 _).out.mono ?_
      rintro e w' ⟨rfl, nq1, rfl⟩
      simp only [World.drewN_drewN]
      go_wp2_with fail
      refine (Z16 _).out.mono ?_
      rintro e w' ⟨rfl, nq2, rfl⟩
      simp only [World.drewN_drewN]
      go_wp2_with fail
      obtain ⟨WZ, hWZ⟩ : ∃ WZ, WZ = (w9.drewN (nq + nq1 + nq2)).alloc (.cells (zeros 64) 5) := ⟨_, rfl⟩
      have OZ2 := OZ (nq + nq1 + nq2)
      rw [← hWZ] at OZ2
      have hBZ : Below w9.heap.size w9 WZ := by rw [hWZ]; exact (below_drewN (Below.refl _ _) _).alloc (Nat.le_refl _) _
      rw [← hWZ]
      have HBZ := Lib.hid hBZ
      clear hWZ hBZ OZ Z15 Z16 hmz
      refine OZ2.out.mono ?_
      rintro e w10 ⟨A10, c10, rfl, hb10⟩
      have hB10 : Below w9.heap.size w9 w10 := HBZ.out.trans (hb10.mono HBZ.out.size)
      have hF10 : w10.heap[w1.heap.size + 1]? = some (.cells (kF.map v8).toArray 5 (0, 0)) := (hB10.block _ HS9.out).trans HFB.out
      have O10 := block_own (base := 0) (N := 64) hF10 (Nat.zero_le _) (by rw [List.length_map, kF_len]) (by omega)
      have c40 : w10.cell? ⟨w1.heap.size + 1, 40, none⟩ = some (v8 (bt kF 40)) := by
        rw [O10.cellAt 40 (by omega), List.getElem?_map, bt_at (by rw [kF_len]; omega)]
        rfl
      have f40 : w10.frozen? ⟨w1.heap.size + 1, 40, none⟩ = false := O10.frozenAt 40
      have O11 : (w10.setCell ⟨w1.heap.size + 1, 40, none⟩ (.int .u8 1)).ownsRow 0 5 1 (.slice (some ⟨w1.heap.size + 1, 0, none⟩) 64 64) 64 ((kF.set 40 1#8).map v8) := by
        rw [List.map_set]
        exact (O10.stored 40 (v8 1#8)).1
      have R11 := Rd.of_own O11
      have hB11 : Below w.heap.size w (w10.setCell ⟨w1.heap.size + 1, 40, none⟩ (.int .u8 1)) :=
        (HB9.out.trans (hB10.mono HB9.out.size)).setCell (by have := HS1.out; show w.heap.size ≤ w1.heap.size + 1; omega) _
      have OK2 : Hid (Calls Try.prog 22 #[.slice (some ⟨w1.heap.size + 1, 0, none⟩) 64 64, .int .u8 65] (w10.setCell ⟨w1.heap.size + 1, 40, none⟩ (.int .u8 1)) fun e w' => ∃ A' c', e = .returned (.tuple #[.int .i64 0, .slice A' 0 c', .int .i64 5]) ∧ Below (w10.setCell ⟨w1.heap.size + 1, 40, none⟩ (.int .u8 1)).heap.size (w10.setCell ⟨w1.heap.size + 1, 40, none⟩ (.int .u8 1)) w') :=
        open_bad _ 64 64 _ 65#8 _ R11 (Nat.le_refl _) (by omega) 5 changed_sum (by decide)
      have HB11 := Lib.hid hB11
      clear O10 O11 R11 hF10 hB11 hB10 hb10
      go_wp2_with fail
      refine OK2.out.mono ?_
      rintro e w12 ⟨A12, c12, rfl, hb12⟩
      go_wp2_with fail
      go_ret
      exact ⟨rfl, HB11.out.trans (hb12.mono HB11.out.size)⟩
end Go.Proofs.Ytbnhohnlbbkmoaa

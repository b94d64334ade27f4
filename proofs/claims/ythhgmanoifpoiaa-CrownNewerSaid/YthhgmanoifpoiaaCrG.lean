/- Contracts of Blank; a block decoded is the crown that it was made of; awake. -/
import Derived.Test.YthhgmanoifpoiaaCrD
namespace Go.Proofs.Ythhgmanoifpoiaa
open Go.RowKit
set_option linter.unusedVariables false

def blankB (bs : List B8) : Bool := decide (bs = List.replicate 64 0#8)
theorem blank_any (A : Option Addr) (n c : Nat) (bs : List B8) (w : World) (hr : Rd w w.heap.size A n bs) :
    Calls Try.prog 35 #[.slice A n c] w fun e w' => e = .returned (.bool (blankB bs)) ∧ Below w.heap.size w w' := by
  obtain ⟨i0, hi, hz0, hz1, hz2⟩ := info_parts info5
  have hmz : ∀ W : World, (Instr.makeSlice 43 (.int .i64 64) (.int .i64 64)).run Try.prog W = .ok (.slice (some ⟨W.heap.size, 0, none⟩) 64 64) (W.alloc (.cells (zeros 64) 5)) := fun W => make_zeros (P := Try.prog) 43 5 i0 Try.underlying43 hi hz0 hz1 hz2 64 (by decide) W
  obtain ⟨Z, hZ⟩ : ∃ Z, zeros 64 = Z := ⟨_, rfl⟩
  have E2 := Lib.hid (rd_zeros w w.heap.size 64 5 (0, 0) rfl)
  have E1 := Lib.hid (hr.alloc (Nat.le_refl _) (.cells (zeros 64) 5))
  rw [hZ] at hmz E1 E2
  obtain ⟨v, hv⟩ : ∃ v, blankB bs = v := ⟨_, rfl⟩
  have HV : Hid (decide (bs = List.replicate 64 0#8) = v) := hv
  rw [hv]
  clear hr hZ hv
  go_enter Try.func35, Try.ntmps35
  go_wp2_with (first
    | (go_at_call 49; with_reducible refine (equal_val v HV.out _ _ _ _ _ _ _ _ _ E1.out E2.out).mono ?_; rintro e w' ⟨rfl, rfl⟩)
    | fail)
  go_ret
  exact ⟨rfl, (Below.refl _ _).alloc (Nat.le_refl _) _⟩

theorem numL_le4 (x : Nat) (hx : x < 4294967296) : numL (le4 x) = x := by
  unfold le4
  simp only [numL, nb, BitVec.toNat_ofNat, Nat.reducePow]
  omega
theorem numL_le8 (x : Nat) (hx : x < 18446744073709551616) : numL (le8 x) = x := by
  unfold le8
  simp only [numL, nb, BitVec.toNat_ofNat, Nat.reducePow]
  omega

section
variable (g b s a n k h f : Nat)
theorem cr_2 : (crownL g b s a n k h f |>.drop 2).take 4 = le4 g := by kernel_rfl
theorem cr_6 : (crownL g b s a n k h f |>.drop 6).take 4 = le4 b := by kernel_rfl
theorem cr_10 : (crownL g b s a n k h f |>.drop 10).take 4 = le4 s := by kernel_rfl
theorem cr_14 : (crownL g b s a n k h f |>.drop 14).take 4 = le4 a := by kernel_rfl
theorem cr_18 : (crownL g b s a n k h f |>.drop 18).take 4 = le4 n := by kernel_rfl
theorem cr_22 : (crownL g b s a n k h f |>.drop 22).take 4 = le4 k := by kernel_rfl
theorem cr_26 : (crownL g b s a n k h f |>.drop 26).take 4 = le4 h := by kernel_rfl
theorem cr_30 : (crownL g b s a n k h f |>.drop 30).take 8 = le8 f := by kernel_rfl
theorem cr_38 : (crownL g b s a n k h f |>.drop 38).take 22 = List.replicate 22 0#8 := by kernel_rfl
theorem cr_60 : (crownL g b s a n k h f |>.drop 60).take 4 = le4 (sum (body g b s a n k h f)).toNat := by kernel_rfl
theorem cr_t60 : (crownL g b s a n k h f).take 60 = body g b s a n k h f := by kernel_rfl
theorem cr_head : headAt (crownL g b s a n k h f) = true := decide_eq_true (by kernel_rfl)
variable {g b s a n k h f : Nat}

theorem crown_back (hf : f < 18446744073709551616) (hm : mayB g b s f a n k h = true) :
    decE (crownL g b s a n k h f) = 0 ∧ decV (crownL g b s a n k h f) = .agg #[.int .i64 g, .int .i64 b, .int .i64 s, .float .f64 f, .int .i64 a, .int .i64 n, .int .i64 k, .int .i64 h] := by
  obtain ⟨bg, bb, bs, bh, bk, bn, ba⟩ := may_bounds hm
  have e2 : numAt (crownL g b s a n k h f) 2 = g := by unfold numAt; rw [cr_2, numL_le4 _ (by omega)]
  have e6 : numAt (crownL g b s a n k h f) 6 = b := by unfold numAt; rw [cr_6, numL_le4 _ (by omega)]
  have e10 : numAt (crownL g b s a n k h f) 10 = s := by unfold numAt; rw [cr_10, numL_le4 _ (by omega)]
  have e14 : numAt (crownL g b s a n k h f) 14 = a := by unfold numAt; rw [cr_14, numL_le4 _ (by omega)]
  have e18 : numAt (crownL g b s a n k h f) 18 = n := by unfold numAt; rw [cr_18, numL_le4 _ (by omega)]
  have e22 : numAt (crownL g b s a n k h f) 22 = k := by unfold numAt; rw [cr_22, numL_le4 _ (by omega)]
  have e26 : numAt (crownL g b s a n k h f) 26 = h := by unfold numAt; rw [cr_26, numL_le4 _ (by omega)]
  have e30 : gainAt (crownL g b s a n k h f) = f := by unfold gainAt; rw [cr_30, numL_le8 _ hf]
  have e60 : sumAt (crownL g b s a n k h f) = true := by
    unfold sumAt numAt
    rw [cr_60, cr_t60]
    apply decide_eq_true
    have := (sum (body g b s a n k h f)).isLt
    rw [numL_le4 _ (by omega)]; rfl
  have e38 : zerosAt (crownL g b s a n k h f) = true := by unfold zerosAt; rw [cr_38]; simp
  have em : mayAt (crownL g b s a n k h f) = true := by unfold mayAt; rw [e2, e6, e10, e14, e18, e22, e26, e30]; exact hm
  have hE : decE (crownL g b s a n k h f) = 0 := by
    unfold decE
    rw [crownL_length, if_pos rfl, e60, if_pos rfl, cr_head, em, e38]; rfl
  refine ⟨hE, ?_⟩
  unfold decV
  rw [hE, if_pos rfl]
  unfold crownV
  rw [e2, e6, e10, e14, e18, e22, e26, e30]

theorem not_blank : blankB (crownL g b s a n k h f) = false := by
  apply decide_eq_false
  intro e
  have := congrArg (fun l => l[0]?) e
  have h0 : (crownL g b s a n k h f)[0]? = some 0xc0#8 := by kernel_rfl
  simp only [h0] at this
  simp at this
end
theorem blank_zeros : blankB (List.replicate 64 0#8) = true := decide_eq_true rfl

/-- Encode of whatever crown: no block, or its block. -/
theorem enc_nat {g b s a n k h : Int} {f : Nat} (hm : mayB g b s f a n k h = true) :
    ∃ g' b' s' a' n' k' h' : Nat, g = g' ∧ b = b' ∧ s = s' ∧ a = a' ∧ n = n' ∧ k = k' ∧ h = h' := by
  have hm' := hm
  unfold mayB at hm'
  simp only [Bool.and_eq_true, inB, decide_eq_true_eq] at hm'
  exact ⟨g.toNat, b.toNat, s.toNat, a.toNat, n.toNat, k.toNat, h.toNat, by omega, by omega, by omega, by omega, by omega, by omega, by omega⟩

theorem fix_half : fixW 4602678819172646912 = 4602678819172646912 := by decide +kernel
theorem may_awake : mayB 1 64 9 4602678819172646912 2 1 1 0 = true := by
  unfold mayB inB
  rw [fix_half]
  decide

/-- What Encode leaves: the block, its bytes. -/
theorem enc_rd {g b s f a n k h : Nat} {w : World} (hf : f < 18446744073709551616) (hm : mayB g b s f a n k h = true) :
    Calls Try.prog 27 #[.agg #[.int .i64 g, .int .i64 b, .int .i64 s, .float .f64 f, .int .i64 a, .int .i64 n, .int .i64 k, .int .i64 h]] w fun e w' =>
      ∃ A c, e = .returned (.tuple #[.slice A 64 c, .int .i64 0]) ∧ 64 ≤ c ∧ Rd w' w'.heap.size A 64 (crownL g b s a n k h f) ∧ Below w.heap.size w w' :=
  (enc_ok g b s f a n k h w hf hm).mono fun _ _ ⟨A, c, he, hc, ho, hb⟩ => ⟨A, c, he, hc, Rd.of_own ho, hb⟩
/-- What Decode says of it. -/
theorem dec_back {g b s f a n k h : Nat} {A : Option Addr} {c : Nat} {w : World} (hf : f < 18446744073709551616) (hm : mayB g b s f a n k h = true) (hr : Rd w w.heap.size A 64 (crownL g b s a n k h f)) (hc : 64 ≤ c) :
    Calls Try.prog 32 #[.slice A 64 c] w fun e w' => e = .returned (.tuple #[.agg #[.int .i64 g, .int .i64 b, .int .i64 s, .float .f64 f, .int .i64 a, .int .i64 n, .int .i64 k, .int .i64 h], .int .i64 0]) ∧ Below w.heap.size w w' := by
  have := dec_any A 64 c _ w hr hc
  rw [(crown_back hf hm).1, (crown_back hf hm).2] at this
  exact this

set_option maxHeartbeats 2000000 in
theorem awake16 (w : World) : Calls Try.prog 26 #[] w fun e w' => e = .returned (.bool true) ∧ Below w.heap.size w w' := by
  have hst := storeFloat
  obtain ⟨i0, hi, hz0, hz1, hz2⟩ := info_parts info5
  have hmz : ∀ W : World, (Instr.makeSlice 43 (.int .i64 64) (.int .i64 64)).run Try.prog W = .ok (.slice (some ⟨W.heap.size, 0, none⟩) 64 64) (W.alloc (.cells (zeros 64) 5)) := fun W => make_zeros (P := Try.prog) 43 5 i0 Try.underlying43 hi hz0 hz1 hz2 64 (by decide) W
  obtain ⟨Z, hZ⟩ : ∃ Z, zeros 64 = Z := ⟨_, rfl⟩
  rw [hZ] at hmz
  obtain ⟨L, hL⟩ : ∃ L, crownL 1 64 9 2 1 1 0 4602678819172646912 = L := ⟨_, rfl⟩
  have EN := fun W : World => Lib.hid (enc_rd (w := W) (by decide : (4602678819172646912 : Nat) < 18446744073709551616) may_awake)
  have DE := fun (W : World) (A : Option Addr) (c : Nat) => Lib.hid (@dec_back 1 64 9 4602678819172646912 2 1 1 0 A c W (by decide) may_awake)
  have NB : Hid (blankB L = false) := by rw [← hL]; exact not_blank
  rw [hL] at EN DE
  clear hL
  go_enter Try.func26, Try.ntmps26
  go_wp2_with fail
  have C0 := Lib.hid (Blk.new w 42 #[.int .i64 1, .int .i64 64, .int .i64 9, .float .f64 4602678819172646912, .int .i64 2, .int .i64 1, .int .i64 1, .int .i64 0])
  have B0 := Lib.hid ((Below.refl w.heap.size w).alloc (Nat.le_refl _) (.cells #[.int .i64 1, .int .i64 64, .int .i64 9, .float .f64 4602678819172646912, .int .i64 2, .int .i64 1, .int .i64 1, .int .i64 0] 42))
  refine (crown_any 1 64 9 4602678819172646912 2 1 1 0 _).mono ?_
  rintro e w1 ⟨rfl, hb1⟩
  have s1 := hb1.size
  simp only [World.size_alloc] at s1
  have C1 := Lib.hid (C0.out.below hb1 (by simp))
  have B1 := Lib.hid (B0.out.trans (hb1.mono (by simp)))
  clear C0 B0 hb1
  go_wp2_with fail
  refine (EN _).out.mono ?_
  rintro e w2 ⟨A2, c2, rfl, hc2, hr2, hb2⟩
  have s2 := hb2.size
  have C2 := Lib.hid (C1.out.below hb2 (by omega))
  have B2 := Lib.hid (B1.out.trans (hb2.mono (by omega)))
  have R2 := Lib.hid hr2
  clear C1 B1 hb2 hr2
  go_wp2_with fail
  refine ((DE _ _ _).out R2.out hc2).mono ?_
  rintro e w3 ⟨rfl, hb3⟩
  have s3 := hb3.size
  have C3 := Lib.hid (C2.out.below hb3 (by omega))
  have B3 := Lib.hid (B2.out.trans (hb3.mono (by omega)))
  have R3 := Lib.hid ((R2.out.below hb3).more s3)
  clear C2 B2 hb3 R2
  go_upto_region 4 with fail
  have C4 := Lib.hid (C3.out.alloc (.cells #[.int .i64 1, .int .i64 64, .int .i64 9, .float .f64 4602678819172646912, .int .i64 2, .int .i64 1, .int .i64 1, .int .i64 0] 51))
  have D4 := Lib.hid (Blk.new w3 51 #[.int .i64 1, .int .i64 64, .int .i64 9, .float .f64 4602678819172646912, .int .i64 2, .int .i64 1, .int .i64 1, .int .i64 0])
  have B4 := Lib.hid (B3.out.alloc (by omega) (.cells #[.int .i64 1, .int .i64 64, .int .i64 9, .float .f64 4602678819172646912, .int .i64 2, .int .i64 1, .int .i64 1, .int .i64 0] 51))
  have R4 := Lib.hid ((R3.out.alloc (Nat.le_refl _) (.cells #[.int .i64 1, .int .i64 64, .int .i64 9, .float .f64 4602678819172646912, .int .i64 2, .int .i64 1, .int .i64 1, .int .i64 0] 51)).more (by simp : w3.heap.size ≤ (w3.alloc (.cells #[.int .i64 1, .int .i64 64, .int .i64 9, .float .f64 4602678819172646912, .int .i64 2, .int .i64 1, .int .i64 1, .int .i64 0] 51)).heap.size))
  have s4 : (w3.alloc (.cells #[.int .i64 1, .int .i64 64, .int .i64 9, .float .f64 4602678819172646912, .int .i64 2, .int .i64 1, .int .i64 1, .int .i64 0] 51)).heap.size = w3.heap.size + 1 := by simp
  generalize hW : w3.alloc (.cells #[.int .i64 1, .int .i64 64, .int .i64 9, .float .f64 4602678819172646912, .int .i64 2, .int .i64 1, .int .i64 1, .int .i64 0] 51) = w4 at *
  clear hW C3 B3 R3
  have k0 := C4.out.cell 0
  have k1 := C4.out.cell 1
  have k2 := C4.out.cell 2
  have k3 := C4.out.cell 3
  have k4 := C4.out.cell 4
  have k5 := C4.out.cell 5
  have k6 := C4.out.cell 6
  have k7 := C4.out.cell 7
  simp at k0 k1 k2 k3 k4 k5 k6 k7
  have d0 := D4.out.cell 0
  have d1 := D4.out.cell 1
  have d2 := D4.out.cell 2
  have d3 := D4.out.cell 3
  have d4 := D4.out.cell 4
  have d5 := D4.out.cell 5
  have d6 := D4.out.cell 6
  have d7 := D4.out.cell 7
  simp at d0 d1 d2 d3 d4 d5 d6 d7
  go_wp2_with fail
  refine (same_any 1 64 9 4602678819172646912 2 1 1 0 _).mono ?_
  rintro e w5 ⟨rfl, hb5⟩
  have s5 := hb5.size
  have D5 := Lib.hid (D4.out.below hb5 (by omega))
  have B5 := Lib.hid (B4.out.trans (hb5.mono (by omega)))
  have R5 := Lib.hid ((R4.out.below hb5).more s5)
  clear k0 k1 k2 k3 k4 k5 k6 k7 d0 d1 d2 d3 d4 d5 d6 d7 C4 D4 B4 R4 hb5
  go_wp2_with fail
  have Z5 := Lib.hid ((rd_zeros w5 w5.heap.size 64 5 (0, 0) rfl).more (B' := (w5.alloc (.cells (zeros 64) 5)).heap.size) (by simp))
  rw [hZ] at Z5
  refine (blank_any _ 64 64 _ _ Z5.out).mono ?_
  rw [blank_zeros]
  rintro e w6 ⟨rfl, hb6⟩
  have s6 := hb6.size
  simp only [World.size_alloc] at s6
  have D6 := Lib.hid ((D5.out.alloc (.cells Z 5)).below hb6 (by simp <;> omega))
  have B6 := Lib.hid ((B5.out.alloc (by omega) (.cells Z 5)).trans (hb6.mono (by simp <;> omega)))
  have R6 := Lib.hid (((R5.out.alloc (Nat.le_refl _) (.cells Z 5)).below (hb6.mono (by simp <;> omega))).more (by omega : w5.heap.size ≤ w6.heap.size))
  clear D5 B5 R5 Z5 hb6
  go_wp2_with fail
  refine (blank_any _ 64 _ _ _ R6.out).mono ?_
  rw [NB.out]
  rintro e w7 ⟨rfl, hb7⟩
  have s7 := hb7.size
  have D7 := Lib.hid (D6.out.below hb7 (by omega))
  have B7 := Lib.hid (B6.out.trans (hb7.mono (by omega)))
  clear D6 B6 R6 hb7
  have d0 := D7.out.cell 0
  have d1 := D7.out.cell 1
  have d2 := D7.out.cell 2
  have d3 := D7.out.cell 3
  have d4 := D7.out.cell 4
  have d5 := D7.out.cell 5
  have d6 := D7.out.cell 6
  have d7 := D7.out.cell 7
  simp at d0 d1 d2 d3 d4 d5 d6 d7
  go_wp2_with fail
  refine (may_any _ _ _ _ _ _ _ _ _ (by decide)).mono ?_
  rw [may_awake]
  rintro e w8 ⟨rfl, hb8⟩
  go_wp2_with fail
  go_ret
  exact ⟨rfl, B7.out.trans (hb8.mono (by omega))⟩
end Go.Proofs.Ythhgmanoifpoiaa

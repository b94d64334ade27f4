/- The walk of CrownKnown. -/
import Derived.Test.YthhgmanoifpoiaaCrJ
import Derived.Handy
namespace Go.Proofs.Ythhgmanoifpoiaa
open Go.RowKit
set_option linter.unusedVariables false

theorem fix_one : fixW 4607182418800017408 = 4607182418800017408 := by decide +kernel
theorem may_known : mayB (3 : Nat) (256 : Nat) (20 : Nat) 4607182418800017408 (2 : Nat) (1 : Nat) (3 : Nat) (1 : Nat) = true := by
  unfold mayB inB
  rw [fix_one]
  decide
def wantL : List B8 := [0xc0#8, 0x9e#8, 3#8, 0#8, 0#8, 0#8, 0#8, 1#8, 0#8, 0#8, 20#8, 0#8, 0#8, 0#8, 2#8, 0#8, 0#8, 0#8, 1#8, 0#8, 0#8, 0#8, 3#8, 0#8, 0#8, 0#8, 1#8, 0#8, 0#8, 0#8, 0#8, 0#8, 0#8, 0#8, 0#8, 0#8, 0xf0#8, 0x3f#8]
def knownL : List B8 := crownL 3 256 20 2 1 3 1 4607182418800017408
theorem body_known : body 3 256 20 2 1 3 1 4607182418800017408 = wantL ++ List.replicate 22 0#8 := by decide +kernel
theorem known_want {j : Nat} (h : j < 38) : knownL[j]? = wantL[j]? := by
  unfold knownL crownL
  rw [body_known, List.append_assoc, List.getElem?_append_left (by show j < 38; exact h)]
theorem known_rest {j : Nat} (h : 38 ≤ j) (h2 : j < 60) : knownL[j]? = some 0#8 := by
  unfold knownL crownL
  rw [body_known, List.append_assoc, List.getElem?_append_right (by show 38 ≤ j; exact h), List.getElem?_append_left (by simp; show j - 38 < 22; omega), List.getElem?_replicate, if_pos (by show j - 38 < 22; omega)]
theorem known_dec : decE knownL = 0 := (crown_back (by decide) may_known).1
theorem known_gen : numAt knownL 2 = 3 := by
  unfold numAt knownL
  rw [cr_2]
  decide
theorem known_blank : blankB knownL = false := not_blank
theorem blank_decE : ¬ decE (List.replicate 64 0#8) = 0 := by
  have hh : headAt (List.replicate 64 0#8) = false := by decide
  unfold decE
  rw [if_pos List.length_replicate, hh]
  split <;> simp
theorem ch_1 : chooseR (List.replicate 64 0#8) (List.replicate 64 0#8) = (zeroV, 0, 8) := by
  unfold chooseR; rw [blank_zeros]; rfl
theorem ch_2 : chooseR knownL (List.replicate 64 0#8) = (zeroV, 0, 5) := by
  have h : oneB knownL = false := by unfold oneB; rw [known_gen]; simp
  unfold chooseR aloneV aloneN aloneE
  rw [blank_zeros, known_blank, h]; rfl
theorem ch_3 : chooseR knownL knownL = (zeroV, 0, 4) := by
  unfold chooseR
  rw [known_blank, if_neg (by simp), if_neg (by simp), if_pos ⟨known_dec, known_dec⟩, if_pos rfl]
theorem ch_4 : chooseR knownL (knownL.take 9) = (zeroV, 0, 5) := by
  have hl : (knownL.take 9).length = 9 := rfl
  have hb : blankB (knownL.take 9) = false := decide_eq_false (by intro e; have := congrArg List.length e; rw [hl, List.length_replicate] at this; omega)
  have hd : ¬ decE (knownL.take 9) = 0 := by unfold decE; rw [if_neg (by rw [hl]; decide)]; decide
  unfold chooseR
  rw [known_blank, hb, if_neg (by simp), if_neg (by simp), if_neg (by intro h; exact hd h.2)]

set_option maxHeartbeats 8000000 in
theorem walkKnown (w : World) : Calls Try.prog 13 #[] w fun e w' => e = .returned (.bool true) ∧ Below w.heap.size w w' := by
  have hst := storeFloat
  obtain ⟨i0, hi, hz0, hz1, hz2⟩ := info_parts info5
  have hmz : ∀ W : World, (Instr.makeSlice 43 (.int .i64 64) (.int .i64 64)).run Try.prog W = .ok (.slice (some ⟨W.heap.size, 0, none⟩) 64 64) (W.alloc (.cells (zeros 64) 5)) := fun W => make_zeros (P := Try.prog) 43 5 i0 Try.underlying43 hi hz0 hz1 hz2 64 (by decide) W
  obtain ⟨Z, hZ⟩ : ∃ Z, zeros 64 = Z := ⟨_, rfl⟩
  rw [hZ] at hmz
  have EN := fun W : World => Lib.hid (enc_rd (w := W) (by decide : (4607182418800017408 : Nat) < 18446744073709551616) may_known)
  go_enter Try.func13, Try.ntmps13
  go_outline
  go_wp2_with (first
    | (go_at_call 26
       refine (awake16 _).mono ?_
       rintro e w1 ⟨rfl, hb1⟩
       have B1 := Lib.hid hb1
       have s1 := hb1.size
       clear hb1)
    | fail)
  refine (crown_any 3 256 20 4607182418800017408 2 1 3 1 _).mono ?_
  rintro e w2 ⟨rfl, hb2⟩
  have B2 := Lib.hid ((B1.out.alloc s1 (.cells #[.int .i64 3, .int .i64 256, .int .i64 20, .float .f64 4607182418800017408, .int .i64 2, .int .i64 1, .int .i64 3, .int .i64 1] 42)).trans (hb2.mono (by simp; omega)))
  have s2 := hb2.size
  simp only [World.size_alloc] at s2
  clear B1 hb2
  go_wp2_with fail
  refine (EN _).out.mono ?_
  rintro e w3 ⟨A3, c3, rfl, hc3, hr3, hb3⟩
  have B3 := Lib.hid (B2.out.trans (hb3.mono (by omega)))
  have s3 := hb3.size
  change Rd w3 w3.heap.size A3 64 knownL at hr3
  obtain ⟨ad, _, rfl, _⟩ := hr3.at_ (k := 0) (by decide)
  obtain ⟨L, hL⟩ : ∃ L, knownL = L := ⟨_, rfl⟩
  rw [hL] at hr3
  have R3 := Lib.hid hr3
  have HL := Lib.hid hL
  clear B2 hb3 hr3 hL EN
  go_wp2_with fail
  have R4 := Lib.hid (R3.out.alloc (Nat.le_refl _) (.cells #[.int .u8 192, .int .u8 158, .int .u8 3, .int .u8 0, .int .u8 0, .int .u8 0, .int .u8 0, .int .u8 1, .int .u8 0, .int .u8 0, .int .u8 20, .int .u8 0, .int .u8 0, .int .u8 0, .int .u8 2, .int .u8 0, .int .u8 0, .int .u8 0, .int .u8 1, .int .u8 0, .int .u8 0, .int .u8 0, .int .u8 3, .int .u8 0, .int .u8 0, .int .u8 0, .int .u8 1, .int .u8 0, .int .u8 0, .int .u8 0, .int .u8 0, .int .u8 0, .int .u8 0, .int .u8 0, .int .u8 0, .int .u8 0, .int .u8 240, .int .u8 63] 5))
  have V4 : Hid (Rd (w3.alloc (.cells #[.int .u8 192, .int .u8 158, .int .u8 3, .int .u8 0, .int .u8 0, .int .u8 0, .int .u8 0, .int .u8 1, .int .u8 0, .int .u8 0, .int .u8 20, .int .u8 0, .int .u8 0, .int .u8 0, .int .u8 2, .int .u8 0, .int .u8 0, .int .u8 0, .int .u8 1, .int .u8 0, .int .u8 0, .int .u8 0, .int .u8 3, .int .u8 0, .int .u8 0, .int .u8 0, .int .u8 1, .int .u8 0, .int .u8 0, .int .u8 0, .int .u8 0, .int .u8 0, .int .u8 0, .int .u8 0, .int .u8 0, .int .u8 0, .int .u8 240, .int .u8 63] 5)) (w3.heap.size + 1) (some ⟨w3.heap.size, 0, none⟩) 38 wantL) := rd_lit w3 wantL _ 5 (0, 0) (by rfl)
  have B4 := Lib.hid (B3.out.alloc (by omega) (.cells #[.int .u8 192, .int .u8 158, .int .u8 3, .int .u8 0, .int .u8 0, .int .u8 0, .int .u8 0, .int .u8 1, .int .u8 0, .int .u8 0, .int .u8 20, .int .u8 0, .int .u8 0, .int .u8 0, .int .u8 2, .int .u8 0, .int .u8 0, .int .u8 0, .int .u8 1, .int .u8 0, .int .u8 0, .int .u8 0, .int .u8 3, .int .u8 0, .int .u8 0, .int .u8 0, .int .u8 1, .int .u8 0, .int .u8 0, .int .u8 0, .int .u8 0, .int .u8 0, .int .u8 0, .int .u8 0, .int .u8 0, .int .u8 0, .int .u8 240, .int .u8 63] 5))
  have s4 : (w3.alloc (.cells #[.int .u8 192, .int .u8 158, .int .u8 3, .int .u8 0, .int .u8 0, .int .u8 0, .int .u8 0, .int .u8 1, .int .u8 0, .int .u8 0, .int .u8 20, .int .u8 0, .int .u8 0, .int .u8 0, .int .u8 2, .int .u8 0, .int .u8 0, .int .u8 0, .int .u8 1, .int .u8 0, .int .u8 0, .int .u8 0, .int .u8 3, .int .u8 0, .int .u8 0, .int .u8 0, .int .u8 1, .int .u8 0, .int .u8 0, .int .u8 0, .int .u8 0, .int .u8 0, .int .u8 0, .int .u8 0, .int .u8 0, .int .u8 0, .int .u8 240, .int .u8 63] 5)).heap.size = w3.heap.size + 1 := by simp
  generalize hW : w3.alloc (.cells #[.int .u8 192, .int .u8 158, .int .u8 3, .int .u8 0, .int .u8 0, .int .u8 0, .int .u8 0, .int .u8 1, .int .u8 0, .int .u8 0, .int .u8 20, .int .u8 0, .int .u8 0, .int .u8 0, .int .u8 2, .int .u8 0, .int .u8 0, .int .u8 0, .int .u8 1, .int .u8 0, .int .u8 0, .int .u8 0, .int .u8 3, .int .u8 0, .int .u8 0, .int .u8 0, .int .u8 1, .int .u8 0, .int .u8 0, .int .u8 0, .int .u8 0, .int .u8 0, .int .u8 0, .int .u8 0, .int .u8 0, .int .u8 0, .int .u8 240, .int .u8 63] 5) = w4 at *
  clear hW R3 B3
  generalize w3.heap.size = gw at *
  go_loopw [5] (fun i wr => ∃ j nq : Nat, j ≤ 60 ∧ i = .int .i64 (j : Int) ∧ wr = w4.drewN nq) (fun i _ => 60 - (intOf i).toNat)
  case atStart => exact ⟨0, 0, by omega, rfl, rfl⟩
  case round =>
    obtain ⟨j, nq0, hj, rfl, rfl⟩ := hrel
    by_cases hlt : j < 60
    · have hltI : (j : Int) < 60 := by omega
      have hlt64 : (j : Int) < 64 := by omega
      obtain ⟨_, x, e, _, hx, hc⟩ := R4.out.at_ (k := j) (by omega)
      injection e with e; subst e
      rw [← HL.out] at hx
      by_cases h38 : j < 38
      · obtain ⟨_, x2, e2, _, hx2, hc2⟩ := V4.out.at_ (k := j) (by omega)
        injection e2 with e2; subst e2
        rw [known_want h38, hx2] at hx
        injection hx with hx
        subst hx
        have hI : (j : Int) < 38 := by omega
        have hG : decide ((38 : Int) ≤ (j : Int)) = false := decide_eq_false (by omega)
        have hbe : (I8 x2 != I8 x2) = false := by simp
        have hc3 : w4.cell? ⟨gw, j, none⟩ = some (.int .u8 (I8 x2)) := by
          have := hc2
          unfold Addr.add at this
          split at this
          · rename_i h0; rw [h0]; exact this
          · simpa using this
        clear hx2
        go_wp2_with fail
        go_quiet (fail)
        go_wp2_with fail
        exact ⟨⟨j + 1, _, by omega, rfl, rfl⟩, by simp only [intOf]; omega⟩
      · rw [known_rest (by omega) hlt] at hx
        injection hx with hx
        subst hx
        have hI : decide ((j : Int) < 38) = false := decide_eq_false (by omega)
        have hG : (38 : Int) ≤ (j : Int) := by omega
        replace hc : w4.cell? (ad.add j) = some (.int .u8 0) := hc
        go_wp2_with fail
        go_quiet (fail)
        go_wp2_with fail
        exact ⟨⟨j + 1, _, by omega, rfl, rfl⟩, by simp only [intOf]; omega⟩
    · obtain rfl : j = 60 := by omega
      have R5 := Lib.hid ((R4.out.drewN nq0).more (B' := (w4.drewN nq0).heap.size) (by show gw ≤ w4.heap.size; omega))
      have B5 := Lib.hid (below_drewN B4.out nq0)
      have s5 : (w4.drewN nq0).heap.size = gw + 1 := s4
      generalize w4.drewN nq0 = w5 at *
      clear R4 B4 V4 s4
      have Z6 := Lib.hid ((rd_zeros w5 w5.heap.size 64 5 (0, 0) rfl).more (B' := (w5.alloc (.cells (zeros 64) 5)).heap.size) (by simp))
      rw [hZ] at Z6
      have R6 := Lib.hid ((R5.out.alloc (Nat.le_refl _) (.cells Z 5)).more (B' := (w5.alloc (.cells Z 5)).heap.size) (by simp))
      have B6 := Lib.hid (B5.out.alloc (by omega) (.cells Z 5))
      have s6 : w.heap.size ≤ (w5.alloc (.cells Z 5)).heap.size := B6.out.size
      clear R5 B5
      go_upto_region 14 with fail
      rw [s5] at Z6
      generalize w5.alloc (.cells Z 5) = w6 at *
      clear s5
      have e2 := ch_2
      have e3 := ch_3
      have e4 := ch_4
      rw [HL.out] at e2 e3 e4
      have C1 := fun (W : World) (h1 : Rd W W.heap.size (some ⟨gw + 1, 0, none⟩) 64 (List.replicate 64 0#8)) => by
        have := choose_any (some ⟨gw + 1, 0, none⟩) 64 64 _ (some ⟨gw + 1, 0, none⟩) 64 64 _ W h1 (Nat.le_refl _) h1 (Nat.le_refl _)
        rw [ch_1] at this; dsimp only at this; unfold zeroV at this
        exact Lib.hid this
      have C2 := fun (W : World) (h1 : Rd W W.heap.size (some ad) 64 L) (h2 : Rd W W.heap.size (some ⟨gw + 1, 0, none⟩) 64 (List.replicate 64 0#8)) => by
        have := choose_any (some ad) 64 c3 _ (some ⟨gw + 1, 0, none⟩) 64 64 _ W h1 hc3 h2 (Nat.le_refl _)
        rw [e2] at this; dsimp only at this; unfold zeroV at this
        exact Lib.hid this
      have C3 := fun (W : World) (h1 : Rd W W.heap.size (some ad) 64 L) => by
        have := choose_any (some ad) 64 c3 _ (some ad) 64 c3 _ W h1 hc3 h1 hc3
        rw [e3] at this; dsimp only at this; unfold zeroV at this
        exact Lib.hid this
      have C4 := fun (W : World) (h1 : Rd W W.heap.size (some ad) 64 L) => by
        have := choose_any (some ad) 64 c3 _ (some ad) 9 c3 _ W h1 hc3 (h1.take (k := 9) (by decide)) (by omega)
        rw [e4] at this; dsimp only at this; unfold zeroV at this
        exact Lib.hid this
      obtain ⟨E, hE⟩ : ∃ E, decE (List.replicate 64 0#8) = E := ⟨_, rfl⟩
      have hE0 : (E != 0) = true := by rw [bne_iff_ne, ← hE]; exact blank_decE
      have C5 := fun (W : World) (h1 : Rd W W.heap.size (some ⟨gw + 1, 0, none⟩) 64 (List.replicate 64 0#8)) => by
        have := dec_any (some ⟨gw + 1, 0, none⟩) 64 64 _ W h1 (Nat.le_refl _)
        rw [decV_bad blank_decE, hE] at this; unfold zeroV at this
        exact Lib.hid this
      have C6 := fun (W : World) => Lib.hid (blank_any none 0 0 [] W Rd.none_)
      have C7 := fun (W : World) (h1 : Rd W W.heap.size (some ⟨gw + 1, 0, none⟩) 64 (List.replicate 64 0#8)) => Lib.hid (blank_any (some ⟨gw + 1, 1, none⟩) 63 63 _ W (rd_at (k := 1) (m := 63) h1 (by decide) (by decide)))
      have nb1 : blankB [] = false := decide_eq_false (by simp)
      have nb2 : blankB (((List.replicate 64 0#8).drop 1).take 63) = false := by decide
      rw [nb1] at C6
      rw [nb2] at C7
      clear e2 e3 e4 hE nb1 nb2
      go_wp2_with fail
      refine (C1 _ Z6.out).out.mono ?_
      rintro e v7 ⟨rfl, hb7⟩
      have t7 := hb7.size
      have Z7 := Lib.hid ((((Z6.out.below hb7).more t7).alloc (Nat.le_refl _) (.cells #[.int .i64 0, .int .i64 0, .int .i64 0, .float .f64 0, .int .i64 0, .int .i64 0, .int .i64 0, .int .i64 0] 51)).more (B' := (v7.alloc (.cells #[.int .i64 0, .int .i64 0, .int .i64 0, .float .f64 0, .int .i64 0, .int .i64 0, .int .i64 0, .int .i64 0] 51)).heap.size) (by simp))
      have R7 := Lib.hid ((((R6.out.below hb7).more t7).alloc (Nat.le_refl _) (.cells #[.int .i64 0, .int .i64 0, .int .i64 0, .float .f64 0, .int .i64 0, .int .i64 0, .int .i64 0, .int .i64 0] 51)).more (B' := (v7.alloc (.cells #[.int .i64 0, .int .i64 0, .int .i64 0, .float .f64 0, .int .i64 0, .int .i64 0, .int .i64 0, .int .i64 0] 51)).heap.size) (by simp))
      have B7 := Lib.hid ((B6.out.trans (hb7.mono s6)).alloc (by omega) (.cells #[.int .i64 0, .int .i64 0, .int .i64 0, .float .f64 0, .int .i64 0, .int .i64 0, .int .i64 0, .int .i64 0] 51))
      have s7 : w.heap.size ≤ (v7.alloc (.cells #[.int .i64 0, .int .i64 0, .int .i64 0, .float .f64 0, .int .i64 0, .int .i64 0, .int .i64 0, .int .i64 0] 51)).heap.size := B7.out.size
      go_upto_region 15 with fail
      generalize v7.alloc (.cells #[.int .i64 0, .int .i64 0, .int .i64 0, .float .f64 0, .int .i64 0, .int .i64 0, .int .i64 0, .int .i64 0] 51) = w7 at *
      clear hb7 t7 Z6 R6 B6 s6 C1
      go_wp2_with fail
      refine (C2 _ R7.out Z7.out).out.mono ?_
      rintro e v8 ⟨rfl, hb8⟩
      have t8 := hb8.size
      have Z8 := Lib.hid ((((Z7.out.below hb8).more t8).alloc (Nat.le_refl _) (.cells #[.int .i64 0, .int .i64 0, .int .i64 0, .float .f64 0, .int .i64 0, .int .i64 0, .int .i64 0, .int .i64 0] 51)).more (B' := (v8.alloc (.cells #[.int .i64 0, .int .i64 0, .int .i64 0, .float .f64 0, .int .i64 0, .int .i64 0, .int .i64 0, .int .i64 0] 51)).heap.size) (by simp))
      have R8 := Lib.hid ((((R7.out.below hb8).more t8).alloc (Nat.le_refl _) (.cells #[.int .i64 0, .int .i64 0, .int .i64 0, .float .f64 0, .int .i64 0, .int .i64 0, .int .i64 0, .int .i64 0] 51)).more (B' := (v8.alloc (.cells #[.int .i64 0, .int .i64 0, .int .i64 0, .float .f64 0, .int .i64 0, .int .i64 0, .int .i64 0, .int .i64 0] 51)).heap.size) (by simp))
      have B8 := Lib.hid ((B7.out.trans (hb8.mono s7)).alloc (by omega) (.cells #[.int .i64 0, .int .i64 0, .int .i64 0, .float .f64 0, .int .i64 0, .int .i64 0, .int .i64 0, .int .i64 0] 51))
      have s8 : w.heap.size ≤ (v8.alloc (.cells #[.int .i64 0, .int .i64 0, .int .i64 0, .float .f64 0, .int .i64 0, .int .i64 0, .int .i64 0, .int .i64 0] 51)).heap.size := B8.out.size
      go_upto_region 16 with fail
      generalize v8.alloc (.cells #[.int .i64 0, .int .i64 0, .int .i64 0, .float .f64 0, .int .i64 0, .int .i64 0, .int .i64 0, .int .i64 0] 51) = w8 at *
      clear hb8 t8 Z7 R7 B7 s7 C2
      go_wp2_with fail
      refine (C3 _ R8.out).out.mono ?_
      rintro e v9 ⟨rfl, hb9⟩
      have t9 := hb9.size
      have Z9 := Lib.hid ((((Z8.out.below hb9).more t9).alloc (Nat.le_refl _) (.cells #[.int .i64 0, .int .i64 0, .int .i64 0, .float .f64 0, .int .i64 0, .int .i64 0, .int .i64 0, .int .i64 0] 51)).more (B' := (v9.alloc (.cells #[.int .i64 0, .int .i64 0, .int .i64 0, .float .f64 0, .int .i64 0, .int .i64 0, .int .i64 0, .int .i64 0] 51)).heap.size) (by simp))
      have R9 := Lib.hid ((((R8.out.below hb9).more t9).alloc (Nat.le_refl _) (.cells #[.int .i64 0, .int .i64 0, .int .i64 0, .float .f64 0, .int .i64 0, .int .i64 0, .int .i64 0, .int .i64 0] 51)).more (B' := (v9.alloc (.cells #[.int .i64 0, .int .i64 0, .int .i64 0, .float .f64 0, .int .i64 0, .int .i64 0, .int .i64 0, .int .i64 0] 51)).heap.size) (by simp))
      have B9 := Lib.hid ((B8.out.trans (hb9.mono s8)).alloc (by omega) (.cells #[.int .i64 0, .int .i64 0, .int .i64 0, .float .f64 0, .int .i64 0, .int .i64 0, .int .i64 0, .int .i64 0] 51))
      have s9 : w.heap.size ≤ (v9.alloc (.cells #[.int .i64 0, .int .i64 0, .int .i64 0, .float .f64 0, .int .i64 0, .int .i64 0, .int .i64 0, .int .i64 0] 51)).heap.size := B9.out.size
      go_upto_region 17 with fail
      generalize v9.alloc (.cells #[.int .i64 0, .int .i64 0, .int .i64 0, .float .f64 0, .int .i64 0, .int .i64 0, .int .i64 0, .int .i64 0] 51) = w9 at *
      clear hb9 t9 Z8 R8 B8 s8 C3
      go_wp2_with fail
      refine (C4 _ R9.out).out.mono ?_
      rintro e v10 ⟨rfl, hb10⟩
      have t10 := hb10.size
      have Z10 := Lib.hid ((((Z9.out.below hb10).more t10).alloc (Nat.le_refl _) (.cells #[.int .i64 0, .int .i64 0, .int .i64 0, .float .f64 0, .int .i64 0, .int .i64 0, .int .i64 0, .int .i64 0] 51)).more (B' := (v10.alloc (.cells #[.int .i64 0, .int .i64 0, .int .i64 0, .float .f64 0, .int .i64 0, .int .i64 0, .int .i64 0, .int .i64 0] 51)).heap.size) (by simp))
      have R10 := Lib.hid ((((R9.out.below hb10).more t10).alloc (Nat.le_refl _) (.cells #[.int .i64 0, .int .i64 0, .int .i64 0, .float .f64 0, .int .i64 0, .int .i64 0, .int .i64 0, .int .i64 0] 51)).more (B' := (v10.alloc (.cells #[.int .i64 0, .int .i64 0, .int .i64 0, .float .f64 0, .int .i64 0, .int .i64 0, .int .i64 0, .int .i64 0] 51)).heap.size) (by simp))
      have B10 := Lib.hid ((B9.out.trans (hb10.mono s9)).alloc (by omega) (.cells #[.int .i64 0, .int .i64 0, .int .i64 0, .float .f64 0, .int .i64 0, .int .i64 0, .int .i64 0, .int .i64 0] 51))
      have s10 : w.heap.size ≤ (v10.alloc (.cells #[.int .i64 0, .int .i64 0, .int .i64 0, .float .f64 0, .int .i64 0, .int .i64 0, .int .i64 0, .int .i64 0] 51)).heap.size := B10.out.size
      go_upto_region 18 with fail
      generalize v10.alloc (.cells #[.int .i64 0, .int .i64 0, .int .i64 0, .float .f64 0, .int .i64 0, .int .i64 0, .int .i64 0, .int .i64 0] 51) = w10 at *
      clear hb10 t10 Z9 R9 B9 s9 C4
      go_wp2_with fail
      refine (C5 _ Z10.out).out.mono ?_
      rintro e v11 ⟨rfl, hb11⟩
      have t11 := hb11.size
      have Z11 := Lib.hid ((((Z10.out.below hb11).more t11).alloc (Nat.le_refl _) (.cells #[.int .i64 0, .int .i64 0, .int .i64 0, .float .f64 0, .int .i64 0, .int .i64 0, .int .i64 0, .int .i64 0] 51)).more (B' := (v11.alloc (.cells #[.int .i64 0, .int .i64 0, .int .i64 0, .float .f64 0, .int .i64 0, .int .i64 0, .int .i64 0, .int .i64 0] 51)).heap.size) (by simp))
      have R11 := Lib.hid ((((R10.out.below hb11).more t11).alloc (Nat.le_refl _) (.cells #[.int .i64 0, .int .i64 0, .int .i64 0, .float .f64 0, .int .i64 0, .int .i64 0, .int .i64 0, .int .i64 0] 51)).more (B' := (v11.alloc (.cells #[.int .i64 0, .int .i64 0, .int .i64 0, .float .f64 0, .int .i64 0, .int .i64 0, .int .i64 0, .int .i64 0] 51)).heap.size) (by simp))
      have B11 := Lib.hid ((B10.out.trans (hb11.mono s10)).alloc (by omega) (.cells #[.int .i64 0, .int .i64 0, .int .i64 0, .float .f64 0, .int .i64 0, .int .i64 0, .int .i64 0, .int .i64 0] 51))
      have s11 : w.heap.size ≤ (v11.alloc (.cells #[.int .i64 0, .int .i64 0, .int .i64 0, .float .f64 0, .int .i64 0, .int .i64 0, .int .i64 0, .int .i64 0] 51)).heap.size := B11.out.size
      go_upto_region 19 with fail
      generalize v11.alloc (.cells #[.int .i64 0, .int .i64 0, .int .i64 0, .float .f64 0, .int .i64 0, .int .i64 0, .int .i64 0, .int .i64 0] 51) = w11 at *
      clear hb11 t11 Z10 R10 B10 s10 C5
      go_wp2_with fail
      refine (C6 _).out.mono ?_
      rintro e x1 ⟨rfl, hx1⟩
      have ZZ := Lib.hid ((Z11.out.below hx1).more hx1.size)
      have BB := Lib.hid (B11.out.trans (hx1.mono s11))
      have sx : w.heap.size ≤ x1.heap.size := BB.out.size
      clear hx1
      go_wp2_with fail
      refine (C7 _ ZZ.out).out.mono ?_
      rintro e x2 ⟨rfl, hx2⟩
      go_wp2_with fail
      go_ret
      exact ⟨rfl, BB.out.trans (hx2.mono sx)⟩
end Go.Proofs.Ythhgmanoifpoiaa

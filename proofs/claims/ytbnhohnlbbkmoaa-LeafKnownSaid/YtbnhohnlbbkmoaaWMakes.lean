/- The walk of LeafMakes. -/
import Derived.Test.YtbnhohnlbbkmoaaRefM
import Derived.Test.YtbnhohnlbbkmoaaWCuts
import Derived.WalkSpells
import Derived.Outline
namespace Go.Proofs.Ytbnhohnlbbkmoaa
open Go.RowKit
set_option linter.unusedVariables false

theorem conv_nil (w : World) : (convert 22 9 (.slice none 0 0)).run Try.prog w = .ok (.string (strOf [])) w :=
  conv_str (P := Try.prog) 22 9 5 (c := 0) (B := 0) Try.underlying22 Try.underlying5 Try.underlying9 Rd.none_

theorem take64 (kind : B8) (gen : B32) (ds : List B8) (h : ds.length ≤ 4096) (hg : I32 gen ≤ 2147483647) : headE ((frame kind gen ds).take 64) = 0 ∧ sizeS ((frame kind gen ds).take 64) = ((blocksN ds.length : Nat) : Int) := by
  have hl := frame_length kind gen ds
  have hb : 64 ≤ 64 * blocksN ds.length := by unfold blocksN; omega
  have ht : ((frame kind gen ds).take 64).length = 64 := by rw [List.length_take]; omega
  obtain ⟨e1, e2⟩ := head_same (a := (frame kind gen ds).take 64) (b := frame kind gen ds) (by omega) (by omega) (fun i hi => bt_take (by omega))
  have e3 : headE ((frame kind gen ds).take 64) = 0 := by rw [e1, frame_head _ _ _ h hg]
  refine ⟨e3, ?_⟩
  unfold sizeS
  rw [if_pos e3, e2, frame_many _ _ _ h]

theorem kind_next (k : B8) : k ≠ k + 1#8 := by
  intro h
  have := congrArg BitVec.toNat h
  rw [BitVec.toNat_add] at this
  have := k.isLt
  simp at *
theorem kind_add (k : B8) : (I8 k + 1) % 256 = I8 (k + 1#8) := by
  unfold I8
  rw [BitVec.toNat_add]
  simp

theorem walkMakes_bad (kind : B8) (gen : Int) (a0 : Option Addr) (len0 cap0 : Nat) (w : World) (bs : List B8) (hhi : len0 ≤ 4200) (hr : Rd w w.heap.size a0 len0 bs) (E : Int) (hE : (E != 0) = true)
    (M : ∀ w, Calls Try.prog 21 #[.int .u8 (I8 kind), .int .i64 gen, .slice a0 len0 cap0] w fun e w' => e = .returned (.tuple #[.slice none 0 0, .int .i64 E]) ∧ w = w')
    (R : ∀ w, Calls Try.prog 24 #[.int .u8 (I8 kind), .int .i64 gen, .slice a0 len0 cap0] w fun e w' => e = .returned (.tuple #[.slice none 0 0, .int .i64 E]) ∧ w = w') :
    Calls Try.prog 11 #[.int .u8 (I8 kind), .int .i64 gen, .slice a0 len0 cap0] w fun e w' => e = .returned (.bool true) ∧ Below w.heap.size w w' := by
  have HM := Lib.hid M
  have HR := Lib.hid R
  have c0 := conv_nil
  clear M R hr
  have hhiI : (len0 : Int) ≤ 4200 := by omega
  have B1 := fun w => Lib.hid (blocks_any (len0 : Int) w)
  have B2 := fun w => Lib.hid (refBlocks_any (len0 : Int) w)
  generalize (if 0 ≤ (len0 : Int) ∧ (len0 : Int) ≤ 4096 then ((blocksN (len0 : Int).toNat : Nat) : Int) else 0) = Z at *
  generalize strOf [] = S0 at *
  go_enter Try.func11, Try.ntmps11
  go_wp2_with (first
    | (go_at_call 20; refine (awake5 _).mono ?_; rintro e w1 ⟨rfl, hb1⟩)
    | (go_at_call 21; with_reducible refine (HM.out _).mono ?_; rintro e w' ⟨rfl, rfl⟩)
    | (go_at_call 24; with_reducible refine (HR.out _).mono ?_; rintro e w' ⟨rfl, rfl⟩)
    | (go_at_call 23; with_reducible refine (B1 _).out.mono ?_; rintro e w' ⟨rfl, rfl⟩)
    | (go_at_call 25; with_reducible refine (B2 _).out.mono ?_; rintro e w' ⟨rfl, rfl⟩))
  go_ret
  exact ⟨rfl, hb1⟩

theorem walkMakes (kind : B8) (gen : Int) (a0 : Option Addr) (len0 cap0 : Nat) (w : World) (bs : List B8) (hlc : len0 ≤ cap0) (hr : Rd w w.heap.size a0 len0 bs) :
    Calls Try.prog 11 #[.int .u8 (I8 kind), .int .i64 gen, .slice a0 len0 cap0] w fun e w' => e = .returned (.bool true) ∧ Below w.heap.size w w' := by
  by_cases hhi : 4200 < len0
  · go_enter Try.func11, Try.ntmps11
    go_wp2_with (go_at_call 20; refine (awake5 _).mono ?_; rintro e w1 ⟨rfl, hb1⟩)
    go_ret
    exact ⟨rfl, hb1⟩
  by_cases hg : gen < 0 ∨ 2147483647 < gen
  · exact walkMakes_bad kind gen a0 len0 cap0 w bs (by omega) hr 1 rfl (fun w => make_gen kind gen a0 len0 cap0 w hg) (fun w => refMake_gen kind gen a0 len0 cap0 w hg)
  by_cases hn : 4096 < len0
  · exact walkMakes_bad kind gen a0 len0 cap0 w bs (by omega) hr 3 rfl (fun w => make_long kind gen a0 len0 cap0 w hg hn (by omega)) (fun w => refMake_long kind gen a0 len0 cap0 w hg hn (by omega))
  obtain ⟨G, hG⟩ := I32.of (z := gen) (by omega) (by omega)
  subst hG
  have hGl : I32 G ≤ 2147483647 := by omega
  have hl := hr.len
  have F0 : Hid (openE (frame kind G bs) kind = 0) := by show _ = _; rw [frame_openE _ _ _ _ (by omega) hGl, if_pos rfl]
  have FG := Lib.hid (frame_openG kind G bs (by omega) hGl)
  have FD := Lib.hid (frame_openD kind G bs (by omega) hGl)
  have F4 : Hid (openE (frame kind G bs) (kind + 1#8) = 4) := by show _ = _; rw [frame_openE _ _ _ _ (by omega) hGl, if_neg (kind_next kind)]
  obtain ⟨h64, s64⟩ := take64 kind G bs (by omega) hGl
  have hFl := frame_length kind G bs
  rw [hl] at hFl s64
  have MK := fun w1 hb => Lib.hid (make_frame kind G (I32 G) a0 len0 cap0 bs 0 w w1 hr hb (by omega) hGl rfl)
  have RK := fun w1 h => Lib.hid (refMake_ok kind G a0 len0 cap0 bs w1 h (by omega) hGl)
  have B1 := fun w => Lib.hid (blocks_ok len0 w (by omega))
  have B2 : ∀ w, Hid (Calls Try.prog 25 #[.int .i64 (len0 : Int)] w fun e w' => e = .returned (.int .i64 ((blocksN len0 : Nat) : Int)) ∧ w = w') := fun w => by
    have := refBlocks_any (len0 : Int) w
    rw [if_pos ⟨by omega, by omega⟩] at this
    exact this
  have hka := kind_add kind
  obtain ⟨N, hN⟩ : ∃ N, N = 64 * blocksN len0 := ⟨_, rfl⟩
  have hN64 : 64 ≤ N ∧ N ≤ 4160 := by rw [hN]; unfold blocksN; omega
  have HNB : Hid (((blocksN len0 : Nat) : Int) * 64 = (N : Int)) := by show _ = _; omega
  rw [← hN] at MK RK hFl
  have H64 := Lib.hid h64
  have S64 := Lib.hid s64
  have HFL := Lib.hid hFl
  have HL := Lib.hid hl
  have HR := Lib.hid hr
  clear hN h64 s64 hFl hl hr
  generalize blocksN len0 = BN at *
  generalize frame kind G bs = F at *
  have hg0 : ¬ I32 G < 0 := by have := (I32.bd G).1; omega
  clear hg hn
  go_enter Try.func11, Try.ntmps11
  go_wp2_with (first
    | (go_at_call 20; refine (awake5 _).mono ?_; rintro e w1 ⟨rfl, hb1⟩)
    | (go_at_call 21; with_reducible refine (MK _ hb1).out.mono ?_; rintro e w2 ⟨rfl, hf, hb2⟩))
  have hrf := block_rd hf HFL.out (by omega)
  have hB2 : Below w.heap.size w w2 := hb1.trans (hb2.mono hb1.size)
  have hs2 : w1.heap.size < w2.heap.size := (Array.getElem?_eq_some_iff.1 hf).1
  refine (RK w2 ((HR.out.below hB2).more hB2.size)).out.mono ?_
  rintro e w3 ⟨A3, c3, rfl, hr3, hb3⟩
  have hB3 : Below w.heap.size w w3 := hB2.trans (hb3.mono hB2.size)
  have hrf3 := (hrf.below hb3).more hb3.size
  have s1 := conv_str (P := Try.prog) 22 9 5 (c := N) Try.underlying22 Try.underlying5 Try.underlying9 hrf3
  have s2 := conv_str (P := Try.prog) 22 9 5 (c := c3) Try.underlying22 Try.underlying5 Try.underlying9 hr3
  have O1 := Lib.hid (open_good _ N N F kind w3 hrf3 (Nat.le_refl _) (by omega) (I32 G) bs len0 F0.out FG.out FD.out HL.out)
  have RF3 := Lib.hid hrf3
  clear hrf hrf3 hr3 hf hb1 hb2 MK RK
  go_wp2_with (first
    | (go_at_call 23; with_reducible refine (B1 _).out.mono ?_; rintro e w' ⟨rfl, rfl⟩)
    | (go_at_call 25; with_reducible refine (B2 _).out.mono ?_; rintro e w' ⟨rfl, rfl⟩)
    | (go_at_call 22; with_reducible refine O1.out.mono ?_; rintro e w4 ⟨A4, c4, rfl, hr4, hb4⟩))
  have hB4 : Below w.heap.size w w4 := hB3.trans (hb4.mono hB3.size)
  have hrf4 := (RF3.out.below hb4).more hb4.size
  have Z1 := Lib.hid (size_any _ 64 N (F.take 64) w4 (hrf4.take (by omega)) (by omega) (by omega))
  rw [S64.out, H64.out] at Z1
  have O2 := fun nq => Lib.hid (open_bad _ N N F (kind + 1#8) (w4.drewN nq) (hrf4.drewN nq) (Nat.le_refl _) (by omega) 4 F4.out (by decide))
  have HR4 := Lib.hid hr4
  clear hr4 hrf4 hb4 s1 s2
  refine Z1.out.mono ?_
  rintro e w5 ⟨rfl, nq, rfl⟩
  go_wp2_with (first
    | (go_at_call 22
       with_reducible refine (O2 nq).out.mono ?_
       rintro e w6 ⟨A6, c6, rfl, hb6⟩
       have hB6 : Below w.heap.size w w6 := (below_drewN hB4 nq).trans (hb6.mono hB4.size)
       have s3 := conv_str (P := Try.prog) 22 9 5 (c := c4) Try.underlying22 Try.underlying5 Try.underlying9 ((HR4.out.drewN nq).below hb6)
       have s4 := conv_str (P := Try.prog) 22 9 5 (c := cap0) Try.underlying22 Try.underlying5 Try.underlying9 (HR.out.below hB6)
       have hnb := HNB.out))
  go_ret
  exact ⟨rfl, hB6⟩
end Go.Proofs.Ytbnhohnlbbkmoaa

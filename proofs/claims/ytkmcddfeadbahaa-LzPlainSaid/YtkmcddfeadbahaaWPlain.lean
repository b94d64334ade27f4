/- The walk of LzPlain. -/
import Derived.Test.YtkmcddfeadbahaaAw6
import Derived.Test.YtkmcddfeadbahaaPln
namespace Go.Proofs.Ytkmcddfeadbahaa
open Go.RowKit
set_option linter.unusedVariables false

theorem says_seqL_e (b : List B8) (N : Int) (hb : b.length ≤ 3000) :
    (says (seqL b) N).e = if N < 0 ∨ 4096 < N then 1 else if N < (b.length : Int) then 3 else if (b.length : Int) < N then 2 else 0 := by
  unfold says
  by_cases h : N < 0 ∨ 4096 < N
  · rw [if_pos h, if_pos h]; rfl
  · rw [if_neg h, if_neg h, unp_eq, seqOf_seqL]
    simp only [List.length_nil, List.nil_append, Nat.zero_add]
    by_cases h1 : N < (b.length : Int)
    · rw [if_pos (by omega), if_pos h1]; rfl
    · rw [if_neg (by omega), if_neg h1]
      by_cases h2 : (b.length : Int) < N
      · rw [if_neg (by omega), if_pos h2]; rfl
      · rw [if_pos (by omega), if_neg h2]; rfl
theorem says_seqL (b : List B8) (hb : b.length ≤ 3000) : says (seqL b) (b.length : Int) = .good b := by
  unfold says
  rw [if_neg (by omega), Int.toNat_natCast, unp_seqL b [] b.length (by simp)]
  rfl
theorem seqL_le (b : List B8) (hb : b.length ≤ 3000) : (seqL b).length ≤ 1000000 := by
  unfold seqL
  have := lenE_le b.length
  simp only [List.length_cons, List.length_append]
  omega

set_option maxRecDepth 100000 in
theorem walkPlain (a0 : Option Addr) (len0 cap0 : Nat) (n : Int) (w : World) (bs : List B8) (hlc : len0 ≤ cap0) (hr : Rd w w.heap.size a0 len0 bs) :
    Calls Try.prog 3 #[.slice a0 len0 cap0, .int .i64 n] w fun e w' => e = .returned (.bool true) ∧ Below w.heap.size w w' := by
  by_cases hhi : 3000 < len0
  · go_enter Try.func3, Try.ntmps3
    go_wp2_with (go_at_call 10; refine (awake6 _).mono ?_; rintro e w1 ⟨rfl, hb1⟩)
    go_ret
    exact ⟨rfl, hb1⟩
  obtain ⟨i0, hi, hz0, hz1, hz2⟩ := info_parts info5
  have hmk : ∀ w : World, (Instr.makeSlice 22 (.int .i64 4097) (.int .i64 4097)).run Try.prog w = .ok (.slice (some ⟨w.heap.size, 0, none⟩) 4097 4097) (w.alloc (.cells (zeros 4097) 5)) :=
    make_zeros (P := Try.prog) 22 5 i0 Try.underlying22 hi hz0 hz1 hz2 4097 (by omega)
  have HR := Lib.hid hr
  have hl := hr.len
  have hbl : bs.length ≤ 3000 := by omega
  have G1 := Lib.hid (says_seqL bs hbl)
  have G2 := Lib.hid (says_seqL_e bs n hbl)
  have G3 := Lib.hid (seqL_le bs hbl)
  rw [hl] at G1 G2
  clear hr hl hbl
  go_enter Try.func3, Try.ntmps3
  go_wp2_with (go_at_call 10; refine (awake6 _).mono ?_; rintro e w1 ⟨rfl, hb1⟩)
  have HB1 := Lib.hid hb1
  have C1 := Lib.hid (plain_any a0 len0 cap0 bs w1 ((HR.out.below hb1).more hb1.size) (by omega))
  generalize hsl : (seqL bs).length = L at *
  clear hb1
  refine C1.out.mono ?_
  rintro e w2 ⟨A2, c2, rfl, hr2, hb2, hc2⟩
  have U1 := Lib.hid (unpack_any A2 L c2 (seqL bs) w2 hr2 hc2 (by have := G3.out; omega) (len0 : Int))
  have HB2 := Lib.hid (HB1.out.trans (hb2.mono HB1.out.size))
  clear hr2 hb2
  go_wp2_with fail
  refine U1.out.mono fun e w3 h => ?_
  obtain ⟨A3, c3, rfl, hc3, hr3, hb3⟩ := unpacked_good G1.out h
  have hlb := HR.out.len
  rw [hlb] at hr3 ⊢
  have R3 := Lib.hid hr3
  have HB3 := Lib.hid (HB2.out.trans (hb3.mono HB2.out.size))
  have C3 := Lib.hid (plain_any a0 len0 cap0 bs w3 ((HR.out.below HB3.out).more HB3.out.size) (by omega))
  rw [hsl] at C3
  clear h hr3 hb3 hlb
  go_wp2_with fail
  refine C3.out.mono ?_
  rintro e w4 ⟨A4, c4, rfl, hr4, hb4, hc4⟩
  have U4 := Lib.hid (unpack_any A4 L c4 (seqL bs) w4 hr4 hc4 (by have := G3.out; omega) n)
  have HB4 := Lib.hid (HB3.out.trans (hb4.mono HB3.out.size))
  have R4 := Lib.hid ((R3.out.below hb4).more hb4.size)
  clear hr4 hb4
  go_wp2_with fail
  refine U4.out.mono fun e w5 h => ?_
  obtain ⟨A5, n5, c5, rfl, hc5, hr5, hb5⟩ := h
  have HB5 := Lib.hid (HB4.out.trans (hb5.mono HB4.out.size))
  have R5 := Lib.hid ((R4.out.below hb5).more hb5.size)
  clear hr5 hb5
  rw [G2.out]
  obtain ⟨E, hE⟩ : ∃ E, E = (if n < 0 ∨ 4096 < n then (1 : Int) else if n < (len0 : Int) then 3 else if (len0 : Int) < n then 2 else 0) := ⟨_, rfl⟩
  rw [← hE]
  have HE := Lib.hid hE
  clear hE
  have s3 := conv_str (P := Try.prog) 22 9 5 (c := c3) Try.underlying22 Try.underlying5 Try.underlying9 R5.out
  have s0 := conv_str (P := Try.prog) 22 9 5 (c := cap0) Try.underlying22 Try.underlying5 Try.underlying9 (HR.out.below HB5.out)
  generalize strOf bs = D at *
  go_upto_region 14 with fail
  all_goals
    have hw := HE.out
    (repeat' split at hw)
    all_goals try (exfalso; omega)
    all_goals
      subst hw
      go_wp2_with (go_at_call 13; refine (pack_much _ 4097 4097 _ (by omega)).mono ?_; rintro e w9 ⟨rfl, hb9⟩)
      go_ret
      exact ⟨rfl, (HB5.out.alloc HB5.out.size _).trans (hb9.mono (by have := HB5.out.size; simp; omega))⟩
end Go.Proofs.Ytkmcddfeadbahaa

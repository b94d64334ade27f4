/- concertinalaw6.awake returns true; contracts of Most and of the document's Unpack for every input. -/
import Derived.Test.YtkmcddfeadbahaaPk
namespace Go.Proofs.Ytkmcddfeadbahaa
open Go.RowKit
set_option linter.unusedVariables false

theorem ref_any (A : Option Addr) (n c : Nat) (bs : List B8) (w : World) (hr : Rd w w.heap.size A n bs) (hc : n ≤ c) (hn : n ≤ 1000000) (N : Int) :
    Calls Try.prog 14 #[.slice A n c, .int .i64 N] w (Unpacked (says bs N) w) := by
  unfold says
  by_cases hN : N < 0 ∨ 4096 < N
  · rw [if_pos hN]
    exact ref_arg A n c w N hN
  · rw [if_neg hN]
    obtain ⟨k, rfl⟩ : ∃ k : Nat, N = (k : Int) := Int.eq_ofNat_of_zero_le (by omega)
    exact ref_in A n c bs w hr hc hn k (by omega)

theorem most_any (n : Nat) (w : World) (hn : n ≤ 4096) : Calls Try.prog 15 #[.int .i64 (n : Int)] w fun e w' => e = .returned (.int .i64 ((n + n / 255 + 16 : Nat) : Int)) ∧ w = w' := by
  have h1 : ¬ (n : Int) < 0 := by omega
  have h2 : ¬ 4096 < (n : Int) := by omega
  go_enter Try.func15, Try.ntmps15
  go_wp2
  go_ret
  exact ⟨rfl, rfl⟩

/-- Unpack, or the document's, where the answer is known. -/
theorem unpacked_good {r : Res} {w : World} {out : List B8} (h : r = .good out) {e : Ending} {w' : World} (hu : Unpacked r w e w') :
    ∃ A c, e = .returned (.tuple #[.slice A out.length c, .int .i64 0]) ∧ out.length ≤ c ∧ Rd w' w'.heap.size A out.length out ∧ Below w.heap.size w w' := by
  subst h
  obtain ⟨A, n, c, rfl, hc, hr, hb⟩ := hu
  obtain rfl := hr.len
  exact ⟨A, c, rfl, hc, hr, hb⟩
theorem unpacked_bad {r : Res} {w : World} {E : Int} (h : r = .bad E) {e : Ending} {w' : World} (hu : Unpacked r w e w') :
    ∃ A c, e = .returned (.tuple #[.slice A 0 c, .int .i64 E]) ∧ Rd w' w'.heap.size A 0 [] ∧ Below w.heap.size w w' := by
  subst h
  obtain ⟨A, n, c, rfl, hc, hr, hb⟩ := hu
  obtain rfl := hr.len
  exact ⟨A, c, rfl, hr, hb⟩

def abc12 : List B8 := [97#8, 98#8, 99#8, 97#8, 98#8, 99#8, 97#8, 98#8, 99#8, 97#8, 98#8, 99#8]
theorem abc12_str : strOf abc12 = ⟨#[97, 98, 99, 97, 98, 99, 97, 98, 99, 97, 98, 99]⟩ := by decide
theorem a_str : strOf [97#8] = ⟨#[97]⟩ := by decide
theorem says_pack (b : List B8) (N : Int) (hb : b.length ≤ 4096) (hN : N = (b.length : Int)) : says (pack b) N = .good b := by
  unfold says
  rw [if_neg (by omega), hN, Int.toNat_natCast, unp_pack b hb]
theorem one_lit : says [16#8, 97#8] 1 = .good [97#8] := rfl

theorem awake_first (w : World) : Calls Try.prog 11 #[.slice (some ⟨w.heap.size, 0, none⟩) 2 2, .int .i64 1] (w.alloc (.cells ([16#8, 97#8].map v8).toArray 5)) fun e w' =>
    ∃ A c, e = .returned (.tuple #[.slice A 1 c, .int .i64 0]) ∧ Rd w' w'.heap.size A 1 [97#8] ∧ Below w.heap.size w w' := by
  have hs : (w.alloc (.cells ([16#8, 97#8].map v8).toArray 5)).heap.size = w.heap.size + 1 := by simp
  have hr := rd_lit w [16#8, 97#8] _ 5 (0, 0) rfl
  rw [← hs] at hr
  refine (unpack_any _ 2 2 [16#8, 97#8] _ hr (Nat.le_refl _) (by omega) 1).mono fun e w' h => ?_
  obtain ⟨A, c, rfl, _, h1, h2⟩ := unpacked_good one_lit h
  exact ⟨A, c, rfl, h1, ((Below.refl _ _).alloc (Nat.le_refl _) _).trans (h2.mono (by omega))⟩
theorem awake_second (w : World) (m : Nat × Nat) : Calls Try.prog 13 #[.slice (some ⟨w.heap.size, 0, none⟩) 12 12] (w.alloc (.cells (abc12.map v8).toArray 5 m)) fun e w' =>
    ∃ A c, e = .returned (.slice A (pack abc12).length c) ∧ Rd w' w'.heap.size A (pack abc12).length (pack abc12) ∧ (pack abc12).length ≤ c ∧ Below w.heap.size w w' := by
  have hs : (w.alloc (.cells (abc12.map v8).toArray 5 m)).heap.size = w.heap.size + 1 := by simp
  have hr := rd_lit w abc12 _ 5 m rfl
  rw [← hs] at hr
  refine (pack_in _ 12 12 abc12 _ hr (Nat.le_refl _) (by omega)).mono fun e w' h => ?_
  obtain ⟨A, c, rfl, h1, h2, h3⟩ := h
  exact ⟨A, c, rfl, h1, h3, ((Below.refl _ _).alloc (Nat.le_refl _) _).trans (h2.mono (by omega))⟩

theorem awake6 (w : World) : Calls Try.prog 10 #[] w fun e w' => e = .returned (.bool true) ∧ Below w.heap.size w w' := by
  have k0 := conv0 (P := Try.prog) 22 5 Try.underlying22 Try.underlying5
  have F := Lib.hid (awake_first w)
  have S := fun w m => Lib.hid (awake_second w m)
  have MO : ∀ w, Hid (Calls Try.prog 15 #[.int .i64 0] w fun e w' => e = .returned (.int .i64 16) ∧ w = w') := fun w => most_any 0 w (by omega)
  go_enter Try.func10, Try.ntmps10
  go_wp2_with fail
  refine F.out.mono ?_
  rintro e w1 ⟨A1, c1, rfl, hr1, hb1⟩
  have R1 := Lib.hid hr1
  clear hr1
  go_wp2_with fail
  refine (S _ _).out.mono ?_
  rintro e w2 ⟨A2, c2, rfl, hr2, hc2, hb2⟩
  have hB2 : Below w.heap.size w w2 := hb1.trans (hb2.mono hb1.size)
  have hl2 : (pack abc12).length ≤ 1000000 := by have := pack_length abc12 (by decide); have : abc12.length = 12 := rfl; omega
  have U := Lib.hid (ref_any A2 _ c2 (pack abc12) w2 hr2 hc2 hl2 12)
  rw [says_pack abc12 12 (by decide) rfl] at U
  have R1b := Lib.hid ((R1.out.below hb2).more hb2.size)
  clear hr2 hl2
  generalize (pack abc12).length = L at *
  go_wp2_with fail
  refine U.out.mono fun e w3 h => ?_
  obtain ⟨A3, c3, rfl, hc3, hr3, hb3⟩ := unpacked_good rfl h
  have s1 := conv_str (P := Try.prog) 22 9 5 (c := c1) Try.underlying22 Try.underlying5 Try.underlying9 (R1b.out.below hb3)
  have s3 := conv_str (P := Try.prog) 22 9 5 (c := c3) Try.underlying22 Try.underlying5 Try.underlying9 hr3
  rw [a_str] at s1
  rw [abc12_str] at s3
  have hlen : abc12.length = 12 := rfl
  rw [hlen] at s3 ⊢
  clear h hr3 hlen
  go_wp2_with (go_at_call 15; with_reducible refine (MO _).out.mono ?_; rintro e w' ⟨rfl, rfl⟩)
  go_ret
  exact ⟨rfl, hB2.trans (hb3.mono hB2.size)⟩
end Go.Proofs.Ytkmcddfeadbahaa

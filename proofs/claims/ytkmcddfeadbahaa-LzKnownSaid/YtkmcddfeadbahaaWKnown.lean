/- The walk of LzKnown. -/
import Derived.Test.YtkmcddfeadbahaaAw6
namespace Go.Proofs.Ytkmcddfeadbahaa
open Go.RowKit
set_option linter.unusedVariables false

/-- Unpack of a block that was just written out. -/
theorem lit_says (L : List B8) (k : Nat) (hk : L.length = k) (N E : Int) (o : List B8) (n : Nat) (ho : o.length = n) (hE : (says L N).e = E) (hD : (says L N).d = o) (hs : k ≤ 1000) (w : World) (m : Nat × Nat) :
    Calls Try.prog 11 #[.slice (some ⟨w.heap.size, 0, none⟩) k k, .int .i64 N] (w.alloc (.cells (L.map v8).toArray 5 m)) fun e w' =>
      ∃ A c, e = .returned (.tuple #[.slice A n c, .int .i64 E]) ∧ Rd w' w'.heap.size A n o ∧ Below w.heap.size w w' := by
  subst hk
  have hs1 : (w.alloc (.cells (L.map v8).toArray 5 m)).heap.size = w.heap.size + 1 := by simp
  have hr := rd_lit w L _ 5 m rfl
  rw [← hs1] at hr
  refine (unpack_any _ _ _ L _ hr (Nat.le_refl _) (by omega) N).mono fun e w' h => ?_
  obtain ⟨A, n', c, rfl, _, h1, h2⟩ := h
  rw [hD] at h1
  obtain rfl := h1.len
  rw [hE, ho] at *
  exact ⟨A, c, rfl, h1, ((Below.refl _ _).alloc (Nat.le_refl _) _).trans (h2.mono (by omega))⟩
theorem nil_says (w : World) : Calls Try.prog 11 #[.slice none 0 0, .int .i64 0] w fun e w' =>
      ∃ A c, e = .returned (.tuple #[.slice A 0 c, .int .i64 2]) ∧ Rd w' w'.heap.size A 0 [] ∧ Below w.heap.size w w' :=
  (unpack_any none 0 0 [] w Rd.none_ (Nat.le_refl _) (by omega) 0).mono fun e w' h => unpacked_bad rfl h
def as16 : List B8 := List.replicate 16 97#8
theorem as16_str : strOf as16 = ⟨#[97, 97, 97, 97, 97, 97, 97, 97, 97, 97, 97, 97, 97, 97, 97, 97]⟩ := by decide

set_option maxRecDepth 100000 in
theorem walkKnown (w : World) : Calls Try.prog 9 #[] w fun e w' => e = .returned (.bool true) ∧ Below w.heap.size w w' := by
  have F1 := fun w m => Lib.hid (lit_says [26#8, 97#8, 1#8, 0#8, 16#8, 97#8] 6 rfl 16 0 as16 16 rfl (by kernel_rfl) (by kernel_rfl) (by omega) w m)
  have F2 := fun w => Lib.hid (nil_says w)
  have F3 := fun w m => Lib.hid (lit_says [0#8] 1 rfl 0 0 [] 0 rfl (by kernel_rfl) (by kernel_rfl) (by omega) w m)
  have F4 := fun w m => Lib.hid (lit_says [32#8, 97#8] 2 rfl 2 2 [] 0 rfl (by kernel_rfl) (by kernel_rfl) (by omega) w m)
  have F5 := fun w m => Lib.hid (lit_says [16#8, 97#8, 0#8, 0#8, 0#8] 5 rfl 9 4 [] 0 rfl (by kernel_rfl) (by kernel_rfl) (by omega) w m)
  have F6 := fun w m => Lib.hid (lit_says [16#8, 97#8, 2#8, 0#8, 0#8] 5 rfl 9 4 [] 0 rfl (by kernel_rfl) (by kernel_rfl) (by omega) w m)
  have F7 := fun w m => Lib.hid (lit_says [16#8, 97#8, 1#8] 3 rfl 9 2 [] 0 rfl (by kernel_rfl) (by kernel_rfl) (by omega) w m)
  have F8 := fun w m => Lib.hid (lit_says [32#8, 97#8, 98#8] 3 rfl 1 3 [] 0 rfl (by kernel_rfl) (by kernel_rfl) (by omega) w m)
  have F9 := fun w m => Lib.hid (lit_says [16#8, 97#8] 2 rfl 2 2 [] 0 rfl (by kernel_rfl) (by kernel_rfl) (by omega) w m)
  have F10 := fun w m => Lib.hid (lit_says [240#8] 1 rfl 99 2 [] 0 rfl (by kernel_rfl) (by kernel_rfl) (by omega) w m)
  have F11 := fun w m => Lib.hid (lit_says [16#8, 97#8] 2 rfl (-1) 1 [] 0 rfl (by kernel_rfl) (by kernel_rfl) (by omega) w m)
  go_enter Try.func9, Try.ntmps9
  go_wp2_with (go_at_call 10; refine (awake6 _).mono ?_; rintro e w0 ⟨rfl, hb0⟩)
  have HB0 := Lib.hid hb0
  clear hb0
  refine (F1 _ _).out.mono ?_
  rintro e w1 ⟨A1, c1, rfl, hr1, hb1⟩
  have HB1 := Lib.hid (HB0.out.trans (hb1.mono HB0.out.size))
  have R1 := Lib.hid hr1
  clear hr1 hb1
  go_wp2_with fail
  refine (F2 _).out.mono ?_
  rintro e w2 ⟨A2, c2, rfl, hr2, hb2⟩
  have HB2 := Lib.hid (HB1.out.trans (hb2.mono HB1.out.size))
  have R2 := Lib.hid ((R1.out.below hb2).more hb2.size)
  clear hr2 hb2
  go_wp2_with fail
  refine (F3 _ _).out.mono ?_
  rintro e w3 ⟨A3, c3, rfl, hr3, hb3⟩
  have HB3 := Lib.hid (HB2.out.trans (hb3.mono HB2.out.size))
  have R3 := Lib.hid ((R2.out.below hb3).more hb3.size)
  clear hr3 hb3
  go_wp2_with fail
  refine (F4 _ _).out.mono ?_
  rintro e w4 ⟨A4, c4, rfl, hr4, hb4⟩
  have HB4 := Lib.hid (HB3.out.trans (hb4.mono HB3.out.size))
  have R4 := Lib.hid ((R3.out.below hb4).more hb4.size)
  clear hr4 hb4
  go_wp2_with fail
  refine (F5 _ _).out.mono ?_
  rintro e w5 ⟨A5, c5, rfl, hr5, hb5⟩
  have HB5 := Lib.hid (HB4.out.trans (hb5.mono HB4.out.size))
  have R5 := Lib.hid ((R4.out.below hb5).more hb5.size)
  clear hr5 hb5
  go_wp2_with fail
  refine (F6 _ _).out.mono ?_
  rintro e w6 ⟨A6, c6, rfl, hr6, hb6⟩
  have HB6 := Lib.hid (HB5.out.trans (hb6.mono HB5.out.size))
  have R6 := Lib.hid ((R5.out.below hb6).more hb6.size)
  clear hr6 hb6
  go_wp2_with fail
  refine (F7 _ _).out.mono ?_
  rintro e w7 ⟨A7, c7, rfl, hr7, hb7⟩
  have HB7 := Lib.hid (HB6.out.trans (hb7.mono HB6.out.size))
  have R7 := Lib.hid ((R6.out.below hb7).more hb7.size)
  clear hr7 hb7
  go_wp2_with fail
  refine (F8 _ _).out.mono ?_
  rintro e w8 ⟨A8, c8, rfl, hr8, hb8⟩
  have HB8 := Lib.hid (HB7.out.trans (hb8.mono HB7.out.size))
  have R8 := Lib.hid ((R7.out.below hb8).more hb8.size)
  clear hr8 hb8
  go_wp2_with fail
  refine (F9 _ _).out.mono ?_
  rintro e w9 ⟨A9, c9, rfl, hr9, hb9⟩
  have HB9 := Lib.hid (HB8.out.trans (hb9.mono HB8.out.size))
  have R9 := Lib.hid ((R8.out.below hb9).more hb9.size)
  clear hr9 hb9
  go_wp2_with fail
  refine (F10 _ _).out.mono ?_
  rintro e w10 ⟨A10, c10, rfl, hr10, hb10⟩
  have HB10 := Lib.hid (HB9.out.trans (hb10.mono HB9.out.size))
  have R10 := Lib.hid ((R9.out.below hb10).more hb10.size)
  clear hr10 hb10
  go_wp2_with fail
  refine (F11 _ _).out.mono ?_
  rintro e w11 ⟨A11, c11, rfl, hr11, hb11⟩
  have HB11 := Lib.hid (HB10.out.trans (hb11.mono HB10.out.size))
  have R11 := Lib.hid ((R10.out.below hb11).more hb11.size)
  clear hr11 hb11
  have s1 := conv_str (P := Try.prog) 22 9 5 (c := c1) Try.underlying22 Try.underlying5 Try.underlying9 R11.out
  rw [as16_str] at s1
  go_wp2_with fail
  go_ret
  exact ⟨rfl, HB11.out⟩
end Go.Proofs.Ytkmcddfeadbahaa

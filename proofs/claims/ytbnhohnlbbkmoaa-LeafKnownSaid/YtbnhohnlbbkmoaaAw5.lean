/- concertinalaw5.awake returns true. -/
import Derived.Test.YtbnhohnlbbkmoaaLeafW
namespace Go.Proofs.Ytbnhohnlbbkmoaa
open Go.RowKit
set_option linter.unusedVariables false

def abc : List B8 := [97#8, 98#8, 99#8]
theorem abc_str : strOf abc = ⟨#[97, 98, 99]⟩ := by decide

theorem make_abc (w : World) (m : Nat × Nat) :
    Calls Try.prog 21 #[.int .u8 7, .int .i64 3, .slice (some ⟨w.heap.size, 0, none⟩) 3 3] (w.alloc (.cells (abc.map v8).toArray 5 m)) fun e w' =>
      e = .returned (.tuple #[.slice (some ⟨w.heap.size + 1, 0, none⟩) 64 64, .int .i64 0]) ∧ Rd w' w'.heap.size (some ⟨w.heap.size + 1, 0, none⟩) 64 (frame 7#8 3#32 abc) ∧ Below w.heap.size w w' := by
  have hs : (w.alloc (.cells (abc.map v8).toArray 5 m)).heap.size = w.heap.size + 1 := by show (w.heap.push _).size = _; rw [Array.size_push]
  have hr : Rd (w.alloc (.cells (abc.map v8).toArray 5 m)) (w.alloc (.cells (abc.map v8).toArray 5 m)).heap.size (some ⟨w.heap.size, 0, none⟩) 3 abc := by
    rw [hs]; exact rd_lit w abc _ 5 m rfl
  refine (make_ok 7#8 3#32 _ 3 3 abc _ hr (by omega) (by decide)).mono ?_
  rintro e w' ⟨rfl, hh, hb⟩
  rw [hs] at hh hb ⊢
  exact ⟨rfl, block_rd hh (frame_length _ _ _) (by omega), ((Below.refl _ _).alloc (Nat.le_refl _) _).trans (hb.mono (by omega))⟩

theorem awake5 (w : World) : Calls Try.prog 20 #[] w fun e w' => e = .returned (.bool true) ∧ Below w.heap.size w w' := by
  have k0 := conv0 (P := Try.prog) 22 5 Try.underlying22 Try.underlying5
  have b1 := fun w => blocks_any 48 w
  have b2 := fun w => blocks_any 49 w
  have B1 := Lib.hid b1
  have B2 := Lib.hid b2
  have M := Lib.hid (make_abc w)
  clear b1 b2
  go_enter Try.func20, Try.ntmps20
  go_wp2_with fail
  refine (M.out _).mono ?_
  rintro e w' ⟨rfl, hr, hb⟩
  have H := Lib.hid (open_good _ 64 64 _ 7#8 w' hr (by omega) (by omega) 3 abc 3 (by rw [frame_openE _ _ _ _ (by decide) (by decide)]; rfl) (frame_openG _ _ _ (by decide) (by decide)) (frame_openD _ _ _ (by decide) (by decide)) rfl)
  clear hr
  go_wp2_with fail
  refine H.out.mono ?_
  rintro e w' ⟨A', c', rfl, hr, hb2⟩
  have hs := conv_str (P := Try.prog) 22 9 5 (c := c') Try.underlying22 Try.underlying5 Try.underlying9 hr
  rw [abc_str] at hs
  clear hr
  go_wp2_with fail
  refine (B1.out _).mono ?_
  rintro e w' ⟨rfl, rfl⟩
  go_wp2_with fail
  refine (B2.out _).mono ?_
  rintro e w' ⟨rfl, rfl⟩
  go_wp2_with fail
  go_ret
  exact ⟨rfl, hb.trans (hb2.mono hb.size)⟩
end Go.Proofs.Ytbnhohnlbbkmoaa

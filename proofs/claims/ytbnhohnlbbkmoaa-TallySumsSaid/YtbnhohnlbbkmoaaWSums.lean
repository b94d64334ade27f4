/- The walk of TallySums. -/
import Derived.Test.YtbnhohnlbbkmoaaAw3
import Derived.Test.YtbnhohnlbbkmoaaMix
import Derived.WalkSpells
import Derived.Outline
import Derived.IntWalk
import Derived.Deep.RegionWith
import Derived.Deep.QuietTactic
import Derived.BigQuiet
import Derived.ChangeKeysEq
namespace Go.Proofs.Ytbnhohnlbbkmoaa
open Go.RowKit
set_option linter.unusedVariables false

def wordOf (s : B32) : Value := .agg #[.int .u8 (I8 (mb s 3)), .int .u8 (I8 (mb s 2)), .int .u8 (I8 (mb s 1)), .int .u8 (I8 (mb s 0))]

theorem cells5 : Try.prog.cellsOf 5 = 1 := by kernel_rfl
theorem arr_eq (a b c d : Int) (W : World) : (binOp .eql 34 (.agg #[.int .u8 a, .int .u8 b, .int .u8 c, .int .u8 d]) (.agg #[.int .u8 a, .int .u8 b, .int .u8 c, .int .u8 d])).run Try.prog W = .ok (.bool true) W := by
  obtain ⟨i0, hi, hz0, hz1, hz2⟩ := info_parts info5
  have h : (Op.equalIn 10000 34 (.agg #[.int .u8 a, .int .u8 b, .int .u8 c, .int .u8 d]) (.agg #[.int .u8 a, .int .u8 b, .int .u8 c, .int .u8 d])).run Try.prog W = .ok true W := by
    rw [run_equalIn_array (P := Try.prog) (w := W) 9999 _ _ Try.underlying34 hi, cells5]
    have e5 (x : Int) (W : World) : (Op.equalIn 9999 5 (.int .u8 x) (.int .u8 x)).run Try.prog W = .ok true W := by
      rw [run_equalIn_int (P := Try.prog) W 9998 5 .u8 .u8 x x Try.underlying5]; simp
    simp [List.range, List.range.loop, Op.eqItems, part, go_sem, e5]
  simp only [binOp]
  simp [Op.equal, Op.maxDepth, h]

theorem word_any (s : B32) (w : World) : Calls Try.prog 17 #[.int .u32 (I32 s)] w fun e w' => e = .returned (.agg #[.int .u8 (I32 s / 16777216), .int .u8 (I32 s / 65536 % 256), .int .u8 (I32 s / 256 % 256), .int .u8 (I32 s % 256)]) ∧ Below w.heap.size w w' := by
  have hb := I32.bd s
  go_enter Try.func17, Try.ntmps17
  go_wp2
  exact bodyPost_ret (v := .agg #[.int .u8 (I32 s / 16777216), .int .u8 (I32 s / 65536 % 256), .int .u8 (I32 s / 256 % 256), .int .u8 (I32 s % 256)]) (by simp [results, Try.results17, go_sem]) rfl ⟨rfl, (Below.refl _ _).alloc (Nat.le_refl _) _⟩

set_option maxHeartbeats 2000000 in
theorem walkSums (a0 : Option Addr) (len0 cap0 : Nat) (k : Nat) (s : B32) (a2 : Int) (w : World) (bs : List B8) (hlc : len0 ≤ cap0) (hcm : cap0 ≤ 9223372036854775807)
    (hr : Rd w w.heap.size a0 len0 bs) (hk : k ≤ len0) (ha2 : 0 ≤ a2 ∧ a2 ≤ 65535) (hmod : a2 % ((len0 : Int) + 1) = (k : Int)) :
    Calls Try.prog 7 #[.slice a0 len0 cap0, .int .u32 (I32 s), .int .u16 a2] w fun e w' => e = .returned (.bool true) ∧ Below w.heap.size w w' := by
  by_cases hlo : 5000 < len0
  · go_enter Try.func7, Try.ntmps7
    go_wp2_with (go_at_call 14; refine (awake3 _).mono ?_; rintro e w1 ⟨rfl, hb1⟩)
    go_ret
    exact ⟨rfl, hb1⟩
  go_enter Try.func7, Try.ntmps7
  go_wp2_with (first
    | (go_at_call 14; refine (awake3 _).mono ?_; rintro e w1 ⟨rfl, hb1⟩)
    | (go_at_call 17; refine (word_any _ _).mono ?_; rintro e w2 ⟨rfl, hb2⟩))
  have hb3 : Below w.heap.size w (w2.alloc (.cells #[.int .u8 (I32 s / 16777216), .int .u8 (I32 s / 65536 % 256), .int .u8 (I32 s / 256 % 256), .int .u8 (I32 s % 256)] 34)) := by
    have h2 := hb1.trans (hb2.mono hb1.size)
    exact h2.alloc h2.size _
  have hr3 := hr.below hb3
  have hlen : len0 ≤ 1000000 := by omega
  obtain ⟨i0, hi, hz0, hz1, hz2⟩ := info_parts info5
  obtain ⟨A2, hsl, hr4⟩ := slice_from 22 5 i0 Try.underlying22 hi hz1 hr3 hk hlc
  have hr5 := hr3.take hk
  have hkl : k ≤ 1000000 := by omega
  have hdl : len0 - k ≤ 1000000 := by omega
  have q1 : (I32 (more (sum (bs.take k)) (bs.drop k)) == I32 (sum bs)) = true := by
    have : more (sum (bs.take k)) (bs.drop k) = sum bs := by
      unfold sum; rw [← more_append, List.take_append_drop]
    rw [this]; simp
  have hbs := I32.bd s
  have e1 : IntKind.u8.wrap (I32 s / 16777216) = I32 s / 16777216 := IntWalk.u8_in _ (by omega)
  have e2 : IntKind.u8.wrap (I32 s / 65536) = I32 s / 65536 % 256 := IntKind.wrap_u8 _
  have e3 : IntKind.u8.wrap (I32 s / 256) = I32 s / 256 % 256 := IntKind.wrap_u8 _
  have e4 : IntKind.u8.wrap (I32 s) = I32 s % 256 := IntKind.wrap_u8 _
  have H3 := Lib.hid hr3
  have H4 := Lib.hid hr4
  have H5 := Lib.hid hr5
  have HB3 := Lib.hid hb3
  have hkc : k ≤ cap0 := by omega
  have harr := arr_eq (I32 s / 16777216) (I32 s / 65536 % 256) (I32 s / 256 % 256) (I32 s % 256)
  clear hr hr3 hr4 hr5 hb1 hb2 hb3 hmod
  go_quiet (first
    | (go_at_call 15; first | ((with_reducible exact quiet_left (sum_any _ _ _ _ _ _ (H3.out.drewN _) hlen))) | ((with_reducible exact quiet_left (sum_any _ _ _ _ _ _ (H5.out.drewN _) hkl))))
    | (go_at_call 18; ((with_reducible exact quiet_left (refSum_any _ _ _ _ _ _ (H3.out.drewN _) hlen))))
    | (go_at_call 19; ((with_reducible exact quiet_left (refMore_any _ _ _ _ _ _ _ (H3.out.drewN _) hlen))))
    | (go_at_call 16; first | ((with_reducible exact quiet_left (more_any _ _ _ _ _ _ _ (H4.out.drewN _) hdl))) | ((with_reducible exact quiet_left (more_any _ _ _ _ _ _ _ (H3.out.drewN _) hlen)))))
  go_wp2_with fail
  go_ret
  exact ⟨rfl, below_drewN HB3.out _⟩

end Go.Proofs.Ytbnhohnlbbkmoaa

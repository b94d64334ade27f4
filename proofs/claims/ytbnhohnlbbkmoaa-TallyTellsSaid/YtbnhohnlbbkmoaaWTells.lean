/- The walk of TallyTells. -/
import Derived.Test.YtbnhohnlbbkmoaaAw3
import Derived.Test.YtbnhohnlbbkmoaaMix
import Derived.WalkSpells
import Derived.Outline
namespace Go.Proofs.Ytbnhohnlbbkmoaa
open Go.RowKit
set_option linter.unusedVariables false

theorem mixFacts {bs : List B8} {k len cap g : Nat} {m : B32} {z : Int} {wr : World} {base : Nat} (hk : k + 4 ≤ len)
    (hown : wr.ownsRow base 5 1 (.slice (some ⟨g, 0, none⟩) len cap) len ((mixN bs k m z.toNat).map v8)) (hz : z.toNat < 4) :
    ∃ x, wr.cell? ⟨g, k + z.toNat, none⟩ = some (.int .u8 (I8 x)) ∧ wr.frozen? ⟨g, k + z.toNat, none⟩ = false ∧ Hid (mixN bs k m (z.toNat + 1) = (mixN bs k m z.toNat).set (k + z.toNat) (x ^^^ mb m z.toNat)) := by
  have hl : (mixN bs k m z.toNat).length = len := by have := hown.1; simpa using this
  obtain ⟨x, hx⟩ : ∃ x, (mixN bs k m z.toNat)[k + z.toNat]? = some x := ⟨_, List.getElem?_eq_getElem (by omega)⟩
  have hc := hown.cellAt (k + z.toNat) (by omega)
  rw [List.getElem?_map, hx] at hc
  exact ⟨x, hc, hown.frozenAt _, mixN_at bs k m z.toNat x hx⟩

theorem mb_val (m : B32) (j : Nat) : I8 (mb m j) = ((m.toNat / 2 ^ (8 * j) % 256 : Nat) : Int) := by
  unfold I8 mb
  rw [BitVec.toNat_setWidth, BitVec.toNat_ushiftRight, Nat.shiftRight_eq_div_pow]
theorem mb_0 (m : B32) : I32 m % 256 = I8 (mb m 0) := by rw [mb_val]; unfold I32; simp
theorem mb_1 (m : B32) : I32 m / 256 % 256 = I8 (mb m 1) := by rw [mb_val]; unfold I32; omega
theorem mb_2 (m : B32) : I32 m / 65536 % 256 = I8 (mb m 2) := by rw [mb_val]; unfold I32; omega
theorem mb_3 (m : B32) : I32 m / 16777216 % 256 = I8 (mb m 3) := by rw [mb_val]; unfold I32; omega
theorem mb_3b (m : B32) : I32 m / 16777216 = I8 (mb m 3) := by rw [← mb_3]; have := I32.bd m; omega

theorem mixStored {bs : List B8} {k len cap g j : Nat} {m : B32} {x : B8} {y : Int} {wr : World} {base : Nat}
    (hown : wr.ownsRow base 5 1 (.slice (some ⟨g, 0, none⟩) len cap) len ((mixN bs k m j).map v8)) (HX : Hid (mixN bs k m (j + 1) = (mixN bs k m j).set (k + j) (x ^^^ mb m j))) (hy : y = I8 (mb m j)) :
    (wr.setCell ⟨g, k + j, none⟩ (.int .u8 (bits .xor .u8 (I8 x) y))).ownsRow base 5 1 (.slice (some ⟨g, 0, none⟩) len cap) len ((mixN bs k m (j + 1)).map v8) := by
  subst hy
  rw [HX.out, List.map_set, xor8]
  exact (hown.stored (k + j) _).1

theorem walkTells (a0 : Option Addr) (len0 cap0 : Nat) (a1 : Int) (m : B32) (w : World) (bs : List B8) (hlc : len0 ≤ cap0) (hcm : cap0 ≤ 9223372036854775807) (hr : Rd w w.heap.size a0 len0 bs) (ha1 : 0 ≤ a1 ∧ a1 ≤ 65535) :
    Calls Try.prog 3 #[.slice a0 len0 cap0, .int .u16 a1, .int .u32 (I32 m)] w fun e w' => e = .returned (.bool true) ∧ Below w.heap.size w w' := by
  by_cases hlo : len0 < 4
  · go_enter Try.func3, Try.ntmps3
    go_wp2_with (go_at_call 14; refine (awake3 _).mono ?_; rintro e w1 ⟨rfl, hb1⟩)
    go_ret
    exact ⟨rfl, hb1⟩
  by_cases hhi : 4200 < len0
  · go_enter Try.func3, Try.ntmps3
    go_wp2_with (go_at_call 14; refine (awake3 _).mono ?_; rintro e w1 ⟨rfl, hb1⟩)
    go_ret
    exact ⟨rfl, hb1⟩
  cases hz : (I32 m == 0) with
  | true =>
    go_enter Try.func3, Try.ntmps3
    go_wp2_with (go_at_call 14; refine (awake3 _).mono ?_; rintro e w1 ⟨rfl, hb1⟩)
    go_ret
    exact ⟨rfl, hb1⟩
  | false =>
    obtain ⟨i0, hi, hz0, hz1, hz2⟩ := info_parts info5
    obtain ⟨k, hk⟩ : ∃ k : Nat, a1 % ((len0 : Int) - 3) = (k : Int) := Int.eq_ofNat_of_zero_le (Int.emod_nonneg _ (by omega))
    have hk2 : k + 4 ≤ len0 := by have := Int.emod_lt_of_pos a1 (show (0 : Int) < (len0 : Int) - 3 by omega); omega
    go_enter Try.func3, Try.ntmps3
    go_wp2_with (first
      | (go_at_call 14; refine (awake3 _).mono ?_; rintro e w1 ⟨rfl, hb1⟩)
      | (at_builtin
         go_must (refine wpList_append_any _ rfl (.tmp 24) (.tmp 25) 22 rfl w.heap.size 5 i0 (.int .u8 0) 1 1 Try.underlying22 hi hz0 hz1 hz2 rfl (by decide) _ 0 [] rfl (World.ownsRow_lit _ #[] 0 hb1.size (by unfold maxLen; omega) rfl) w.heap.size a0 len0 cap0 (bs.map v8) rfl ((hr.below hb1).alloc hb1.size _) (oneCell_v8 bs) (by unfold maxLen; omega) (by omega) (by simp; have := hb1.size; omega) ?_)
         intro v2 w2 hown2 hg2 hat2
         simp only [Nat.zero_add, List.nil_append] at hown2
         obtain ⟨g, cap2, rfl, hgb, hgl⟩ := hown2.form (by omega)
         have hb2 : Below w.heap.size w w2 := (hb1.alloc hb1.size _).grown hg2 (by simp; have := hb1.size; omega) (fun q hq => by injection (show some w1.heap.size = some q from hq) with hq; rw [← hq]; exact hb1.size)
         clear hat2 hg2))
    go_loopw [9] (fun i wr => ∃ z : Int, 0 ≤ z ∧ z ≤ 4 ∧ i = .int .i64 z ∧ wr.ownsRow w.heap.size 5 1 (.slice (some ⟨g, 0, none⟩) len0 cap2) len0 ((mixN bs k m z.toNat).map v8) ∧ Below w.heap.size w wr) (fun i _ => 4 - (intOf i).toNat)
    case atStart => exact ⟨0, by omega, by omega, rfl, hown2, hb2⟩
    case round =>
      obtain ⟨z, hz1, hz2, rfl, hown, hb⟩ := hrel
      by_cases hlt : z < 4
      · have hmd := I32.bd m
        have F := mixFacts (bs := bs) (k := k) (m := m) hk2 hown
        rcases (by omega : z = 0 ∨ z = 1 ∨ z = 2 ∨ z = 3) with rfl | rfl | rfl | rfl
        · obtain ⟨x, hc0, hf0, HX⟩ := F (by decide)
          have hc : wr.cell? ⟨g, k, none⟩ = some (.int .u8 (I8 x)) := hc0
          have hf : wr.frozen? ⟨g, k, none⟩ = false := hf0
          clear F hc0 hf0
          have hbd := I8.bd x
          go_wp2
          go_roundw
          case rel => exact ⟨1, by omega, by omega, rfl, mixStored (j := 0) hown HX (by first | exact mb_0 m | exact mb_3b m), hb.setCell (by exact hgb) _⟩
          case measure => simp [intOf]
        · obtain ⟨x, hc0, hf0, HX⟩ := F (by decide)
          have hc : wr.cell? ⟨g, k + 1, none⟩ = some (.int .u8 (I8 x)) := hc0
          have hf : wr.frozen? ⟨g, k + 1, none⟩ = false := hf0
          clear F hc0 hf0
          have hbd := I8.bd x
          go_wp2
          go_roundw
          case rel => exact ⟨2, by omega, by omega, rfl, mixStored (j := 1) hown HX (by first | exact mb_1 m | exact mb_3b m), hb.setCell (by exact hgb) _⟩
          case measure => simp [intOf]
        · obtain ⟨x, hc0, hf0, HX⟩ := F (by decide)
          have hc : wr.cell? ⟨g, k + 2, none⟩ = some (.int .u8 (I8 x)) := hc0
          have hf : wr.frozen? ⟨g, k + 2, none⟩ = false := hf0
          clear F hc0 hf0
          have hbd := I8.bd x
          go_wp2
          go_roundw
          case rel => exact ⟨3, by omega, by omega, rfl, mixStored (j := 2) hown HX (by first | exact mb_2 m | exact mb_3b m), hb.setCell (by exact hgb) _⟩
          case measure => simp [intOf]
        · obtain ⟨x, hc0, hf0, HX⟩ := F (by decide)
          have hc : wr.cell? ⟨g, k + 3, none⟩ = some (.int .u8 (I8 x)) := hc0
          have hf : wr.frozen? ⟨g, k + 3, none⟩ = false := hf0
          clear F hc0 hf0
          have hbd := I8.bd x
          go_wp2
          go_roundw
          case rel => exact ⟨4, by omega, by omega, rfl, mixStored (j := 3) hown HX (by first | exact mb_3 m | exact mb_3b m), hb.setCell (by exact hgb) _⟩
          case measure => simp [intOf]
      · obtain rfl : z = 4 := by omega
        have hne := Lib.hid (mix_tells 0#32 bs k m (by rw [hr.len]; omega) (by intro e; subst e; simp [I32] at hz))
        have hr2 := (Rd.of_own hown)
        have hr1 := hr.below hb
        have hxx : (I32 (sum bs) == I32 (sum (mixN bs k m 4))) = false := by
          rw [beq_eq_false_iff_ne]
          exact fun e => hne.out (I32.inj e)
        have hyy : (I32 (sum bs) != I32 (sum (mixN bs k m 4))) = true := by rw [bne, hxx]; rfl
        clear hne
        go_wp2_with fail
        refine (sum_any _ _ _ _ _ _ hr1 (by omega)).mono ?_
        rintro e w' ⟨rfl, rfl⟩
        go_wp2_with fail
        refine (sum_any _ _ _ _ _ _ hr2 (by omega)).mono ?_
        rintro e w' ⟨rfl, rfl⟩
        go_wp2_with fail
        go_ret
        exact ⟨rfl, hb⟩

end Go.Proofs.Ytbnhohnlbbkmoaa

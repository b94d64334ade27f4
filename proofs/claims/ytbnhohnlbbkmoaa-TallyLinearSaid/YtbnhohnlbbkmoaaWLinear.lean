/- The walk of TallyLinear. -/
import Derived.Test.YtbnhohnlbbkmoaaAw3
import Derived.Test.YtbnhohnlbbkmoaaMix
import Derived.WalkSpells
import Derived.Outline
import Derived.IntWalk
import Derived.Deep.RegionWith
namespace Go.Proofs.Ytbnhohnlbbkmoaa
open Go.RowKit
set_option linter.unusedVariables false

theorem add_at (g k : Nat) : (Addr.add ⟨g, 0, none⟩ k) = ⟨g, k, none⟩ := by
  unfold Addr.add; split <;> simp_all

set_option maxHeartbeats 2000000 in
theorem walkLinear (a0 : Option Addr) (len0 cap0 : Nat) (a1 : Option Addr) (len1 cap1 : Nat) (n : Nat) (w : World) (xs bs : List B8) (hlc : len0 ≤ cap0) (hcm : cap0 ≤ 9223372036854775807) (hlc1 : len1 ≤ cap1) (hcm1 : cap1 ≤ 9223372036854775807)
    (hr : Rd w w.heap.size a0 len0 xs) (hr1 : Rd w w.heap.size a1 len1 bs) (hn0 : n ≤ len0) (hn1 : n ≤ len1) (hmin : (if len1 < len0 then (len1 : Int) else (len0 : Int)) = (n : Int)) :
    Calls Try.prog 4 #[.slice a0 len0 cap0, .slice a1 len1 cap1] w fun e w' => e = .returned (.bool true) ∧ Below w.heap.size w w' := by
  by_cases hlo : 4000 < n
  · go_enter Try.func4, Try.ntmps4
    go_wp2_with (go_at_call 14; refine (awake3 _).mono ?_; rintro e w1 ⟨rfl, hb1⟩)
    go_ret
    exact ⟨rfl, hb1⟩
  obtain ⟨i0, hi, hz0, hz1, hz2⟩ := info_parts info5
  have hmk := make_zeros (P := Try.prog) 22 5 i0 Try.underlying22 hi hz0 hz1 hz2 n (by omega)
  go_enter Try.func4, Try.ntmps4
  go_wp2_with (go_at_call 14; refine (awake3 _).mono ?_; rintro e w1 ⟨rfl, hb1⟩)
  clear hmin hmk
  have hg1 := hb1.size
  have hown0 : (w1.alloc (.cells (zeros n) 5)).ownsRow w.heap.size 5 1 (.slice (some ⟨w1.heap.size, 0, none⟩) n n) n ((xto xs bs n 0).map v8) := by
    have := World.ownsRow_lit (base := w.heap.size) (e := 5) (size := 1) w1 (zeros n) n hb1.size (by unfold maxLen; omega) (by simp [zeros])
    simpa [zeros, xto] using this
  have hb2 : Below w.heap.size w (w1.alloc (.cells (zeros n) 5)) := hb1.alloc hb1.size _
  go_loopw [7] (fun i wr => ∃ k : Nat, k ≤ n ∧ i = .int .i64 k ∧ wr.ownsRow w.heap.size 5 1 (.slice (some ⟨w1.heap.size, 0, none⟩) n n) n ((xto xs bs n k).map v8) ∧ Below w.heap.size w wr) (fun i _ => n - (intOf i).toNat)
  case atStart => exact ⟨0, by omega, rfl, hown0, hb2⟩
  case round =>
    clear hown0 hb2
    obtain ⟨k, hk, rfl, hown, hb⟩ := hrel
    by_cases hlt : k < n
    · obtain ⟨ad, x, rfl, _, hx, hc⟩ := (hr.below hb).at_ (k := k) (by omega)
      obtain ⟨ad1, y, rfl, _, hy, hc1⟩ := (hr1.below hb).at_ (k := k) (by omega)
      have HX := Lib.hid hx
      have HY := Lib.hid hy
      clear hx hy
      obtain ⟨v0, hc2⟩ : ∃ v0, wr.cell? ⟨w1.heap.size, k, none⟩ = some v0 := by
        have := hown.cellAt k (by omega)
        rw [List.getElem?_eq_getElem (by simp [xto_length]; omega)] at this
        exact ⟨_, this⟩
      have hf := hown.frozenAt k
      go_wp2
      go_region
      go_wp2
      go_roundw
      case rel =>
        refine ⟨k + 1, by omega, by go_num, ?_, (hb.setCell (by exact hg1) _).drew⟩
        have hset : (xto xs bs n (k + 1)) = (xto xs bs n k).set k (x ^^^ y) := by
          simp only [xto]
          rw [List.getD, List.getD, HX.out, HY.out]; rfl
        rw [hset, List.map_set]
        have := (hown.stored k (v8 (x ^^^ y))).1
        rw [show v8 (x ^^^ y) = .int .u8 (bits .xor .u8 (I8 x) (I8 y)) from by rw [xor8]; rfl] at this ⊢
        exact this.drew
      case measure => simp [intOf]; omega
    · obtain rfl : k = n := by omega
      have hkk : k ≤ 1000000 := by omega
      have t0 := (hr.below hb).take hn0
      have t1 := (hr1.below hb).take hn1
      have t2 := Rd.of_own hown
      have hfin : (bits .xor .u32 (I32 (sum (xs.take k))) (I32 (sum (bs.take k))) == bits .xor .u32 (I32 (sum (xto xs bs k k))) (I32 (sum (List.replicate k 0#8)))) = true := by
        rw [xor32, xor32, xto_all xs bs k (by rw [hr.len]; exact hn0) (by rw [hr1.len]; exact hn1)]
        have h := more_linear (xs.take k) (bs.take k) (by rw [t0.len, t1.len])
        rw [t0.len] at h
        unfold sum
        rw [h]; simp
      have HF := Lib.hid hfin
      clear hfin
      have bz := hb.alloc hb.size (.cells (zeros k) 5)
      have T0 := Lib.hid t0.drew
      have T1 := Lib.hid t1.drew
      have T2 := Lib.hid t2.drew
      have U0 := Lib.hid (t0.alloc hb.size (.cells (zeros k) 5)).drew
      have U1 := Lib.hid (t1.alloc hb.size (.cells (zeros k) 5)).drew
      have U2 := Lib.hid (t2.alloc (Nat.le_refl _) (.cells (zeros k) 5)).drew
      have u3 : (wr.alloc (.cells (zeros k) 5)).drew.heap[wr.heap.size]? = some (.cells (zeros k) 5 (0, 0)) := at_new wr (.cells (zeros k) 5) _ rfl
      have U3 := Lib.hid u3
      clear u3
      have BZ := Lib.hid bz.drew
      have hmk := make_zeros (P := Try.prog) 22 5 i0 Try.underlying22 hi hz0 hz1 hz2 k hkk
      have c0 : k ≤ cap0 := by omega
      have c1 : k ≤ cap1 := by omega
      clear t0 t1 t2 bz hown hb hr hr1
      go_wp2_with fail
      go_region_with (go_at_call 15; (first
        | ((with_reducible refine (sum_any _ _ _ _ _ _ T0.out hkk).mono ?_))
        | ((with_reducible refine (sum_any _ _ _ _ _ _ T1.out hkk).mono ?_))
        | ((with_reducible refine (sum_any _ _ _ _ _ _ T2.out hkk).mono ?_))
        | ((with_reducible refine (sum_any _ _ _ _ _ _ U0.out hkk).mono ?_))
        | ((with_reducible refine (sum_any _ _ _ _ _ _ U1.out hkk).mono ?_))
        | ((with_reducible refine (sum_any _ _ _ _ _ _ U2.out hkk).mono ?_))
        | ((with_reducible refine (sum_zeros _ _ _ U3.out hkk).mono ?_))); rintro e w' ⟨rfl, rfl⟩)
      all_goals
        go_wp2_with fail
        go_ret
        exact ⟨congrArg (fun b => Ending.returned (.bool b)) HF.out, BZ.out⟩

end Go.Proofs.Ytbnhohnlbbkmoaa

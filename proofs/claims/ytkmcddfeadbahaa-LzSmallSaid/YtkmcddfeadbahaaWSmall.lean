/- The walk of LzSmall. -/
import Derived.Test.YtkmcddfeadbahaaAw6
namespace Go.Proofs.Ytkmcddfeadbahaa
open Go.RowKit
set_option linter.unusedVariables false

/-- A row that is filled up to a place. -/
def filled (x : B8) (n k : Nat) : List B8 := List.replicate k x ++ List.replicate (n - k) 0#8
theorem filled_length (x : B8) {n k : Nat} (h : k ≤ n) : (filled x n k).length = n := by unfold filled; simp; omega
theorem filled_set (x : B8) {n k : Nat} (h : k < n) : (filled x n k).set k x = filled x n (k + 1) := by
  unfold filled
  obtain ⟨m, hm⟩ : ∃ m, n - k = m + 1 := ⟨n - k - 1, by omega⟩
  rw [hm, show n - (k + 1) = m by omega, List.set_append_right _ _ (by simp), List.length_replicate, Nat.sub_self, List.replicate_succ (n := m), List.set_cons_zero, List.replicate_succ', List.append_assoc]
  rfl
theorem filled_all (x : B8) (n : Nat) : filled x n n = List.replicate n x := by unfold filled; simp

set_option maxRecDepth 100000 in
theorem walkSmall (x : B8) (y : Int) (hy0 : 0 ≤ y) (hy1 : y ≤ 65535) (w : World) :
    Calls Try.prog 7 #[.int .u8 (I8 x), .int .u16 y] w fun e w' => e = .returned (.bool true) ∧ Below w.heap.size w w' := by
  obtain ⟨i0, hi, hz0, hz1, hz2⟩ := info_parts info5
  obtain ⟨n, hn⟩ : ∃ n : Nat, n = 64 + (y % 4033).toNat := ⟨_, rfl⟩
  have hnI : 64 + y % 4033 = (n : Int) := by omega
  have hrm : y.tmod 4033 = y % 4033 := Int.tmod_eq_emod_of_nonneg hy0
  have hlo : 64 ≤ n := by omega
  have hhi : n ≤ 4096 := by omega
  have hmk := make_zeros (P := Try.prog) 22 5 i0 Try.underlying22 hi hz0 hz1 hz2 n (by omega)
  have HN := Lib.hid hn
  have HLO := Lib.hid hlo
  have HHI := Lib.hid hhi
  clear hn hlo hhi
  go_enter Try.func7, Try.ntmps7
  go_wp2_with (go_at_call 10; refine (awake6 _).mono ?_; rintro e w1 ⟨rfl, hb1⟩)
  have hg1 := hb1.size
  have hown0 : (w1.alloc (.cells (zeros n) 5)).ownsRow w.heap.size 5 1 (.slice (some ⟨w1.heap.size, 0, none⟩) n n) n ((filled x n 0).map v8) := by
    have := World.ownsRow_lit (base := w.heap.size) (e := 5) (size := 1) w1 (zeros n) n hb1.size (by have := HHI.out; unfold maxLen; omega) (by simp [zeros])
    simpa [zeros, filled] using this
  have hb2 : Below w.heap.size w (w1.alloc (.cells (zeros n) 5)) := hb1.alloc hb1.size _
  clear hmk hb1
  go_loopw [7] (fun i wr => ∃ k : Nat, k ≤ n ∧ i = .int .i64 k ∧ wr.ownsRow w.heap.size 5 1 (.slice (some ⟨w1.heap.size, 0, none⟩) n n) n ((filled x n k).map v8) ∧ Below w.heap.size w wr) (fun i _ => n - (intOf i).toNat)
  case atStart => exact ⟨0, by omega, rfl, hown0, hb2⟩
  case round =>
    clear hown0 hb2
    obtain ⟨k, hk, rfl, hown, hb⟩ := hrel
    have hhi := HHI.out
    by_cases hlt : k < n
    · have hltI : (k : Int) < (n : Int) := by omega
      obtain ⟨v0, hc2⟩ : ∃ v0, wr.cell? ⟨w1.heap.size, k, none⟩ = some v0 := by
        have := hown.cellAt k (by omega)
        rw [List.getElem?_eq_getElem (by rw [List.length_map, filled_length x hk]; omega)] at this
        exact ⟨_, this⟩
      have hf := hown.frozenAt k
      go_wp2
      refine ⟨⟨k + 1, hlt, by congr 1, ?_, hb.setCell hg1 _⟩, ?_⟩
      · rw [← filled_set x hlt, List.map_set]
        exact (hown.stored k (v8 x)).1
      · simp [intOf]; omega
    · obtain rfl : k = n := by omega
      rw [filled_all] at hown
      have hrd := Rd.of_own hown
      have HB := Lib.hid hb
      have RX := Lib.hid hrd
      have P := Lib.hid (pack_in _ k k _ wr hrd (Nat.le_refl _) hhi)
      have PR := Lib.hid (pack_row x k HLO.out hhi)
      have SP := Lib.hid (says_pack (List.replicate k x) (k : Int) (by simpa using hhi) (by simp))
      have PL := Lib.hid (pack_length (List.replicate k x) (by simpa using hhi))
      generalize hX : List.replicate k x = X at *
      generalize hL : (pack X).length = L at *
      have hXl : X.length = k := by rw [← hX]; simp
      rw [hXl] at PL
      clear hown hrd hb hhi
      go_wp2_with fail
      refine P.out.mono ?_
      rintro e w3 ⟨A3, c3, rfl, hr3, hb3, hc3⟩
      have hL2 : L ≤ 1000000 := by have := PL.out; have := HHI.out; omega
      have U := Lib.hid (ref_any A3 L c3 (pack X) w3 hr3 hc3 hL2 (k : Int))
      have RX3 := Lib.hid ((RX.out.below hb3).more hb3.size)
      have HB3 := Lib.hid (HB.out.trans (hb3.mono HB.out.size))
      have HLL := Lib.hid hL
      have HX := Lib.hid hX
      clear hr3 hb3 hL2 hL hX
      go_wp2_with fail
      refine U.out.mono fun e w4 h => ?_
      obtain ⟨A4, c4, rfl, hc4, hr4, hb4⟩ := unpacked_good SP.out h
      rw [hXl] at hr4 ⊢
      have s4 := conv_str (P := Try.prog) 22 9 5 (c := c4) Try.underlying22 Try.underlying5 Try.underlying9 hr4
      have s0 := conv_str (P := Try.prog) 22 9 5 (c := k) Try.underlying22 Try.underlying5 Try.underlying9 (RX3.out.below hb4)
      have hle : (L : Int) ≤ (k : Int) / 4 + 16 := by have := PR.out; omega
      have HB4 := Lib.hid (HB3.out.trans (hb4.mono HB3.out.size))
      generalize strOf X = D at *
      clear h hr4 hb4 hXl
      go_wp2_with fail
      go_ret
      exact ⟨rfl, HB4.out⟩
end Go.Proofs.Ytkmcddfeadbahaa

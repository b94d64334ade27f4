/- The contract of the document's Blank. -/
import Derived.Test.YthhgmanoifpoiaaCrR
namespace Go.Proofs.Ythhgmanoifpoiaa
open Go.RowKit
set_option linter.unusedVariables false

theorem take_noughts {bs : List B8} {j : Nat} {b : B8} (h : bs[j]? = some b) (h0 : bs.take j = List.replicate j 0#8) (hb : b = 0#8) : bs.take (j + 1) = List.replicate (j + 1) 0#8 := by
  rw [List.take_add_one, h, h0, hb, List.replicate_succ']; rfl
theorem not_noughts {bs : List B8} {j : Nat} {b : B8} (h : bs[j]? = some b) (hb : ¬ b = 0#8) : blankB bs = false := by
  apply decide_eq_false
  intro e
  rw [e] at h
  have := List.mem_of_getElem? h
  exact hb (List.eq_of_mem_replicate this)

set_option maxHeartbeats 2000000 in
theorem refBlank_any (A : Option Addr) (n c : Nat) (bs : List B8) (B : Nat) (w : World) (hr : Rd w B A n bs) (hn : n ≤ 1000000) :
    Calls Try.prog 36 #[.slice A n c] w fun e w' => e = .returned (.bool (blankB bs)) ∧ w = w' := by
  have hl := hr.len
  go_enter Try.func36, Try.ntmps36
  go_wp2
  go_loop [3] (fun i => ∃ j : Nat, j ≤ n ∧ i = .int .i64 (j : Int) ∧ bs.take j = List.replicate j 0#8) (fun i => n - (intOf i).toNat)
  case atStart => exact ⟨0, by omega, rfl, rfl⟩
  case round =>
    obtain ⟨j, hj, rfl, hz⟩ := hrel
    have HZ := Lib.hid hz
    clear hz
    by_cases hlt : j < n
    · obtain ⟨ad, b, rfl, _, hb, hc⟩ := hr.at_ hlt
      have hltI : (j : Int) < (n : Int) := by omega
      have hb0 := ne_lit b 0#8
      rw [show I8 (0#8) = 0 from rfl] at hb0
      have HB := Lib.hid hb
      clear hb
      rcases tf (decide (b = 0#8)) with h | h <;> rw [h] at hb0
      · have HD := Lib.hid (of_decide_eq_true h)
        clear h
        simp only [Bool.not_true] at hb0
        go_wp2_with fail
        exact ⟨⟨j + 1, by omega, rfl, take_noughts HB.out HZ.out HD.out⟩, by simp only [intOf]; omega⟩
      · have HD := Lib.hid (not_noughts HB.out (of_decide_eq_false h))
        clear h
        simp only [Bool.not_false] at hb0
        go_wp2_with fail
        go_ret
        exact ⟨by rw [HD.out]; rfl, rfl⟩
    · obtain rfl : j = n := by omega
      have hltI : ¬ (j : Int) < (j : Int) := by omega
      have HV : Hid (blankB bs = decide (j = 64)) := by
        have := HZ.out
        rw [List.take_of_length_le (by omega)] at this
        show decide _ = _
        rw [this, decide_eq_decide]
        constructor
        · intro e; have := congrArg List.length e; simpa using this
        · rintro rfl; rfl
      rcases tf (decide (j = 64)) with h | h
      · have h1 := of_decide_eq_true h
        subst h1
        have HW := Lib.hid (HV.out.trans h)
        clear h HV
        go_wp2_with fail
        go_ret
        exact ⟨by rw [HW.out]; rfl, rfl⟩
      · have h1 : ((j : Int) == 64) = false := by rw [beq_eq_false_iff_ne]; have := of_decide_eq_false h; omega
        have HW := Lib.hid (HV.out.trans h)
        clear h HV
        go_wp2_with fail
        go_ret
        exact ⟨by rw [HW.out]; rfl, rfl⟩
end Go.Proofs.Ythhgmanoifpoiaa

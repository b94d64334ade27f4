/- Contract of the document's Size. -/
import Derived.Test.YtbnhohnlbbkmoaaOpenS
namespace Go.Proofs.Ytbnhohnlbbkmoaa
open Go.RowKit
set_option linter.unusedVariables false

set_option maxHeartbeats 1000000 in
theorem refSize_any (A : Option Addr) (n c : Nat) (bs : List B8) (w : World) (hr : Rd w w.heap.size A n bs) (hc : n ≤ c) (hn : n ≤ 1000000) :
    Calls Try.prog 28 #[.slice A n c] w fun e w' => e = .returned (.tuple #[.int .i64 (sizeS bs), .int .i64 (headE bs)]) ∧ ∃ nq, w' = w.drewN nq := by
  have hl := hr.len
  by_cases h16 : n < 16
  · have e1 : headE bs = 2 := by unfold headE; rw [if_pos (by omega)]
    have e2 : sizeS bs = 0 := by unfold sizeS; rw [e1]; rfl
    rw [e1, e2]
    clear hl e1 e2
    go_enter Try.func28, Try.ntmps28
    go_wp2
    go_ret2
    exact ⟨rfl, 0, rfl⟩
  obtain ⟨ad, b0, rfl, _, e0, c0⟩ := hr.at_ (k := 0) (by omega)
  obtain ⟨_, b1, e, _, e1, c1⟩ := hr.at_ (k := 1) (by omega)
  injection e with e; subst e
  obtain ⟨_, b3, e, _, e3, c3⟩ := hr.at_ (k := 3) (by omega)
  injection e with e; subst e
  have N8 : Hid (Calls Try.prog 36 #[.slice (some ad) n c, .int .i64 8] w fun e w' => e = .returned (.int .i64 (numAt bs 8)) ∧ ∃ m, w' = w.drewN m) :=
    get_8 _ n c bs _ _ _ _ _ w hr (by omega) (take4 (b := bs) (o := 8) (by omega))
  have N4 : ∀ nq : Nat, Hid (Calls Try.prog 36 #[.slice (some ad) n c, .int .i64 4] (w.drewN nq) fun e w' => e = .returned (.int .i64 (numAt bs 4)) ∧ ∃ m, w' = (w.drewN nq).drewN m) :=
    fun nq => get_4 _ n c bs _ _ _ _ _ (w.drewN nq) (hr.drewN nq) (by omega) (take4 (b := bs) (o := 4) (by omega))
  rw [bt_at (by omega)] at e0 e1 e3
  injection e0 with e0
  injection e1 with e1
  injection e3 with e3
  have d8 := numAt_bd bs 8
  have d4 := numAt_bd bs 4
  have u0 := I8.bd b0
  have u1 := I8.bd b1
  have u3 := I8.bd b3
  simp only [Addr.add, show ¬ (1 : Nat) = 0 by decide, show ¬ (3 : Nat) = 0 by decide, if_false, if_true] at c0 c1 c3
  have i0' : 0 < n := by omega
  have i1' : (1 : Int) < (n : Int) := by omega
  have i3' : (3 : Int) < (n : Int) := by omega
  have HE : Hid (headE bs = if I8 b0 ≠ 197 ∨ I8 b1 ≠ 126 ∨ I8 b3 ≠ 0 ∨ 4096 < numAt bs 8 ∨ 2147483647 < numAt bs 4 then 4 else 0) := by
    show _ = _
    unfold headE
    rw [if_neg (by omega), e0, e1, e3]
  have HM : Hid (sizeS bs = if headE bs = 0 then ((blocksN (numAt bs 8).toNat : Nat) : Int) else 0) := rfl
  clear hl e0 e1 e3 hr
  generalize headE bs = E at *
  generalize sizeS bs = M at *
  generalize numAt bs 8 = m8 at *
  generalize numAt bs 4 = m4 at *
  have fin4 : (I8 b0 ≠ 197 ∨ I8 b1 ≠ 126 ∨ I8 b3 ≠ 0 ∨ 4096 < m8 ∨ 2147483647 < m4) → E = 4 ∧ M = 0 := by
    intro h
    have h1 : E = 4 := by rw [HE.out, if_pos h]
    exact ⟨h1, by rw [HM.out, h1]; rfl⟩
  have fin0 : ¬ (I8 b0 ≠ 197 ∨ I8 b1 ≠ 126 ∨ I8 b3 ≠ 0 ∨ 4096 < m8 ∨ 2147483647 < m4) → E = 0 ∧ M = ((blocksN m8.toNat : Nat) : Int) := by
    intro h
    have h1 : E = 0 := by rw [HE.out, if_neg h]
    exact ⟨h1, by rw [HM.out, h1]; rfl⟩
  clear HE HM
  by_cases t0 : I8 b0 = 197
  · obtain ⟨f0, g0⟩ := beq_yes t0
    by_cases t1 : I8 b1 = 126
    · obtain ⟨f1, g1⟩ := beq_yes t1
      by_cases t3 : I8 b3 = 0
      · obtain ⟨f3, g3⟩ := beq_yes t3
        by_cases t8 : 4096 < m8
        · obtain ⟨rfl, rfl⟩ := fin4 (by omega)
          clear fin4 fin0 t0 t1 t3
          go_enter Try.func28, Try.ntmps28
          go_wp2_with fail
          refine N8.out.mono ?_
          rintro e w' ⟨rfl, nq, rfl⟩
          go_wp2_with fail
          go_ret2
          exact ⟨rfl, nq, by simp⟩
        · by_cases t4 : 2147483647 < m4
          · obtain ⟨rfl, rfl⟩ := fin4 (by omega)
            clear fin4 fin0 t0 t1 t3
            go_enter Try.func28, Try.ntmps28
            go_wp2_with fail
            refine N8.out.mono ?_
            rintro e w' ⟨rfl, nq, rfl⟩
            go_wp2_with fail
            refine (N4 nq).out.mono ?_
            rintro e w' ⟨rfl, nq2, rfl⟩
            go_wp2_with fail
            go_ret2
            exact ⟨rfl, nq + nq2, by simp⟩
          · obtain ⟨rfl, hM⟩ := fin0 (by omega)
            have RB : ∀ W, Hid (Calls Try.prog 25 #[.int .i64 m8] W fun e w' => e = .returned (.int .i64 M) ∧ W = w') := fun W => by
              have := refBlocks_any m8 W
              rw [if_pos ⟨by omega, by omega⟩, ← hM] at this
              exact this
            clear hM
            clear fin4 fin0 t0 t1 t3
            go_enter Try.func28, Try.ntmps28
            go_wp2_with fail
            refine N8.out.mono ?_
            rintro e w' ⟨rfl, nq, rfl⟩
            go_wp2_with fail
            refine (N4 nq).out.mono ?_
            rintro e w' ⟨rfl, nq2, rfl⟩
            go_wp2_with (go_at_call 25; refine (RB _).out.mono ?_; rintro e w' ⟨rfl, rfl⟩)
            go_ret2
            exact ⟨rfl, nq + nq2, by simp⟩
      · obtain ⟨rfl, rfl⟩ := fin4 (by omega)
        obtain ⟨f3, g3⟩ := beq_no t3
        clear fin4 fin0 t0 t1 t3
        go_enter Try.func28, Try.ntmps28
        go_wp2_with fail
        refine N8.out.mono ?_
        rintro e w' ⟨rfl, nq, rfl⟩
        go_wp2_with fail
        go_ret2
        exact ⟨rfl, nq, by simp⟩
    · obtain ⟨rfl, rfl⟩ := fin4 (by omega)
      obtain ⟨f1, g1⟩ := beq_no t1
      clear fin4 fin0 t0 t1
      go_enter Try.func28, Try.ntmps28
      go_wp2_with fail
      refine N8.out.mono ?_
      rintro e w' ⟨rfl, nq, rfl⟩
      go_wp2_with fail
      go_ret2
      exact ⟨rfl, nq, by simp⟩
  · obtain ⟨rfl, rfl⟩ := fin4 (by omega)
    obtain ⟨f0, g0⟩ := beq_no t0
    clear fin4 fin0 t0
    go_enter Try.func28, Try.ntmps28
    go_wp2_with fail
    refine N8.out.mono ?_
    rintro e w' ⟨rfl, nq, rfl⟩
    go_wp2_with fail
    go_ret2
    exact ⟨rfl, nq, by simp⟩

end Go.Proofs.Ytbnhohnlbbkmoaa

/- Contract of lz.alike. -/
import Derived.Test.YtkmcddfeadbahaaRfA
import Derived.IntWalk
import Derived.Deep.QuietTactic
import Derived.BigQuiet
namespace Go.Proofs.Ytkmcddfeadbahaa
open Go.RowKit
set_option linter.unusedVariables false

theorem alike_any (A : Option Addr) (n c : Nat) (bs : List B8) (B : Nat) (w : World) (hr : Rd w B A n bs) (hn : n ≤ 1000000) (i k e : Nat) (zi zk ze : Int) (hzi : zi = (i : Int)) (hzk : zk = (k : Int)) (hze : ze = (e : Int)) (hik : i ≤ k) (hke : k ≤ e) (hen : e ≤ n) :
    Calls Try.prog 19 #[.slice A n c, .int .i64 zi, .int .i64 zk, .int .i64 ze] w fun x w' => x = .returned (.int .i64 ((alike bs i k e : Nat) : Int)) ∧ ∃ nq, w' = w.drewN nq := by
  subst hzi hzk hze
  have HR := Lib.hid hr
  have HL := Lib.hid hr.len
  obtain ⟨U, hU⟩ : ∃ U, U = alike bs i k e := ⟨_, rfl⟩
  rw [← hU]
  have HU := Lib.hid hU
  clear hU hr
  go_enter Try.func19, Try.ntmps19
  go_wp2_with fail
  go_loopw [9] (fun m wr => ∃ j : Nat, m = .int .i64 (j : Int) ∧ k + j ≤ e ∧ al bs i k j (e - k - j) = U ∧ ∃ nq, wr = w.drewN nq) (fun m _ => e - k - (intOf m).toNat)
  case atStart => exact ⟨0, rfl, hke, HU.out.symm, 0, rfl⟩
  case round =>
    obtain ⟨j, rfl, hj, ha, nq, rfl⟩ := hrel
    obtain ⟨kj, hkj⟩ : ∃ kj, kj = k + j := ⟨_, rfl⟩
    obtain ⟨ij, hij⟩ : ∃ ij, ij = i + j := ⟨_, rfl⟩
    have hkI : (k : Int) + (j : Int) = (kj : Int) := by omega
    have hiI : (i : Int) + (j : Int) = (ij : Int) := by omega
    have hjb : j ≤ 1000000 := by omega
    by_cases hlt : kj < e
    · have hltI : (kj : Int) < (e : Int) := by omega
      obtain ⟨ad, rfl, hx⟩ := rd_bt HR.out (a := ij) (by omega)
      obtain ⟨_, e1, hy⟩ := rd_bt HR.out (a := kj) (by omega)
      injection e1 with e1; subst e1
      have hsp : e - k - j = (e - k - (j + 1)) + 1 := by omega
      rw [hsp, al, ← hij, ← hkj] at ha
      have i1 : (ij : Int) < (n : Int) := by omega
      have i2 : (kj : Int) < (n : Int) := by omega
      by_cases hxy : bt bs ij = bt bs kj
      · have hb : (I8 (bt bs ij) == I8 (bt bs kj)) = true := by rw [hxy]; exact beq_self_eq_true _
        rw [if_pos hxy] at ha
        have HA := Lib.hid ha
        have HKJ := Lib.hid hkj
        have HLT := Lib.hid hlt
        generalize bt bs ij = x at *
        generalize bt bs kj = y at *
        clear ha hxy hkj hij hsp hj hlt
        go_wp2_with fail
        go_quiet (fail)
        go_wp2_with fail
        have hkj := HKJ.out
        have hlt := HLT.out
        refine ⟨⟨j + 1, rfl, by omega, HA.out, _, rfl⟩, ?_⟩
        show e - k - ((j + 1 : Nat) : Int).toNat < e - k - ((j : Nat) : Int).toNat
        rw [Int.toNat_natCast, Int.toNat_natCast]
        omega
      · have hb : (I8 (bt bs ij) == I8 (bt bs kj)) = false := by rw [beq_eq_false_iff_ne]; exact fun h => hxy (I8.inj h)
        rw [if_neg hxy] at ha
        have HA := Lib.hid ha
        have HKJ := Lib.hid hkj
        have HLT := Lib.hid hlt
        generalize bt bs ij = x at *
        generalize bt bs kj = y at *
        clear ha hxy hkj hij hsp hj hlt
        go_wp2_with fail
        go_quiet (fail)
        go_wp2_with fail
        go_ret
        exact ⟨by rw [HA.out]; rfl, _, World.drewN_drewN _ _ _⟩
    · rw [show e - k - j = 0 by omega, al] at ha
      have HA := Lib.hid ha
      have hke2 : (k : Int) + (j : Int) = (e : Int) := by omega
      have hltI : decide ((e : Int) < (e : Int)) = false := by rw [decide_eq_false_iff_not]; omega
      clear ha hkj hij hj hlt hkI
      go_wp2_with fail
      go_quiet (fail)
      go_wp2_with fail
      go_ret
      exact ⟨by rw [HA.out]; rfl, _, World.drewN_drewN _ _ _⟩
end Go.Proofs.Ytkmcddfeadbahaa

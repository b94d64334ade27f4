/- Contracts of leaf.Size and leaf.Open. -/
import Derived.Test.YtbnhohnlbbkmoaaHead
import Derived.Deep.QuietTactic
namespace Go.Proofs.Ytbnhohnlbbkmoaa
open Go.RowKit
set_option linter.unusedVariables false

def manyN (b : List B8) : Nat := (numAt b 8).toNat
/-- What is wrong with a frame. -/
def openE (b : List B8) (kind : B8) : Int :=
  if headE b ≠ 0 then headE b
  else if 64 * blocksN (manyN b) < b.length then 3
  else if b.length < 64 * blocksN (manyN b) then 2
  else if numAt b 12 ≠ I32 (more (sum (b.take 12)) ((b.drop 16).take (manyN b))) ∨ b.drop (16 + manyN b) ≠ List.replicate (b.length - (16 + manyN b)) 0#8 then 5
  else if I8 (bt b 2) ≠ I8 kind then 4 else 0
def openG (b : List B8) (kind : B8) : Int := if openE b kind = 0 then numAt b 4 else 0
def openD (b : List B8) (kind : B8) : List B8 := if openE b kind = 0 then (b.drop 16).take (manyN b) else []

theorem headE_ok {b : List B8} (h : headE b = 0) : 16 ≤ b.length ∧ I8 (bt b 0) = 197 ∧ I8 (bt b 1) = 126 ∧ I8 (bt b 3) = 0 ∧ numAt b 8 ≤ 4096 ∧ numAt b 4 ≤ 2147483647 := by
  unfold headE at h
  by_cases h16 : b.length < 16
  · rw [if_pos h16] at h; exact absurd h (by decide)
  · rw [if_neg h16] at h
    by_cases h2 : I8 (bt b 0) ≠ 197 ∨ I8 (bt b 1) ≠ 126 ∨ I8 (bt b 3) ≠ 0 ∨ 4096 < numAt b 8 ∨ 2147483647 < numAt b 4
    · rw [if_pos h2] at h; exact absurd h (by decide)
    · refine ⟨by omega, by omega, by omega, by omega, by omega, by omega⟩

theorem blocks_ok' (n : Nat) (w : World) (hn : n ≤ 4096) : Calls Try.prog 23 #[.int .i64 (n : Int)] w fun e w' => e = .returned (.int .i64 ((blocksN n : Nat) : Int)) ∧ w = w' := by
  have := blocks_any (n : Int) w
  rw [if_pos ⟨by omega, by omega⟩] at this
  exact this

/-- How many blocks the whole has, as Size tells. -/
def sizeS (b : List B8) : Int := if headE b = 0 then ((blocksN (manyN b) : Nat) : Int) else 0

theorem size_any (A : Option Addr) (n c : Nat) (bs : List B8) (w : World) (hr : Rd w w.heap.size A n bs) (hc : n ≤ c) (hn : n ≤ 1000000) :
    Calls Try.prog 26 #[.slice A n c] w fun e w' => e = .returned (.tuple #[.int .i64 (sizeS bs), .int .i64 (headE bs)]) ∧ ∃ nq, w' = w.drewN nq := by
  have H := Lib.hid (head_any A n c bs w hr hc hn)
  by_cases h0 : headE bs = 0
  · have hm : headM bs = ((manyN bs : Nat) : Int) := by
      unfold headM manyN
      rw [if_pos h0]
      have := numAt_bd bs 8
      omega
    have hle : manyN bs ≤ 4096 := by have := (headE_ok h0).2.2.2.2.1; unfold manyN; omega
    have hs : sizeS bs = ((blocksN (manyN bs) : Nat) : Int) := by unfold sizeS; rw [if_pos h0]
    rw [hm, h0] at H
    rw [hs, h0]
    generalize manyN bs = m at *
    clear hm hs h0 hr
    go_enter Try.func26, Try.ntmps26
    go_wp2_with fail
    refine H.out.mono ?_
    rintro e w' ⟨rfl, nq, rfl⟩
    go_wp2_with (go_at_call 23; refine (blocks_ok' m _ hle).mono ?_; rintro e w' ⟨rfl, rfl⟩)
    go_ret2
    exact ⟨rfl, nq, rfl⟩
  · have hs : sizeS bs = 0 := by unfold sizeS; rw [if_neg h0]
    rw [hs]
    have hb := (beq_no h0).1
    have hb2 := (beq_no h0).2
    clear h0 hs hr
    generalize headE bs = E at *
    generalize headM bs = M at *
    go_enter Try.func26, Try.ntmps26
    go_wp2_with fail
    refine H.out.mono ?_
    rintro e w' ⟨rfl, nq, rfl⟩
    go_wp2_with fail
    go_ret2
    exact ⟨rfl, nq, rfl⟩

end Go.Proofs.Ytbnhohnlbbkmoaa

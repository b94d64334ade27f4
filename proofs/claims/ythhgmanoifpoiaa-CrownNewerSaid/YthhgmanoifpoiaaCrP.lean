/- The plain law of a crown's block. -/
import Derived.Test.YthhgmanoifpoiaaCrT
namespace Go.Proofs.Ythhgmanoifpoiaa
open Go.RowKit
set_option linter.unusedVariables false

/-- Numbers laid one behind another from the third byte on, the first k of them. -/
def layK (L : List B8) (xs : List Nat) : Nat → List B8
  | 0 => L
  | k + 1 => putN (layK L xs k) (2 + 4 * k) (xs.getD k 0) 4
theorem layK_length (L : List B8) (xs : List Nat) (k : Nat) : (layK L xs k).length = L.length := by
  induction k with
  | zero => rfl
  | succ k ih => rw [layK, putN_length, ih]
def le8 (x : Nat) : List B8 := [nb x 0, nb x 1, nb x 2, nb x 3, nb x 4, nb x 5, nb x 6, nb x 7]
/-- A crown's block but for the sum. -/
def body (g b s a n k h f : Nat) : List B8 :=
  [0xc0#8, 0x9e#8] ++ (le4 g ++ (le4 b ++ (le4 s ++ (le4 a ++ (le4 n ++ (le4 k ++ (le4 h ++ (le8 f ++ List.replicate 22 0#8))))))))
def crownL (g b s a n k h f : Nat) : List B8 := body g b s a n k h f ++ le4 (sum (body g b s a n k h f)).toNat
theorem body_length (g b s a n k h f : Nat) : (body g b s a n k h f).length = 60 := by kernel_rfl
theorem crownL_length (g b s a n k h f : Nat) : (crownL g b s a n k h f).length = 64 := by kernel_rfl
def L0 : List B8 := ((List.replicate 64 0#8).set 0 0xc0#8).set 1 0x9e#8
theorem lay_all (g b s a n k h f : Nat) : putN (layK L0 [g, b, s, a, n, k, h] 7) 30 f 8 = body g b s a n k h f ++ List.replicate 4 0#8 := by kernel_rfl
theorem lay_sum (g b s a n k h f x : Nat) : putN (body g b s a n k h f ++ List.replicate 4 0#8) 60 x 4 = body g b s a n k h f ++ le4 x := by kernel_rfl
theorem take_body (g b s a n k h f : Nat) (l : List B8) : (body g b s a n k h f ++ l).take 60 = body g b s a n k h f := by kernel_rfl
end Go.Proofs.Ythhgmanoifpoiaa

/- The plain law of one match behind literals. -/
import Derived.Test.YtkmcddfeadbahaaRdE
namespace Go.Proofs.Ytkmcddfeadbahaa
open Go.RowKit

theorem seqOf_nought : seqOf [0#8] = some ([], none, []) := by
  have := seqOf_seqL []
  exact this

theorem unp_copies (lits : List B8) (d m n : Nat) (hd : d < 65536) (hm : 4 ≤ m) : unp (seqM lits d m ++ [0#8]) [] n =
    if n < lits.length then .bad 3 else if d = 0 ∨ lits.length < d then .bad 4 else if n < lits.length + m then .bad 3 else if lits.length + m = n then .good (copyN lits d m) else .bad 2 := by
  rw [unp_eq, seqOf_seqM lits [0#8] d m hd hm]
  simp only [List.nil_append, List.length_nil, Nat.zero_add]
  split
  · rfl
  · split
    · rfl
    · split
      · rfl
      · rename_i h3
        rw [unp_eq, seqOf_nought]
        simp only [List.length_nil, List.append_nil, Nat.add_zero, copyN_length]
        rw [if_neg h3]

theorem says_copies (lits : List B8) (d m : Nat) (N : Nat) (hd : d < 65536) (hm : 4 ≤ m) (hN : N ≤ 4096) : says (seqM lits d m ++ [0#8]) (N : Int) =
    if N < lits.length then .bad 3 else if d = 0 ∨ lits.length < d then .bad 4 else if N < lits.length + m then .bad 3 else if lits.length + m = N then .good (copyN lits d m) else .bad 2 := by
  unfold says
  rw [if_neg (by omega), Int.toNat_natCast, unp_copies lits d m N hd hm]
end Go.Proofs.Ytkmcddfeadbahaa

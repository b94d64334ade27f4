/- What Choose says of two crowns, and of a crown beside a blank block. -/
import Derived.Test.YthhgmanoifpoiaaCrJ
namespace Go.Proofs.Ythhgmanoifpoiaa
open Go.RowKit
set_option linter.unusedVariables false

section
variable {g b s a n k h f : Nat} {g' b' s' a' n' k' h' f' : Nat}
theorem crown_gen (hf : f < 18446744073709551616) (hm : mayB g b s f a n k h = true) : numAt (crownL g b s a n k h f) 2 = g := by
  obtain ⟨bg, _⟩ := may_bounds hm
  unfold numAt
  rw [cr_2, numL_le4 _ (by omega)]
theorem crown_val (hf : f < 18446744073709551616) (hm : mayB g b s f a n k h = true) :
    crownV (crownL g b s a n k h f) = .agg #[.int .i64 g, .int .i64 b, .int .i64 s, .float .f64 f, .int .i64 a, .int .i64 n, .int .i64 k, .int .i64 h] := by
  rw [← decV_ok (crown_back hf hm).1]; exact (crown_back hf hm).2
theorem choose_two (hf : f < 18446744073709551616) (hm : mayB g b s f a n k h = true) (hf' : f' < 18446744073709551616) (hm' : mayB g' b' s' f' a' n' k' h' = true) (hne : ¬ g = g') :
    chooseR (crownL g b s a n k h f) (crownL g' b' s' a' n' k' h' f') = if g' < g then (crownV (crownL g b s a n k h f), 0, 0) else (crownV (crownL g' b' s' a' n' k' h' f'), 1, 0) := by
  unfold chooseR
  rw [not_blank, not_blank, if_neg (by simp), if_neg (by simp), if_pos ⟨(crown_back hf hm).1, (crown_back hf' hm').1⟩, crown_gen hf hm, crown_gen hf' hm', if_neg (by omega)]
  by_cases h : g' < g
  · rw [if_pos (by omega), if_pos h]
  · rw [if_neg (by omega), if_neg h]
theorem choose_first (hf : f < 18446744073709551616) (hm : mayB g b s f a n k h = true) :
    chooseR (crownL g b s a n k h f) (List.replicate 64 0#8) = if g = 1 then (crownV (crownL g b s a n k h f), 0, 0) else (zeroV, 0, 5) := by
  have ho : oneB (crownL g b s a n k h f) = decide (g = 1) := by
    unfold oneB
    rw [(crown_back hf hm).1, crown_gen hf hm, decide_eq_true rfl, Bool.true_and, decide_eq_decide]
    omega
  unfold chooseR aloneV aloneN aloneE
  rw [not_blank, blank_zeros, if_neg (by simp), if_pos rfl, ho]
  by_cases h : g = 1 <;> simp [h]
end
end Go.Proofs.Ythhgmanoifpoiaa

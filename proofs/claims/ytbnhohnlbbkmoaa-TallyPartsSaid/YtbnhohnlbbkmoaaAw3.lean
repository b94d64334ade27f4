/- concertinalaw3.awake returns true. -/
import Derived.Test.YtbnhohnlbbkmoaaSum
namespace Go.Proofs.Ytbnhohnlbbkmoaa
open Go.RowKit

theorem awake3 (w : World) : Calls Try.prog 14 #[] w fun e w' => e = .returned (.bool true) ∧ Below w.heap.size w w' := by
  have h0 : I32 (sum []) = 0 := by decide
  have h1 : (I32 (sum [97#8]) == 0) = false := by decide
  have k0 := conv0 (P := Try.prog) 22 5 Try.underlying22 Try.underlying5
  have k1 := conv1 (P := Try.prog) 22 5 Try.underlying22 Try.underlying5
  have k2 := conv2 (P := Try.prog) 22 5 Try.underlying22 Try.underlying5
  go_enter Try.func14, Try.ntmps14
  go_wp2_with fail
  refine (sum_any none 0 0 [] 0 _ Rd.none_ (by omega)).mono ?_
  rintro e w' ⟨rfl, rfl⟩
  go_wp2_with fail
  refine (sum_any _ 1 1 [97#8] _ _ (rd_new _ _ [97#8] _ _ _ (by simp) (by rfl)) (by omega)).mono ?_
  rintro e w' ⟨rfl, rfl⟩
  go_wp2_with fail
  refine (refSum_any _ 1 1 [97#8] _ _ (rd_new _ _ [97#8] _ _ _ (by simp) (by rfl)) (by omega)).mono ?_
  rintro e w' ⟨rfl, rfl⟩
  go_wp2_with fail
  refine (sum_any _ 1 1 [97#8] _ _ (rd_new _ _ [97#8] _ _ _ (by simp) (by rfl)) (by omega)).mono ?_
  rintro e w' ⟨rfl, rfl⟩
  go_wp2_with fail
  go_ret
  exact ⟨rfl, (((Below.refl _ _).alloc (Nat.le_refl _) _).alloc (by simp) _).alloc (by simp; omega) _⟩
end Go.Proofs.Ytbnhohnlbbkmoaa

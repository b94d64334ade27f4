/- The plain law of a crown's block that was changed within four bytes. -/
import Derived.Test.YthhgmanoifpoiaaCrK
namespace Go.Proofs.Ythhgmanoifpoiaa
open Go.RowKit
set_option linter.unusedVariables false

theorem numL_inj : ∀ (a b : List B8), a.length = b.length → numL a = numL b → a = b
  | [], [], _, _ => rfl
  | [], _ :: _, h, _ => by simp at h
  | _ :: _, [], h, _ => by simp at h
  | x :: a, y :: b, h, e => by
    simp only [numL] at e
    have hx := x.isLt
    have hy := y.isLt
    have e1 : x.toNat = y.toNat := by omega
    have e2 : numL a = numL b := by omega
    rw [BitVec.eq_of_toNat_eq e1, numL_inj a b (by simpa using h) e2]

theorem modify_left : ∀ (p q : List B8) (j : Nat) (f : B8 → B8), j < p.length → (p ++ q).modify j f = p.modify j f ++ q
  | [], _, _, _, h => by simp at h
  | x :: p, q, 0, f, _ => by simp [List.modify_zero_cons]
  | x :: p, q, j + 1, f, h => by
    simp only [List.cons_append, List.modify_succ_cons]
    rw [modify_left p q j f (by simpa using h)]
theorem mixN_left (p q : List B8) (k : Nat) (m : B32) (i : Nat) (h : k + i ≤ p.length) : mixN (p ++ q) k m i = mixN p k m i ++ q := by
  induction i with
  | zero => rfl
  | succ i ih =>
    have hl := mixN_length p k m i
    rw [mixN, mixN, ih (by omega), modify_left _ _ _ _ (by omega)]
theorem mixN_right (p q : List B8) (m : B32) (i : Nat) : mixN (p ++ q) p.length m i = p ++ mixN q 0 m i := by
  induction i with
  | zero => rfl
  | succ i ih =>
    rw [mixN, mixN, ih, Nat.zero_add, modify_right]

theorem xor_zero8 {a b : B8} (h : a ^^^ b = a) : b = 0#8 := by
  have := congrArg (fun x => a ^^^ x) h
  simpa [← BitVec.xor_assoc] using this

theorem tells (g b s a n k h f : Nat) (o : Nat) (m : B32) (hm : m ≠ 0#32) (ho : o ≤ 56 ∨ o = 60) : sumAt (mixN (crownL g b s a n k h f) o m 4) = false := by
  have hlt := (sum (body g b s a n k h f)).isLt
  have hS : I32 (sum (body g b s a n k h f)) = ((numL (le4 (sum (body g b s a n k h f)).toNat) : Nat) : Int) := by rw [numL_le4 _ (by omega)]; rfl
  have hbl : (body g b s a n k h f).length = 60 := body_length _ _ _ _ _ _ _ _
  unfold sumAt numAt
  apply decide_eq_false
  intro e
  unfold crownL at e
  rcases ho with ho | ho
  · rw [mixN_left _ _ _ _ _ (by omega)] at e
    have hml : (mixN (body g b s a n k h f) o m 4).length = 60 := by rw [mixN_length, hbl]
    rw [List.drop_append_of_le_length (by omega), List.drop_of_length_le (by omega), List.nil_append, List.take_of_length_le (by rw [show (le4 _).length = 4 from rfl]; exact Nat.le_refl _), List.take_append_of_le_length (by omega), List.take_of_length_le (by omega), ← hS] at e
    exact mix_tells 0#32 (body g b s a n k h f) o m (by omega) hm (I32.inj e)
  · subst ho
    rw [show (60 : Nat) = (body g b s a n k h f).length from hbl.symm, mixN_right, List.drop_left, List.take_left, hS] at e
    have e' := numL_inj _ _ (by rw [List.length_take, mixN_length]; rfl) (Int.ofNat.inj e)
    rw [List.take_of_length_le (by rw [mixN_length]; exact Nat.le_refl _)] at e'
    generalize (sum (body g b s a n k h f)).toNat = S at *
    unfold le4 at e'
    simp only [mixN, Nat.zero_add, List.modify_succ_cons, List.modify_zero_cons] at e'
    simp only [List.cons.injEq, and_true] at e'
    obtain ⟨x0, x1, x2, x3⟩ := e'
    exact hm (mb_zero m ⟨xor_zero8 x0, xor_zero8 x1, xor_zero8 x2, xor_zero8 x3⟩)
theorem tells_dec (g b s a n k h f : Nat) (o : Nat) (m : B32) (hm : m ≠ 0#32) (ho : o ≤ 56 ∨ o = 60) :
    decE (mixN (crownL g b s a n k h f) o m 4) = 5 ∧ decV (mixN (crownL g b s a n k h f) o m 4) = zeroV := by
  have hE : decE (mixN (crownL g b s a n k h f) o m 4) = 5 := by
    unfold decE
    rw [if_pos (by rw [mixN_length]; exact crownL_length _ _ _ _ _ _ _ _), tells g b s a n k h f o m hm ho]; rfl
  exact ⟨hE, by unfold decV; rw [hE]; rfl⟩
end Go.Proofs.Ythhgmanoifpoiaa

/- The plain law of LeafTells: a frame changed within four bytes is told. -/
import Derived.Test.YtbnhohnlbbkmoaaLeafP
namespace Go.Proofs.Ytbnhohnlbbkmoaa
open Go.RowKit
set_option linter.unusedVariables false

theorem modify_left (A B : List B8) (i : Nat) (f : B8 → B8) (h : i < A.length) : (A ++ B).modify i f = A.modify i f ++ B := by
  induction A generalizing i with
  | nil => simp at h
  | cons a A ih =>
    cases i with
    | zero => rfl
    | succ i =>
      simp only [List.cons_append, List.modify_succ_cons]
      rw [ih i (by simpa using h)]
theorem mix_left (A B : List B8) (k : Nat) (m : B32) (j : Nat) (h : k + j ≤ A.length) : mixN (A ++ B) k m j = mixN A k m j ++ B := by
  induction j with
  | zero => rfl
  | succ j ih =>
    simp only [mixN]
    rw [ih (by omega), modify_left _ _ _ _ (by rw [mixN_length]; omega)]
theorem mix_right (A B : List B8) (k : Nat) (m : B32) (j : Nat) : mixN (A ++ B) (A.length + k) m j = A ++ mixN B k m j := by
  induction j with
  | zero => rfl
  | succ j ih =>
    simp only [mixN]
    rw [ih, Nat.add_assoc, modify_right]
theorem mix_bt (b : List B8) (k : Nat) (m : B32) (j i : Nat) (h : i < k ∨ k + j ≤ i) : bt (mixN b k m j) i = bt b i := by
  induction j with
  | zero => rfl
  | succ j ih =>
    have := ih (by omega)
    unfold bt at *
    rw [List.getD_eq_getElem?_getD] at *
    simp only [mixN, List.getElem?_modify]
    have hne : ¬ k + j = i := by omega
    simpa [hne] using this
theorem mix_num (b : List B8) (k : Nat) (m : B32) (j o : Nat) (h : o + 4 ≤ k ∨ k + j ≤ o) : numAt (mixN b k m j) o = numAt b o := by
  unfold numAt
  rw [mix_bt _ _ _ _ _ (by omega), mix_bt _ _ _ _ _ (by omega), mix_bt _ _ _ _ _ (by omega), mix_bt _ _ _ _ _ (by omega)]
theorem num4_inj {a b c d a' b' c' d' : B8} (h : num4 a b c d = num4 a' b' c' d') : a = a' ∧ b = b' ∧ c = c' ∧ d = d' := by
  unfold num4 at h
  have := I8.bd a; have := I8.bd b; have := I8.bd c; have := I8.bd d
  have := I8.bd a'; have := I8.bd b'; have := I8.bd c'; have := I8.bd d'
  refine ⟨I8.inj ?_, I8.inj ?_, I8.inj ?_, I8.inj ?_⟩ <;> omega
theorem num_mid {k : Nat} (p q : List B8) (y0 y1 y2 y3 : B8) (hp : p.length = k) : numAt (p ++ [y0, y1, y2, y3] ++ q) k = num4 y0 y1 y2 y3 := by
  subst hp
  have h (i : Nat) (y : B8) (hy : ([y0, y1, y2, y3] ++ q)[i]? = some y) : bt (p ++ [y0, y1, y2, y3] ++ q) (p.length + i) = y := by
    unfold bt
    rw [List.getD_eq_getElem?_getD, List.append_assoc, List.getElem?_append_right (by omega), Nat.add_sub_cancel_left, hy]
    rfl
  unfold numAt
  rw [show bt (p ++ [y0, y1, y2, y3] ++ q) p.length = y0 from h 0 y0 rfl, h 1 y1 rfl, h 2 y2 rfl, h 3 y3 rfl]

theorem open_ok {b : List B8} {kind : B8} (h : openE b kind = 0) :
    headE b = 0 ∧ b.length = 64 * blocksN (manyN b) ∧ numAt b 12 = I32 (more (sum (b.take 12)) ((b.drop 16).take (manyN b))) ∧ b.drop (16 + manyN b) = List.replicate (b.length - (16 + manyN b)) 0#8 := by
  unfold openE at h
  by_cases h0 : headE b ≠ 0
  · rw [if_pos h0] at h; exact absurd h h0
  rw [if_neg h0] at h
  by_cases h1 : 64 * blocksN (manyN b) < b.length
  · rw [if_pos h1] at h; exact absurd h (by decide)
  rw [if_neg h1] at h
  by_cases h2 : b.length < 64 * blocksN (manyN b)
  · rw [if_pos h2] at h; exact absurd h (by decide)
  rw [if_neg h2] at h
  by_cases h3 : numAt b 12 ≠ I32 (more (sum (b.take 12)) ((b.drop 16).take (manyN b))) ∨ b.drop (16 + manyN b) ≠ List.replicate (b.length - (16 + manyN b)) 0#8
  · rw [if_pos h3] at h; exact absurd h (by decide)
  refine ⟨Decidable.not_not.1 h0, by omega, Decidable.not_not.1 fun h => h3 (.inl h), Decidable.not_not.1 fun h => h3 (.inr h)⟩

/-- The sum over all but the sum's own place: it is told by the sum's place, the number and the length. -/
theorem open_sum {b : List B8} {kind : B8} {s : B32} (h : openE b kind = 0) (hs : numAt b 12 = I32 s) : sum (b.take 12 ++ b.drop 16) = more s (List.replicate (b.length - (16 + manyN b)) 0#8) := by
  obtain ⟨_, hl, hsum, hz⟩ := open_ok h
  rw [hs] at hsum
  have e := I32.inj hsum
  rw [e, ← hz]
  conv => lhs; rw [← List.take_append_drop (manyN b) (b.drop 16), List.drop_drop]
  unfold sum
  rw [more_append, more_append]

theorem frame_tells (kind : B8) (gen : B32) (ds : List B8) (p : Nat) (m : B32) (h : ds.length ≤ 4096) (hg : I32 gen ≤ 2147483647) (hm : m ≠ 0#32) (hp : p + 4 ≤ 64 * blocksN ds.length) (hpp : p ≤ 4 ∨ p = 12 ∨ 16 ≤ p) :
    openE (mixN (frame kind gen ds) p m 4) kind ≠ 0 := by
  intro h0
  have hF0 : openE (frame kind gen ds) kind = 0 := by rw [frame_openE _ _ _ _ h hg, if_pos rfl]
  have hl := frame_length kind gen ds
  have h12 : numAt (frame kind gen ds) 12 = I32 (frameSum kind gen ds) := by rw [frameX_eq, fx_sum]
  have hN : 64 ≤ 64 * blocksN ds.length := by unfold blocksN; omega
  generalize frame kind gen ds = b at *
  generalize frameSum kind gen ds = s at *
  have hml := mixN_length b p m 4
  have hmany : manyN (mixN b p m 4) = manyN b := by
    unfold manyN
    rw [mix_num _ _ _ _ _ (by omega)]
  by_cases hp12 : p = 12
  · subst hp12
    obtain ⟨q, r, x0, x1, x2, x3, hq, e1, e2⟩ := mix_split b 12 m (by omega)
    obtain ⟨_, _, hs, _⟩ := open_ok hF0
    obtain ⟨_, _, hs', _⟩ := open_ok h0
    rw [hmany] at hs'
    have t1 : (mixN b 12 m 4).take 12 = b.take 12 := by
      rw [e2, e1, List.append_assoc, List.append_assoc, ← hq, List.take_left, List.take_left]
    have d1 : (mixN b 12 m 4).drop 16 = b.drop 16 := by
      rw [e2, e1, List.drop_left' (by simp [hq]), List.drop_left' (by simp [hq])]
    rw [t1, d1, ← hs, e2, num_mid _ _ _ _ _ _ hq] at hs'
    rw [e1, num_mid _ _ _ _ _ _ hq] at hs'
    obtain ⟨a0, a1, a2, a3⟩ := num4_inj hs'
    have z (x y : B8) (hx : x ^^^ y = x) : y = 0#8 := by
      have := congrArg (x ^^^ ·) hx
      simpa [← BitVec.xor_assoc] using this
    exact hm (mb_zero m ⟨z _ _ a0, z _ _ a1, z _ _ a2, z _ _ a3⟩)
  · have hs := open_sum hF0 h12
    have hs' := open_sum h0 (by rw [mix_num _ _ _ _ _ (by omega)]; exact h12)
    rw [hmany, hml, ← hs] at hs'
    rcases (by omega : p ≤ 4 ∨ 16 ≤ p) with hp4 | hp16
    · have e : mixN b p m 4 = mixN (b.take 12) p m 4 ++ b.drop 12 := by
        conv => lhs; rw [← List.take_append_drop 12 b]
        exact mix_left _ _ _ _ _ (by rw [List.length_take]; omega)
      have hlt : (mixN (b.take 12) p m 4).length = 12 := by rw [mixN_length, List.length_take]; omega
      have t : (mixN b p m 4).take 12 = mixN (b.take 12) p m 4 := by
        rw [e, List.take_append_of_le_length (by omega), List.take_of_length_le (by omega)]
      have d : (mixN b p m 4).drop 16 = b.drop 16 := by
        rw [e, List.drop_append, List.drop_of_length_le (by omega), hlt, List.nil_append, List.drop_drop]
      rw [t, d, ← mix_left _ _ _ _ _ (by rw [List.length_take]; omega)] at hs'
      exact mix_tells 0#32 (b.take 12 ++ b.drop 16) p m (by rw [List.length_append, List.length_take, List.length_drop]; omega) hm hs'.symm
    · obtain ⟨k, rfl⟩ : ∃ k, p = 16 + k := ⟨p - 16, by omega⟩
      have hl16 : (b.take 16).length = 16 := by rw [List.length_take]; omega
      have hl12 : (b.take 12).length = 12 := by rw [List.length_take]; omega
      have e : mixN b (16 + k) m 4 = b.take 16 ++ mixN (b.drop 16) k m 4 := by
        have := mix_right (b.take 16) (b.drop 16) k m 4
        rw [List.take_append_drop, hl16] at this
        exact this
      have t : (mixN b (16 + k) m 4).take 12 = b.take 12 := by
        rw [e, List.take_append_of_le_length (by omega), List.take_take]
        rfl
      have d : (mixN b (16 + k) m 4).drop 16 = mixN (b.drop 16) k m 4 := by
        rw [e, List.drop_append, List.drop_of_length_le (by omega), hl16, List.nil_append, Nat.sub_self, List.drop_zero]
      have := mix_right (b.take 12) (b.drop 16) k m 4
      rw [t, d, ← this, hl12] at hs'
      exact mix_tells 0#32 (b.take 12 ++ b.drop 16) (12 + k) m (by rw [List.length_append, List.length_take, List.length_drop]; omega) hm hs'.symm
end Go.Proofs.Ytbnhohnlbbkmoaa

/- The plain law: four bytes of a row changed by a word's bytes. -/
import Derived.Test.YthhgmanoifpoiaaCrc
namespace Go.Proofs.Ythhgmanoifpoiaa

/-- The i-th byte of a word, the lowest first. -/
def mb (m : B32) (i : Nat) : B8 := (m >>> (8 * i)).setWidth 8

def mixN (bs : List B8) (k : Nat) (m : B32) : Nat → List B8
  | 0 => bs
  | i + 1 => (mixN bs k m i).modify (k + i) (· ^^^ mb m i)

theorem mixN_length (bs : List B8) (k : Nat) (m : B32) (i : Nat) : (mixN bs k m i).length = bs.length := by
  induction i with
  | zero => rfl
  | succ i ih => simp [mixN, ih]

theorem modify_right (p l : List B8) (i : Nat) (f : B8 → B8) : (p ++ l).modify (p.length + i) f = p ++ l.modify i f := by
  induction p with
  | nil => simp
  | cons a p ih =>
    rw [List.length_cons, show p.length + 1 + i = (p.length + i) + 1 from by omega]
    simp only [List.cons_append, List.modify_succ_cons, ih]

theorem mix_split (bs : List B8) (k : Nat) (m : B32) (h : k + 4 ≤ bs.length) : ∃ p q x0 x1 x2 x3, p.length = k ∧ bs = p ++ [x0, x1, x2, x3] ++ q ∧
    mixN bs k m 4 = p ++ [x0 ^^^ mb m 0, x1 ^^^ mb m 1, x2 ^^^ mb m 2, x3 ^^^ mb m 3] ++ q := by
  have hp : (bs.take k).length = k := by rw [List.length_take]; omega
  match hd : bs.drop k with
  | [] => have := congrArg List.length hd; rw [List.length_drop] at this; simp at this; omega
  | [_] => have := congrArg List.length hd; rw [List.length_drop] at this; simp at this; omega
  | [_, _] => have := congrArg List.length hd; rw [List.length_drop] at this; simp at this; omega
  | [_, _, _] => have := congrArg List.length hd; rw [List.length_drop] at this; simp at this; omega
  | x0 :: x1 :: x2 :: x3 :: q =>
    have e : bs = bs.take k ++ (x0 :: x1 :: x2 :: x3 :: q) := by rw [← hd, List.take_append_drop]
    refine ⟨bs.take k, q, x0, x1, x2, x3, hp, by simpa using e, ?_⟩
    generalize bs.take k = p at *
    subst e
    subst hp
    simp only [mixN, modify_right]
    simp

theorem mb_zero (m : B32) (h : mb m 0 = 0#8 ∧ mb m 1 = 0#8 ∧ mb m 2 = 0#8 ∧ mb m 3 = 0#8) : m = 0#32 := by
  obtain ⟨h0, h1, h2, h3⟩ := h
  have t (i : Nat) (h : mb m i = 0#8) : m.toNat / 2 ^ (8 * i) % 256 = 0 := by
    have := congrArg BitVec.toNat h
    unfold mb at this
    rw [BitVec.toNat_setWidth, BitVec.toNat_ushiftRight, Nat.shiftRight_eq_div_pow] at this
    simpa using this
  have a0 := t 0 h0
  have a1 := t 1 h1
  have a2 := t 2 h2
  have a3 := t 3 h3
  have := m.isLt
  apply BitVec.eq_of_toNat_eq
  simp at a0 a1 a2 a3 ⊢
  omega

theorem mixN_at (bs : List B8) (k : Nat) (m : B32) (i : Nat) (x : B8) (h : (mixN bs k m i)[k + i]? = some x) :
    mixN bs k m (i + 1) = (mixN bs k m i).set (k + i) (x ^^^ mb m i) := by
  simp only [mixN]
  apply List.ext_getElem?
  intro j
  rw [List.getElem?_modify, List.getElem?_set]
  by_cases e : k + i = j
  · subst e
    have hl : k + i < (mixN bs k m i).length := by
      rcases Nat.lt_or_ge (k + i) (mixN bs k m i).length with h' | h'
      · exact h'
      · rw [List.getElem?_eq_none h'] at h; cases h
    rw [h]; simp [hl]
  · simp [e]

theorem mix_tells (r : B32) (bs : List B8) (k : Nat) (m : B32) (h : k + 4 ≤ bs.length) (hm : m ≠ 0#32) : more r bs ≠ more r (mixN bs k m 4) := by
  obtain ⟨p, q, x0, x1, x2, x3, hp, hb, hx⟩ := mix_split bs k m h
  rw [hx]
  conv => lhs; rw [hb]
  exact more_tells r p q _ _ _ _ _ _ _ _ (fun e => hm (mb_zero m e))
/-- The first k bytes put together by exclusive or, noughts behind them. -/
def xto (a b : List B8) (n : Nat) : Nat → List B8
  | 0 => List.replicate n 0#8
  | k + 1 => (xto a b n k).set k (a.getD k 0#8 ^^^ b.getD k 0#8)
theorem xto_length (a b : List B8) (n k : Nat) : (xto a b n k).length = n := by
  induction k with
  | zero => simp [xto]
  | succ k ih => simp [xto, ih]
theorem xto_at (a b : List B8) (n k : Nat) (hk : k ≤ n) (i : Nat) (hi : i < n) : (xto a b n k)[i]? = some (if i < k then a.getD i 0#8 ^^^ b.getD i 0#8 else 0#8) := by
  induction k with
  | zero => simp [xto, hi]
  | succ k ih =>
    simp only [xto]
    rw [List.getElem?_set, xto_length]
    by_cases e : k = i
    · subst e; simp [hi]
    · rw [if_neg e, ih (by omega)]
      congr 1
      by_cases h : i < k
      · rw [if_pos h, if_pos (by omega)]
      · rw [if_neg h, if_neg (by omega)]
theorem xto_all (a b : List B8) (n : Nat) (ha : n ≤ a.length) (hb : n ≤ b.length) : xto a b n n = xors (a.take n) (b.take n) := by
  apply List.ext_getElem?
  intro i
  by_cases hi : i < n
  · rw [xto_at a b n n (Nat.le_refl _) i hi, if_pos hi]
    unfold xors
    rw [List.getElem?_zipWith, List.getElem?_take, List.getElem?_take, if_pos hi, if_pos hi]
    have h1 : i < a.length := by omega
    have h2 : i < b.length := by omega
    simp [List.getD, h1, h2]
  · rw [List.getElem?_eq_none (by rw [xto_length]; omega), List.getElem?_eq_none (by simp [xors]; omega)]

end Go.Proofs.Ythhgmanoifpoiaa

/- The plain law of the sums of bytes: the remainder's steps are linear over exclusive or and injective; no program in sight. -/
namespace Go.Proofs.Ythhgmanoifpoiaa

abbrev B8 := BitVec 8
abbrev B32 := BitVec 32

/-- One step of the remainder. -/
def step (x : B32) : B32 := if x.msb then (x <<< 1) ^^^ 1947962583#32 else x <<< 1

def iter : Nat → B32 → B32
  | 0, x => x
  | n + 1, x => step (iter n x)

/-- A byte. -/
def eat (r : B32) (b : B8) : B32 := iter 8 (r ^^^ (b.setWidth 32 <<< 24))

def eats (r : B32) (l : List B8) : B32 := l.foldl eat r

def more (s : B32) (l : List B8) : B32 := ~~~ (eats (~~~ s) l)

theorem step_xor (x y : B32) : step (x ^^^ y) = step x ^^^ step y := by
  unfold step
  rw [BitVec.msb_xor]
  have hs : (x ^^^ y) <<< 1 = (x <<< 1) ^^^ (y <<< 1) := BitVec.shiftLeft_xor_distrib ..
  rw [hs]
  cases x.msb <;> cases y.msb <;> simp
  · rw [BitVec.xor_assoc]
  · rw [BitVec.xor_assoc, BitVec.xor_assoc]; congr 1; rw [BitVec.xor_comm]
  · have e : ∀ a b c : B32, a ^^^ b = a ^^^ c ^^^ (b ^^^ c) := by
      intro a b c
      rw [BitVec.xor_assoc, ← BitVec.xor_assoc c, BitVec.xor_comm c b, BitVec.xor_assoc b, BitVec.xor_self, BitVec.xor_zero]
    exact e _ _ _

theorem step_zero : step 0#32 = 0#32 := by decide

theorem step_ne {x : B32} (h : x ≠ 0#32) : step x ≠ 0#32 := by
  unfold step
  cases hm : x.msb with
  | true =>
    simp only [if_true]
    intro e
    have := congrArg (fun z : B32 => z.getLsbD 0) e
    simp at this
  | false =>
    simp only [Bool.false_eq_true, if_false]
    intro e
    apply h
    apply BitVec.eq_of_getLsbD_eq
    intro i hi
    have h1 := congrArg (fun z : B32 => z.getLsbD (i + 1)) e
    simp only [BitVec.getLsbD_shiftLeft, BitVec.getLsbD_zero] at h1
    by_cases h31 : i = 31
    · subst h31
      rw [BitVec.msb_eq_getLsbD_last] at hm
      simpa using hm
    · have : i + 1 < 32 := by omega
      simpa [this] using h1

theorem iter_xor (n : Nat) (x y : B32) : iter n (x ^^^ y) = iter n x ^^^ iter n y := by
  induction n with
  | zero => rfl
  | succ n ih => simp only [iter, ih, step_xor]

theorem iter_zero (n : Nat) : iter n 0#32 = 0#32 := by
  induction n with
  | zero => rfl
  | succ n ih => simp only [iter, ih, step_zero]

theorem iter_ne (n : Nat) {x : B32} (h : x ≠ 0#32) : iter n x ≠ 0#32 := by
  induction n with
  | zero => exact h
  | succ n ih => exact step_ne ih

theorem iter_add (m n : Nat) (x : B32) : iter m (iter n x) = iter (m + n) x := by
  induction m with
  | zero => simp [iter]
  | succ m ih => rw [Nat.succ_add]; simp only [iter, ih]

theorem xor_four (a b c d : B32) : a ^^^ b ^^^ (c ^^^ d) = a ^^^ c ^^^ (b ^^^ d) := by ac_rfl

theorem eat_xor (r s : B32) (b c : B8) : eat (r ^^^ s) (b ^^^ c) = eat r b ^^^ eat s c := by
  unfold eat
  rw [← iter_xor]
  have h1 : (b ^^^ c).setWidth 32 = b.setWidth 32 ^^^ c.setWidth 32 := BitVec.setWidth_xor
  have h2 : (b.setWidth 32 ^^^ c.setWidth 32 : B32) <<< 24 = (b.setWidth 32 <<< 24) ^^^ (c.setWidth 32 <<< 24) := BitVec.shiftLeft_xor_distrib ..
  rw [h1, h2, xor_four]

/-- Two rows of one length, byte by byte. -/
def xors (a b : List B8) : List B8 := List.zipWith (· ^^^ ·) a b

theorem eats_xor (a : List B8) : ∀ (b : List B8) (r s : B32), a.length = b.length → eats (r ^^^ s) (xors a b) = eats r a ^^^ eats s b := by
  induction a with
  | nil => intro b r s h; cases b <;> simp_all [eats, xors]
  | cons x a ih =>
    intro b r s h
    cases b with
    | nil => simp at h
    | cons y b =>
      have := ih b (eat r x) (eat s y) (by simpa using h)
      simp only [eats, xors, List.zipWith_cons_cons, List.foldl_cons] at this ⊢
      rw [eat_xor]; exact this

theorem eats_append (r : B32) (a b : List B8) : eats r (a ++ b) = eats (eats r a) b := by simp [eats]

theorem more_append (s : B32) (a b : List B8) : more s (a ++ b) = more (more s a) b := by
  unfold more; rw [eats_append, BitVec.not_not]

theorem more_nil (s : B32) : more s [] = s := by unfold more eats; simp

theorem eat_zero (r : B32) : eat r 0#8 = iter 8 r := by unfold eat; simp

theorem eats_noughts (n : Nat) (r : B32) : eats r (List.replicate n 0#8) = iter (8 * n) r := by
  induction n generalizing r with
  | zero => rfl
  | succ n ih =>
    rw [List.replicate_succ]
    show eats (eat r 0#8) _ = _
    rw [ih, eat_zero, iter_add]; congr 1

theorem not_xor_not (x y : B32) : ~~~ x ^^^ ~~~ y = x ^^^ y := by
  apply BitVec.eq_of_getLsbD_eq
  intro i hi
  simp [hi]

/-- Sums of two rows of one length go with the sum of what is put together of them and that of noughts. -/
theorem more_linear (a b : List B8) (h : a.length = b.length) :
    more 0#32 a ^^^ more 0#32 b = more 0#32 (xors a b) ^^^ more 0#32 (List.replicate a.length 0#8) := by
  unfold more
  rw [not_xor_not, not_xor_not, ← eats_xor a b _ _ h]
  have hl : (xors a b).length = (List.replicate a.length 0#8).length := by simp [xors, ← h]
  rw [← eats_xor _ _ _ _ hl]
  rw [BitVec.xor_self]
  congr 1
  unfold xors
  apply List.ext_getElem
  · simp
  · intro i h1 h2; simp

theorem more_ne_of (a b : List B8) (r : B32) (h : a.length = b.length) (hd : eats 0#32 (xors a b) ≠ 0#32) : more r a ≠ more r b := by
  intro e
  apply hd
  have e2 : eats (~~~ r) a = eats (~~~ r) b := by
    have := congrArg (fun z : B32 => ~~~ z) e
    simpa [more] using this
  have := eats_xor a b (~~~ r) (~~~ r) h
  rw [BitVec.xor_self, e2, BitVec.xor_self] at this
  exact this

/-- While the top bit is clear a step shifts. -/
theorem iter_shift (n : Nat) (x : B32) (h : x.toNat < 2 ^ (32 - n)) (hn : n ≤ 32) : iter n x = x <<< n := by
  induction n with
  | zero => simp [iter]
  | succ n ih =>
    have hp : (2 : Nat) ^ (32 - (n + 1)) * 2 = 2 ^ (32 - n) := by
      rw [← Nat.pow_succ]; congr 1; omega
    have h' : x.toNat < 2 ^ (32 - n) := by omega
    simp only [iter]
    rw [ih h' (by omega)]
    have hm : (x <<< n).msb = false := by
      rw [BitVec.msb_eq_false_iff_two_mul_lt, BitVec.toNat_shiftLeft, Nat.shiftLeft_eq]
      have h2 : x.toNat * 2 ^ n < 2 ^ (32 - (n + 1)) * 2 ^ n := Nat.mul_lt_mul_of_pos_right h (Nat.two_pow_pos n)
      rw [← Nat.pow_add] at h2
      have h3 : 32 - (n + 1) + n = 31 := by omega
      rw [h3] at h2
      have := Nat.mod_le (x.toNat * 2 ^ n) (2 ^ 32)
      omega
    unfold step
    rw [hm]
    simp only [Bool.false_eq_true, if_false]
    rw [← BitVec.shiftLeft_add]

/-- Four bytes eaten out of nought are 32 steps of their word. -/
theorem eats_four (a b c d : B8) : eats 0#32 [a, b, c, d] = iter 32 ((a.setWidth 32 <<< 24) ^^^ (b.setWidth 32 <<< 16) ^^^ (c.setWidth 32 <<< 8) ^^^ d.setWidth 32) := by
  have s (x : B8) (n : Nat) (hn : n ≤ 24) : iter n (x.setWidth 32) = x.setWidth 32 <<< n := by
    apply iter_shift _ _ _ (by omega)
    have : x.toNat < 2 ^ 8 := x.isLt
    have h2 : (2 : Nat) ^ 8 ≤ 2 ^ (32 - n) := Nat.pow_le_pow_right (by decide) (by omega)
    have h3 : (x.setWidth 32).toNat = x.toNat := by
      rw [BitVec.toNat_setWidth]; exact Nat.mod_eq_of_lt (by omega)
    omega
  have e : ∀ (r : B32) (x : B8), eat r x = iter 8 r ^^^ iter 32 (x.setWidth 32) := by
    intro r x
    unfold eat
    rw [iter_xor, ← s x 24 (by omega), iter_add]
  show eat (eat (eat (eat 0#32 a) b) c) d = _
  simp only [e, iter_xor, iter_zero, iter_add, ← s _ 24 (Nat.le_refl _), ← s _ 16 (by decide), ← s _ 8 (by decide), BitVec.zero_xor]

theorem eats_four_ne (a b c d : B8) (h : ¬ (a = 0#8 ∧ b = 0#8 ∧ c = 0#8 ∧ d = 0#8)) : eats 0#32 [a, b, c, d] ≠ 0#32 := by
  rw [eats_four]
  apply iter_ne
  intro e
  apply h
  have g (i : Nat) : ((a.setWidth 32 <<< 24) ^^^ (b.setWidth 32 <<< 16) ^^^ (c.setWidth 32 <<< 8) ^^^ d.setWidth 32 : B32).getLsbD i = false := by rw [e]; simp
  simp only [BitVec.getLsbD_xor, BitVec.getLsbD_shiftLeft, BitVec.getLsbD_setWidth] at g
  have z (x : B8) (i : Nat) (hi : 8 ≤ i) : x.getLsbD i = false := BitVec.getLsbD_of_ge x i hi
  refine ⟨?_, ?_, ?_, ?_⟩ <;> apply BitVec.eq_of_getLsbD_eq <;> intro i hi
  · have := g (i + 24)
    have h1 : i + 24 < 32 := by omega
    have h2 : ¬ i + 24 < 24 := by omega
    have h3 : ¬ i + 24 < 16 := by omega
    have h4 : ¬ i + 24 < 8 := by omega
    have h5 : i + 24 - 24 < 32 := by omega
    simpa [h1, h2, h3, h4, h5, z b (i + 24 - 16) (by omega), z c (i + 24 - 8) (by omega), z d (i + 24) (by omega), hi, (by omega : i < 32)] using this
  · have := g (i + 16)
    have h1 : i + 16 < 32 := by omega
    have h2 : i + 16 < 24 := by omega
    have h3 : ¬ i + 16 < 16 := by omega
    have h4 : ¬ i + 16 < 8 := by omega
    have h5 : i < 32 := by omega
    simpa [h1, h2, h3, h4, h5, z c (i + 16 - 8) (by omega), z d (i + 16) (by omega)] using this
  · have := g (i + 8)
    have h1 : i + 8 < 32 := by omega
    have h2 : i + 8 < 24 := by omega
    have h3 : i + 8 < 16 := by omega
    have h4 : ¬ i + 8 < 8 := by omega
    have h5 : i < 32 := by omega
    simpa [h1, h2, h3, h4, h5, z d (i + 8) (by omega)] using this
  · have := g i
    have h1 : i < 32 := by omega
    have h2 : i < 24 := by omega
    have h3 : i < 16 := by omega
    have h4 : i < 8 := by omega
    simpa [h1, h2, h3, h4] using this

theorem eats_zero_left (n : Nat) (l : List B8) : eats 0#32 (List.replicate n 0#8 ++ l) = eats 0#32 l := by
  rw [eats_append, eats_noughts, iter_zero]

/-- Four bytes of a row changed by a mask that is not nought: another sum. -/
theorem more_tells (r : B32) (p q : List B8) (x0 x1 x2 x3 m0 m1 m2 m3 : B8) (h : ¬ (m0 = 0#8 ∧ m1 = 0#8 ∧ m2 = 0#8 ∧ m3 = 0#8)) :
    more r (p ++ [x0, x1, x2, x3] ++ q) ≠ more r (p ++ [x0 ^^^ m0, x1 ^^^ m1, x2 ^^^ m2, x3 ^^^ m3] ++ q) := by
  apply more_ne_of
  · simp
  have e : xors (p ++ [x0, x1, x2, x3] ++ q) (p ++ [x0 ^^^ m0, x1 ^^^ m1, x2 ^^^ m2, x3 ^^^ m3] ++ q) = List.replicate p.length 0#8 ++ ([m0, m1, m2, m3] ++ List.replicate q.length 0#8) := by
    have z : ∀ l : List B8, List.zipWith (· ^^^ ·) l l = List.replicate l.length 0#8 := by
      intro l; induction l with
      | nil => rfl
      | cons a l ih => rw [List.zipWith_cons_cons, ih, BitVec.xor_self]; rfl
    have c : ∀ a b : B8, a ^^^ (a ^^^ b) = b := by intro a b; rw [← BitVec.xor_assoc, BitVec.xor_self, BitVec.zero_xor]
    unfold xors
    rw [List.append_assoc, List.append_assoc, List.zipWith_append rfl, z, List.zipWith_append (l₁ := [x0, x1, x2, x3]) (l₂ := [x0 ^^^ m0, x1 ^^^ m1, x2 ^^^ m2, x3 ^^^ m3]) rfl, z]
    simp only [List.zipWith_cons_cons, List.zipWith_nil_left, c]
  rw [e, eats_zero_left, eats_append, eats_noughts]
  exact iter_ne _ (eats_four_ne _ _ _ _ h)

theorem iter_inj (n : Nat) {x y : B32} (h : iter n x = iter n y) : x = y := by
  by_cases e : x ^^^ y = 0#32
  · exact BitVec.xor_eq_zero_iff.1 e
  · have := iter_ne n e
    rw [iter_xor, h, BitVec.xor_self] at this
    exact absurd rfl this

/-- None of the next n noughts brings f back. -/
def never (f : B32) : Nat → B32 → Bool
  | 0, _ => true
  | n + 1, x => (iter 8 x != f) && never f n (iter 8 x)

theorem never_tells (f : B32) : ∀ (n : Nat) (x : B32), never f n x = true → ∀ d, 0 < d → d ≤ n → iter (8 * d) x ≠ f := by
  intro n
  induction n with
  | zero => intro x _ d h1 h2; omega
  | succ n ih =>
    intro x h d h1 h2
    simp only [never, Bool.and_eq_true, bne_iff_ne] at h
    by_cases e : d = 1
    · subst e; exact h.1
    · have := ih (iter 8 x) h.2 (d - 1) (by omega) (by omega)
      rw [iter_add] at this
      rwa [show 8 * (d - 1) + 8 = 8 * d from by omega] at this

theorem never_255 : never 4294967295#32 255 4294967295#32 = true := by decide +kernel

theorem noughts_ne (n m : Nat) (h : n < m) (hm : m ≤ 255) : more 0#32 (List.replicate n 0#8) ≠ more 0#32 (List.replicate m 0#8) := by
  intro e
  unfold more at e
  rw [eats_noughts, eats_noughts] at e
  have e1 := congrArg (fun z : B32 => ~~~ z) e
  simp only [BitVec.not_not] at e1
  rw [show 8 * m = 8 * n + 8 * (m - n) from by omega, ← iter_add] at e1
  exact never_tells _ 255 _ never_255 (m - n) (by omega) (by omega) (iter_inj _ e1).symm

end Go.Proofs.Ythhgmanoifpoiaa

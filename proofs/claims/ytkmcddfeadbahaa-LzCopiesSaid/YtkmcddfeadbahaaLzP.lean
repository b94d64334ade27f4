/- The plain law of blocks of sequences: how a block is read, how sequences are written, and that what was written is read back; no program in sight. -/
namespace Go.Proofs.Ytkmcddfeadbahaa

abbrev B8 := BitVec 8
/-- The byte at a place. -/
def bt (b : List B8) (i : Nat) : B8 := b.getD i 0#8

/-- Bytes that add to a length. -/
def lenN : Nat → List B8 → Option (Nat × List B8)
  | _, [] => none
  | n, c :: b => if c.toNat < 255 then some (n + c.toNat, b) else lenN (n + c.toNat) b
/-- A length and what is behind it. -/
def lenG (n : Nat) (b : List B8) : Option (Nat × List B8) := if n < 15 then some (n, b) else lenN n b

/-- Bytes copied one by one from a distance back. -/
def copyN (out : List B8) (d : Nat) : Nat → List B8
  | 0 => out
  | m + 1 => copyN out d m ++ [bt (copyN out d m) ((copyN out d m).length - d)]

/-- A sequence: its literals; its distance and length, if it has a match; what is behind it. -/
def seqOf : List B8 → Option (List B8 × Option (Nat × Nat) × List B8)
  | [] => none
  | t :: b1 =>
    match lenG (t.toNat / 16) b1 with
    | none => none
    | some (l, b2) =>
      if b2.length < l then none else
      match b2.drop l with
      | [] => some (b2.take l, none, [])
      | [_] => none
      | x :: y :: b4 =>
        match lenG (t.toNat % 16) b4 with
        | none => none
        | some (m, b5) => some (b2.take l, some (x.toNat + 256 * y.toNat, m + 4), b5)

inductive Res where
  | bad (e : Int)
  | good (out : List B8)

/-- What a block says, read from a place on. -/
def unpF : Nat → List B8 → List B8 → Nat → Res
  | 0, _, _, _ => .bad 2
  | f + 1, b, out, n =>
    match seqOf b with
    | none => .bad 2
    | some (lits, cpy, rest) =>
      if n < out.length + lits.length then .bad 3 else
      match cpy with
      | none => if (out ++ lits).length = n then .good (out ++ lits) else .bad 2
      | some (d, m) =>
        if d = 0 ∨ (out ++ lits).length < d then .bad 4
        else if n < (out ++ lits).length + m then .bad 3
        else unpF f rest (copyN (out ++ lits) d m) n
def unp (b out : List B8) (n : Nat) : Res := unpF (b.length + 1) b out n

theorem lenN_length : ∀ (b : List B8) (n m : Nat) (r : List B8), lenN n b = some (m, r) → r.length < b.length
  | [], _, _, _, h => by simp [lenN] at h
  | c :: b, n, m, r, h => by
    unfold lenN at h
    split at h
    · injection h with h; injection h with _ h; subst h; simp
    · have := lenN_length b _ _ _ h; simp; omega
theorem lenG_length {b : List B8} {n m : Nat} {r : List B8} (h : lenG n b = some (m, r)) : r.length ≤ b.length := by
  unfold lenG at h
  split at h
  · injection h with h; injection h with _ h; subst h; exact Nat.le_refl _
  · exact Nat.le_of_lt (lenN_length b _ _ _ h)
theorem seqOf_length {b lits rest : List B8} {c : Option (Nat × Nat)} (h : seqOf b = some (lits, c, rest)) : rest.length < b.length := by
  cases b with
  | nil => simp [seqOf] at h
  | cons t b1 =>
    simp only [seqOf] at h
    split at h
    · cases h
    · rename_i l b2 h1
      have k1 := lenG_length h1
      split at h
      · cases h
      · split at h
        · injection h with h; injection h with _ h; injection h with _ h; subst h; simp
        · cases h
        · rename_i x y b4 hd
          have k2 : (b2.drop l).length ≤ b2.length := by simp
          rw [hd] at k2
          simp only [List.length_cons] at k2 ⊢
          split at h
          · cases h
          · rename_i m b5 h5
            have k3 := lenG_length h5
            injection h with h; injection h with _ h; injection h with _ h; subst h; omega

theorem unpF_fuel : ∀ (f g : Nat) (b out : List B8) (n : Nat), b.length < f → b.length < g → unpF f b out n = unpF g b out n
  | 0, _, _, _, _, h, _ => by omega
  | _ + 1, 0, _, _, _, _, h => by omega
  | f + 1, g + 1, b, out, n, hf, hg => by
    simp only [unpF]
    cases hs : seqOf b with
    | none => rfl
    | some p =>
      obtain ⟨lits, c, rest⟩ := p
      have hl := seqOf_length hs
      cases c with
      | none => rfl
      | some q =>
        obtain ⟨d, m⟩ := q
        simp only []
        rw [unpF_fuel f g rest _ n (by omega) (by omega)]

theorem unp_eq (b out : List B8) (n : Nat) : unp b out n =
    match seqOf b with
    | none => .bad 2
    | some (lits, cpy, rest) =>
      if n < out.length + lits.length then .bad 3 else
      match cpy with
      | none => if (out ++ lits).length = n then .good (out ++ lits) else .bad 2
      | some (d, m) =>
        if d = 0 ∨ (out ++ lits).length < d then .bad 4
        else if n < (out ++ lits).length + m then .bad 3
        else unp rest (copyN (out ++ lits) d m) n := by
  unfold unp
  rw [unpF]
  cases hs : seqOf b with
  | none => rfl
  | some p =>
    obtain ⟨lits, c, rest⟩ := p
    have hl := seqOf_length hs
    cases c with
    | none => rfl
    | some q =>
      obtain ⟨d, m⟩ := q
      simp only []
      rw [unpF_fuel b.length (rest.length + 1) rest _ n (by omega) (by omega)]

theorem copyN_length (out : List B8) (d m : Nat) : (copyN out d m).length = out.length + m := by
  induction m with
  | zero => rfl
  | succ m ih => simp [copyN, ih]; omega

/-! ### writing -/
/-- The rest of a length, as bytes. -/
def lenE (n : Nat) : List B8 := if n < 15 then [] else List.replicate ((n - 15) / 255) 255#8 ++ [BitVec.ofNat 8 ((n - 15) % 255)]
def token (l m : Nat) : B8 := BitVec.ofNat 8 (min l 15 * 16 + min m 15)
def back2 (d : Nat) : List B8 := [BitVec.ofNat 8 d, BitVec.ofNat 8 (d / 256)]
/-- A sequence with a match. -/
def seqM (lits : List B8) (d m : Nat) : List B8 := token lits.length (m - 4) :: (lenE lits.length ++ (lits ++ (back2 d ++ lenE (m - 4))))
/-- The last sequence. -/
def seqL (lits : List B8) : List B8 := token lits.length 0 :: (lenE lits.length ++ lits)

theorem lenN_rep (q : Nat) : ∀ (n m : Nat) (r : List B8), m < 255 → lenN n (List.replicate q 255#8 ++ BitVec.ofNat 8 m :: r) = some (n + 255 * q + m, r) := by
  induction q with
  | zero =>
    intro n m r hm
    simp only [List.replicate_zero, List.nil_append, lenN]
    have e : (BitVec.ofNat 8 m).toNat = m := by rw [BitVec.toNat_ofNat]; omega
    rw [e, if_pos hm]; rfl
  | succ q ih =>
    intro n m r hm
    rw [List.replicate_succ, List.cons_append, lenN, if_neg (by decide), ih _ _ _ hm]
    have e : (255#8).toNat = 255 := rfl
    rw [e]
    congr 2
    omega
theorem lenG_lenE (n : Nat) (r : List B8) : lenG (min n 15) (lenE n ++ r) = some (n, r) := by
  unfold lenG lenE
  by_cases h : n < 15
  · rw [if_pos (by omega), if_pos h]
    rw [Nat.min_eq_left (by omega)]; rfl
  · rw [if_neg (by omega), if_neg h, List.append_assoc]
    rw [Nat.min_eq_right (by omega)]
    show lenN 15 (_ ++ (BitVec.ofNat 8 ((n - 15) % 255) :: r)) = _
    rw [lenN_rep _ _ _ _ (Nat.mod_lt _ (by decide))]
    congr 2
    omega
theorem token_hi (l m : Nat) : (token l m).toNat / 16 = min l 15 := by
  unfold token; rw [BitVec.toNat_ofNat]; omega
theorem token_lo (l m : Nat) : (token l m).toNat % 16 = min m 15 := by
  unfold token; rw [BitVec.toNat_ofNat]; omega

theorem seqOf_seqM (lits r : List B8) (d m : Nat) (hd : d < 65536) (hm : 4 ≤ m) : seqOf (seqM lits d m ++ r) = some (lits, some (d, m), r) := by
  unfold seqM
  simp only [List.cons_append, seqOf, token_hi, List.append_assoc, lenG_lenE]
  rw [if_neg (by simp)]
  rw [List.drop_append_of_le_length (Nat.le_refl _), List.drop_length, List.nil_append]
  simp only [back2, List.cons_append, List.nil_append, token_lo, lenG_lenE]
  rw [List.take_append_of_le_length (Nat.le_refl _), List.take_length]
  congr 3
  · rw [BitVec.toNat_ofNat, BitVec.toNat_ofNat]
    congr 2
    · omega
    · omega
theorem seqOf_seqL (lits : List B8) : seqOf (seqL lits) = some (lits, none, []) := by
  unfold seqL
  simp only [seqOf, token_hi, lenG_lenE]
  rw [if_neg (by omega), List.drop_length, List.take_length]

/-- What is written is read: a match. -/
theorem unp_seqM (lits out r : List B8) (d m n : Nat) (hd : d < 65536) (hm : 4 ≤ m) (h0 : 0 < d) (h1 : d ≤ out.length + lits.length) (h2 : out.length + lits.length + m ≤ n) :
    unp (seqM lits d m ++ r) out n = unp r (copyN (out ++ lits) d m) n := by
  rw [unp_eq, seqOf_seqM _ _ _ _ hd hm]
  simp only []
  rw [if_neg (by omega), if_neg (by rw [List.length_append]; omega), if_neg (by rw [List.length_append]; omega)]
theorem unp_seqL (lits out : List B8) (n : Nat) (h : out.length + lits.length = n) : unp (seqL lits) out n = .good (out ++ lits) := by
  rw [unp_eq, seqOf_seqL]
  simp only []
  rw [if_neg (by omega), if_pos (by rw [List.length_append]; omega)]

theorem bt_at {b : List B8} {i : Nat} (h : i < b.length) : b[i]? = some (bt b i) := by
  unfold bt
  rw [List.getD_eq_getElem?_getD, List.getElem?_eq_getElem h]; rfl
theorem bt_take {a : List B8} {k i : Nat} (h : i < k) : bt (a.take k) i = bt a i := by
  unfold bt
  rw [List.getD_eq_getElem?_getD, List.getD_eq_getElem?_getD, List.getElem?_take, if_pos h]
theorem take_snoc {b : List B8} {i : Nat} (h : i < b.length) : b.take (i + 1) = b.take i ++ [bt b i] := by
  rw [List.take_add_one, bt_at h]; rfl

/-- A copy of what stands there is what stands there. -/
theorem copyN_take (b : List B8) (i d m : Nat) (h0 : 0 < d) (hd : d ≤ i) (hm : i + m ≤ b.length) (heq : ∀ j, j < m → bt b (i - d + j) = bt b (i + j)) : copyN (b.take i) d m = b.take (i + m) := by
  induction m with
  | zero => rfl
  | succ m ih =>
    rw [copyN, ih (by omega) (fun j hj => heq j (by omega))]
    have hl : (b.take (i + m)).length = i + m := by rw [List.length_take]; omega
    rw [hl, bt_take (by omega), show i + m - d = i - d + m by omega, heq m (by omega), ← Nat.add_assoc, take_snoc (by omega)]

/-! ### packing -/
/-- How many bytes two places have in common from the n-th on, at most f more. -/
def al (b : List B8) (i k : Nat) : Nat → Nat → Nat
  | n, 0 => n
  | n, f + 1 => if bt b (i + n) = bt b (k + n) then al b i k (n + 1) f else n
def alike (b : List B8) (i k e : Nat) : Nat := al b i k 0 (e - k)

/-- The state of a packer: the last places of four bytes and the ones ahead of them (each and 1). -/
structure Tab where
  ahead : List B8 → Nat
  before : List Nat
def four (b : List B8) (i : Nat) : List B8 := [bt b i, bt b (i + 1), bt b (i + 2), bt b (i + 3)]
def note (b : List B8) (t : Tab) (i : Nat) : Tab :=
  if i + 4 ≤ b.length then { ahead := fun x => if x = four b i then i + 1 else t.ahead x, before := t.before.set i (t.ahead (four b i)) } else t
def notes (b : List B8) (t : Tab) (i : Nat) : Nat → Tab
  | 0 => t
  | m + 1 => note b (notes b t i m) (i + m)
/-- The longest of the places that are tried. -/
def chain (b : List B8) (before : List Nat) (i : Nat) : Nat → Nat → Nat → Nat → Nat × Nat
  | 0, _, at_, many => (at_, many)
  | f + 1, k, at_, many =>
    if k = 0 then (at_, many)
    else if many < alike b (k - 1) i (b.length - 5) then chain b before i f (before.getD (k - 1) 0) (k - 1) (alike b (k - 1) i (b.length - 5))
    else chain b before i f (before.getD (k - 1) 0) at_ many
def best (b : List B8) (t : Tab) (i : Nat) : Nat × Nat := chain b t.before i 32 (t.ahead (four b i)) 0 0

structure St where
  tab : Tab
  i : Nat
  from_ : Nat
  out : List B8
def stepP (b : List B8) (s : St) : St :=
  if (best b s.tab s.i).2 < 4 then { s with tab := note b s.tab s.i, i := s.i + 1 }
  else { tab := notes b s.tab s.i (best b s.tab s.i).2, i := s.i + (best b s.tab s.i).2, from_ := s.i + (best b s.tab s.i).2,
         out := s.out ++ seqM ((b.take s.i).drop s.from_) (s.i - (best b s.tab s.i).1) (best b s.tab s.i).2 }
def packF (b : List B8) : Nat → St → List B8
  | 0, s => s.out
  | f + 1, s => if s.i + 12 ≤ b.length then packF b f (stepP b s) else s.out ++ seqL (b.drop s.from_)
def start (b : List B8) : St := { tab := { ahead := fun _ => 0, before := List.replicate b.length 0 }, i := 0, from_ := 0, out := [] }
/-- A packed block. -/
def pack (b : List B8) : List B8 := packF b (b.length + 1) (start b)
end Go.Proofs.Ytkmcddfeadbahaa

/- The plain law of packing: what was packed is read back; it is not too long; a row of one byte is made small. -/
import Derived.Test.YtkmcddfeadbahaaLzP
namespace Go.Proofs.Ytkmcddfeadbahaa

theorem al_spec (b : List B8) (i k : Nat) : ∀ (f n : Nat), n ≤ al b i k n f ∧ al b i k n f ≤ n + f ∧ ∀ j, n ≤ j → j < al b i k n f → bt b (i + j) = bt b (k + j)
  | 0, n => ⟨Nat.le_refl _, Nat.le_refl _, fun j h1 h2 => by simp only [al] at h2; omega⟩
  | f + 1, n => by
    unfold al
    split
    · rename_i he
      obtain ⟨h1, h2, h3⟩ := al_spec b i k f (n + 1)
      refine ⟨by omega, by omega, fun j hj hj2 => ?_⟩
      by_cases e : j = n
      · subst e; exact he
      · exact h3 j (by omega) hj2
    · exact ⟨Nat.le_refl _, by omega, fun j h1 h2 => by omega⟩
theorem alike_spec (b : List B8) (i k e : Nat) (h : k ≤ e) : k + alike b i k e ≤ e ∧ ∀ j, j < alike b i k e → bt b (i + j) = bt b (k + j) := by
  obtain ⟨_, h2, h3⟩ := al_spec b i k (e - k) 0
  unfold alike
  exact ⟨by omega, fun j hj => h3 j (by omega) hj⟩

/-- A match: where it begins, how long it is. -/
def Match (b : List B8) (i : Nat) (p : Nat × Nat) : Prop := 0 < p.2 → p.1 < i ∧ i + p.2 ≤ b.length - 5 ∧ ∀ j, j < p.2 → bt b (p.1 + j) = bt b (i + j)

theorem chain_match (b : List B8) (before : List Nat) (i : Nat) (hi : i + 12 ≤ b.length) (hb : ∀ j, before.getD j 0 ≤ i) :
    ∀ (f k a m : Nat), k ≤ i → Match b i (a, m) → Match b i (chain b before i f k a m)
  | 0, _, _, _, _, h => h
  | f + 1, k, a, m, hk, h => by
    unfold chain
    split
    · exact h
    · rename_i h0
      split
      · obtain ⟨h1, h2⟩ := alike_spec b (k - 1) i (b.length - 5) (by omega)
        exact chain_match b before i hi hb f _ _ _ (hb _) fun _ => ⟨show k - 1 < i by omega, h1, h2⟩
      · exact chain_match b before i hi hb f _ _ _ (hb _) h

/-- All places noted are before i. -/
def TabOk (b : List B8) (t : Tab) (i : Nat) : Prop := t.before.length = b.length ∧ (∀ x, t.ahead x ≤ i) ∧ ∀ j, t.before.getD j 0 ≤ i
theorem note_ok {b : List B8} {t : Tab} {i : Nat} (h : TabOk b t i) : TabOk b (note b t i) (i + 1) := by
  obtain ⟨h1, h2, h3⟩ := h
  unfold note
  split
  · refine ⟨by simpa using h1, fun x => ?_, fun j => ?_⟩
    · show (if x = four b i then i + 1 else t.ahead x) ≤ i + 1
      split
      · exact Nat.le_refl _
      · have := h2 x; omega
    · show (t.before.set i (t.ahead (four b i))).getD j 0 ≤ i + 1
      rw [List.getD_eq_getElem?_getD, List.getElem?_set]
      have := h3 j
      rw [List.getD_eq_getElem?_getD] at this
      have := h2 (four b i)
      split
      · split
        · show t.ahead _ ≤ _; omega
        · simp
      · omega
  · exact ⟨h1, fun x => Nat.le_trans (h2 x) (by omega), fun j => Nat.le_trans (h3 j) (by omega)⟩
theorem notes_ok {b : List B8} {t : Tab} {i : Nat} (h : TabOk b t i) : ∀ m, TabOk b (notes b t i m) (i + m)
  | 0 => h
  | m + 1 => note_ok (notes_ok h m)
theorem best_match {b : List B8} {t : Tab} {i : Nat} (h : TabOk b t i) (hi : i + 12 ≤ b.length) : Match b i (best b t i) :=
  chain_match b t.before i hi h.2.2 32 _ _ _ (h.2.1 _) (fun h0 => absurd h0 (Nat.lt_irrefl 0))

/-- What holds of a packer's state. -/
structure StOk (b : List B8) (s : St) : Prop where
  tab : TabOk b s.tab s.i
  le : s.from_ ≤ s.i
  len : s.i ≤ b.length
  says : ∀ r, unp (s.out ++ r) [] b.length = unp r (b.take s.from_) b.length
  size : 255 * s.out.length ≤ 256 * s.from_

theorem lenE_length (n : Nat) : (lenE n).length = if n < 15 then 0 else (n - 15) / 255 + 1 := by
  unfold lenE; split <;> simp
theorem lenE_le (n : Nat) : (lenE n).length ≤ n := by rw [lenE_length]; split <;> omega
theorem lenE_255 (n : Nat) : 255 * (lenE n).length ≤ n + 255 := by rw [lenE_length]; split <;> omega

theorem step_ok {b : List B8} {s : St} (h : StOk b s) (hi : s.i + 12 ≤ b.length) (hb : b.length ≤ 4096) : StOk b (stepP b s) ∧ s.i < (stepP b s).i := by
  unfold stepP
  split
  · exact ⟨⟨note_ok h.tab, Nat.le_succ_of_le h.le, by show s.i + 1 ≤ _; omega, h.says, h.size⟩, Nat.lt_succ_self _⟩
  · rename_i h4
    obtain ⟨m1, m2, m3⟩ := best_match h.tab hi (by omega)
    have hle := h.le
    have hll : ((b.take s.i).drop s.from_).length = s.i - s.from_ := by rw [List.length_drop, List.length_take]; omega
    have htl : (b.take s.from_).length = s.from_ := by rw [List.length_take]; omega
    generalize best b s.tab s.i = p at *
    obtain ⟨a, m⟩ := p
    simp only [] at *
    refine ⟨⟨notes_ok h.tab m, Nat.le_refl _, by show s.i + m ≤ _; omega, fun r => ?_, ?_⟩, by show s.i < s.i + m; omega⟩
    · show unp (s.out ++ seqM _ _ _ ++ r) [] _ = unp r (b.take (s.i + m)) _
      rw [List.append_assoc, h.says, unp_seqM _ _ _ _ _ _ (by omega) (by omega) (by omega) (by omega) (by omega)]
      congr 1
      have e : b.take s.from_ ++ (b.take s.i).drop s.from_ = b.take s.i := by
        have := List.take_append_drop s.from_ (b.take s.i)
        rwa [List.take_take, Nat.min_eq_left hle] at this
      rw [e, copyN_take b s.i (s.i - a) m (by omega) (by omega) (by omega)]
      intro j hj
      rw [show s.i - (s.i - a) + j = a + j by omega]
      exact m3 j hj
    · show 255 * (s.out ++ seqM _ _ _).length ≤ 256 * (s.i + m)
      have hs := h.size
      unfold seqM back2
      simp only [List.length_append, List.length_cons, List.length_nil, hll]
      have e1 := lenE_255 (s.i - s.from_)
      have e2 := lenE_le (m - 4)
      omega

theorem packF_ok (b : List B8) (hb : b.length ≤ 4096) : ∀ (f : Nat) (s : St), StOk b s → b.length - s.i < f →
    unp (packF b f s) [] b.length = .good b ∧ 255 * (packF b f s).length ≤ 256 * b.length + 510
  | 0, _, _, h => by omega
  | f + 1, s, h, hf => by
    unfold packF
    split
    · rename_i hi
      obtain ⟨h1, h2⟩ := step_ok h hi hb
      exact packF_ok b hb f _ h1 (by omega)
    · have hle := h.le
      have hln := h.len
      have htl : (b.take s.from_).length = s.from_ := by rw [List.length_take]; omega
      have hdl : (b.drop s.from_).length = b.length - s.from_ := by rw [List.length_drop]
      refine ⟨?_, ?_⟩
      · rw [h.says, unp_seqL _ _ _ (by omega), List.take_append_drop]
      · have hs := h.size
        unfold seqL
        simp only [List.length_append, List.length_cons, hdl]
        have e1 := lenE_255 (b.length - s.from_)
        omega

theorem start_ok (b : List B8) : StOk b (start b) :=
  ⟨⟨by simp [start], fun _ => Nat.zero_le _, fun j => by
    show (List.replicate b.length 0).getD j 0 ≤ 0
    rw [List.getD_eq_getElem?_getD, List.getElem?_replicate]
    split <;> simp⟩, Nat.le_refl _, Nat.zero_le _, fun r => rfl, Nat.zero_le _⟩

/-- What was packed is read back. -/
theorem unp_pack (b : List B8) (hb : b.length ≤ 4096) : unp (pack b) [] b.length = .good b :=
  (packF_ok b hb _ _ (start_ok b) (by show b.length - 0 < _; omega)).1
theorem pack_length (b : List B8) (hb : b.length ≤ 4096) : (pack b).length ≤ b.length + b.length / 255 + 16 := by
  have := (packF_ok b hb (b.length + 1) _ (start_ok b) (by show b.length - 0 < _; omega)).2
  unfold pack
  omega

/-! ### a row of one byte -/
theorem bt_rep {x : B8} {n i : Nat} (h : i < n) : bt (List.replicate n x) i = x := by
  unfold bt; rw [List.getD_eq_getElem?_getD, List.getElem?_replicate, if_pos h]; rfl
theorem al_rep (b : List B8) (i k : Nat) : ∀ (f n : Nat), (∀ j, n ≤ j → j < n + f → bt b (i + j) = bt b (k + j)) → al b i k n f = n + f
  | 0, n, _ => rfl
  | f + 1, n, h => by
    unfold al
    rw [if_pos (h n (Nat.le_refl _) (by omega)), al_rep b i k f (n + 1) (fun j h1 h2 => h j (by omega) (by omega))]
    omega

theorem pack_row (x : B8) (n : Nat) (h : 64 ≤ n) (hn : n ≤ 4096) : (pack (List.replicate n x)).length ≤ n / 4 + 16 := by
  obtain ⟨b, hb⟩ : ∃ b, b = List.replicate n x := ⟨_, rfl⟩
  have hl : b.length = n := by rw [hb]; simp
  have hx : ∀ i, i < n → bt b i = x := fun i hi => by rw [hb]; exact bt_rep hi
  rw [← hb]
  have f0 : four b 0 = [x, x, x, x] := by unfold four; rw [hx 0 (by omega), hx 1 (by omega), hx 2 (by omega), hx 3 (by omega)]
  have f1 : four b 1 = [x, x, x, x] := by unfold four; rw [hx 1 (by omega), hx 2 (by omega), hx 3 (by omega), hx 4 (by omega)]
  have e1 : best b (start b).tab 0 = (0, 0) := rfl
  have e2 : stepP b (start b) = { start b with tab := note b (start b).tab 0, i := 1 } := by
    unfold stepP
    have : best b (start b).tab (start b).i = (0, 0) := e1
    rw [this, if_pos (by decide)]
    rfl
  have ha : alike b 0 1 (b.length - 5) = n - 6 := by
    unfold alike
    rw [al_rep b 0 1 _ 0 (fun j _ hj => by rw [hx _ (by omega), hx _ (by omega)])]
    omega
  have e3 : best b (note b (start b).tab 0) 1 = (0, n - 6) := by
    unfold best
    have k0 : (note b (start b).tab 0).ahead (four b 1) = 1 := by
      unfold note
      rw [if_pos (by omega), f1, ← f0]
      show (if four b 0 = four b 0 then 0 + 1 else _) = 1
      rw [if_pos rfl]
    have k1 : (note b (start b).tab 0).before.getD 0 0 = 0 := by
      unfold note
      rw [if_pos (by omega)]
      show ((List.replicate b.length 0).set 0 0).getD 0 0 = 0
      rw [hl]
      obtain ⟨m, rfl⟩ : ∃ m, n = m + 1 := ⟨n - 1, by omega⟩
      rfl
    rw [k0]
    show chain b _ 1 (31 + 1) 1 0 0 = _
    unfold chain
    rw [if_neg (by decide)]
    show (if 0 < alike b 0 1 (b.length - 5) then _ else _) = _
    rw [ha, if_pos (by omega)]
    show chain b _ 1 (30 + 1) ((note b (start b).tab 0).before.getD 0 0) 0 (n - 6) = _
    rw [k1]
    unfold chain
    rw [if_pos rfl]
  have e4 : ∃ t, stepP b (stepP b (start b)) = { tab := t, i := n - 5, from_ := n - 5, out := seqM ((b.take 1).drop 0) 1 (n - 6) } := by
    rw [e2]
    unfold stepP
    simp only [e3]
    rw [if_neg (by omega)]
    exact ⟨_, by congr 1 <;> omega⟩
  obtain ⟨t, e4⟩ := e4
  obtain ⟨f, hf⟩ : ∃ f, b.length + 1 = f + 3 := ⟨b.length - 2, by omega⟩
  unfold pack
  rw [hf]
  unfold packF
  rw [if_pos (by show 0 + 12 ≤ _; omega)]
  unfold packF
  rw [if_pos (by rw [e2]; show 1 + 12 ≤ _; omega), e4]
  unfold packF
  rw [if_neg (by show ¬ n - 5 + 12 ≤ _; omega)]
  have hd : (b.drop (n - 5)).length = 5 := by rw [List.length_drop]; omega
  have ht : ((b.take 1).drop 0).length = 1 := by rw [List.drop_zero, List.length_take]; omega
  show (seqM ((b.take 1).drop 0) 1 (n - 6) ++ seqL (b.drop (n - 5))).length ≤ _
  unfold seqM seqL back2
  simp only [List.length_append, List.length_cons, List.length_nil, hd, ht]
  have q1 := lenE_length 1
  have q5 := lenE_length 5
  have qn := lenE_length (n - 6 - 4)
  rw [if_pos (by decide)] at q1 q5
  split at qn <;> omega
end Go.Proofs.Ytkmcddfeadbahaa

/- A long region whose temporaries stand in a row: its text's order serves every order, shown by one cheap look at each operation. -/
import Derived.Deep.QuietTactic
namespace Go.Proofs.Ythhgmanoifpoiaa
open Go

def ssaOp (d k : Nat) (o : Oper) : Bool :=
  (o.dst == some (d + k)) && ((o.after.all fun e => decide (e.on < k)) &&
  ((o.op.operands.all fun x => match x with | .tmp t => decide (t < d) || (o.after.any fun e => Region.binds .any e && e.on + d == t) | _ => true) &&
  ((match o.guard with | some (g, _) => o.after.any fun e => Region.binds .any e && e.on == g | none => true) &&
  (match o.op with | .select .. => false | _ => true))))
/-- The last operation of a region: it waits for all others. -/
def ssaEnd (k : Nat) (o : Oper) : Bool :=
  (o.after.all fun e => decide (e.on < k)) && ((List.range k).all (fun i => o.after.any fun e => Region.binds .any e && e.on == i) &&
  (match o.op with | .select .. => false | _ => true))
def ssaRow (d : Nat) : Nat → List Oper → Bool
  | _, [] => true
  | k, o :: rest => (ssaOp d k o || (rest.isEmpty && ssaEnd k o)) && ssaRow d (k + 1) rest

theorem ssaRow_at (d : Nat) : ∀ (l : List Oper) (s : Nat), ssaRow d s l = true → ∀ (k : Nat) (o : Oper), l[k]? = some o → ssaOp d (s + k) o = true ∨ (k + 1 = l.length ∧ ssaEnd (s + k) o = true)
  | [], _, _, k, o, h => by simp at h
  | x :: l, s, hr, k, o, h => by
    simp only [ssaRow, Bool.and_eq_true, Bool.or_eq_true, List.isEmpty_iff] at hr
    cases k with
    | zero =>
      simp at h; subst h
      rcases hr.1 with h1 | ⟨h1, h2⟩
      · exact .inl h1
      · exact .inr ⟨by rw [h1]; rfl, h2⟩
    | succ k =>
      have := ssaRow_at d l (s + 1) hr.2 k o (by simpa using h)
      rw [show s + 1 + k = s + (k + 1) by omega] at this
      rcases this with h1 | ⟨h1, h2⟩
      · exact .inl h1
      · exact .inr ⟨by simp; omega, h2⟩

structure Ssa (d k : Nat) (o : Oper) : Prop where
  dst : o.dst = some (d + k)
  back : ∀ e ∈ o.after, e.on < k
  tmp : ∀ t, Operand.tmp t ∈ o.op.operands → t < d ∨ ∃ e ∈ o.after, Region.binds .any e = true ∧ e.on + d = t
  guard : ∀ g b, o.guard = some (g, b) → ∃ e ∈ o.after, Region.binds .any e = true ∧ e.on = g
  sel : ∀ cs b, o.op ≠ .select cs b

theorem ssa_of {d k : Nat} {o : Oper} (h : ssaOp d k o = true) : Ssa d k o := by
  unfold ssaOp at h
  simp only [Bool.and_eq_true] at h
  obtain ⟨h1, h2, h3, h4, h5⟩ := h
  refine ⟨by simpa using h1, fun e he => ?_, fun t ht => ?_, fun g b hg => ?_, fun cs b hs => ?_⟩
  · have := Array.all_eq_true_iff_forall_mem.1 h2 e he
    simpa using this
  · have := Array.all_eq_true_iff_forall_mem.1 h3 _ ht
    simp only [Bool.or_eq_true, decide_eq_true_eq] at this
    rcases this with h | h
    · exact .inl h
    · obtain ⟨e, he, hb⟩ := Array.any_eq_true'.1 h
      simp only [Bool.and_eq_true, beq_iff_eq] at hb
      exact .inr ⟨e, he, hb.1, hb.2⟩
  · rw [hg] at h4
    obtain ⟨e, he, hb⟩ := Array.any_eq_true'.1 h4
    simp only [Bool.and_eq_true, beq_iff_eq] at hb
    exact ⟨e, he, hb.1, hb.2⟩
  · rw [hs] at h5; cases h5

structure SsaEnd (k : Nat) (o : Oper) : Prop where
  back : ∀ e ∈ o.after, e.on < k
  all : ∀ i, i < k → o.after.any (fun e => Region.binds .any e && e.on == i) = true
  sel : ∀ cs b, o.op ≠ .select cs b
theorem ssaEnd_of {k : Nat} {o : Oper} (h : ssaEnd k o = true) : SsaEnd k o := by
  unfold ssaEnd at h
  simp only [Bool.and_eq_true] at h
  obtain ⟨h2, h3, h5⟩ := h
  refine ⟨fun e he => ?_, fun i hi => ?_, fun cs b hs => ?_⟩
  · have := Array.all_eq_true_iff_forall_mem.1 h2 e he
    simpa using this
  · exact List.all_eq_true.1 h3 i (List.mem_range.2 hi)
  · rw [hs] at h5; cases h5

section
variable {l : List Oper} {d : Nat}
def SsaAt (l : List Oper) (d k : Nat) (o : Oper) : Prop := Ssa d k o ∨ (k + 1 = l.length ∧ SsaEnd k o)
theorem SsaAt.back {k : Nat} {o : Oper} (h : SsaAt l d k o) : ∀ e ∈ o.after, e.on < k := by rcases h with h | ⟨_, h⟩ <;> exact h.back
theorem SsaAt.sel {k : Nat} {o : Oper} (h : SsaAt l d k o) : ∀ cs b, o.op ≠ .select cs b := by rcases h with h | ⟨_, h⟩ <;> exact h.sel
theorem SsaAt.mid {k : Nat} {o : Oper} (h : SsaAt l d k o) (hk : k + 1 < l.length) : Ssa d k o := by
  rcases h with h | ⟨h, _⟩
  · exact h
  · omega

theorem Ssa.looks (H : ∀ k o, l[k]? = some o → SsaAt l d k o) {j : Nat} {o : Oper} (hj : l[j]? = some o) (S : Ssa d j o) {t : Nat} (ht : t ∈ o.looksAt l.toArray) :
    t < d ∨ ∃ e ∈ o.after, Region.binds .any e = true ∧ e.on + d = t := by
  have hjl : j < l.length := (List.getElem?_eq_some_iff.1 hj).1
  unfold Oper.looksAt at ht
  rcases List.mem_append.1 ht with h | h
  · obtain ⟨x, hx, hxt⟩ := List.mem_filterMap.1 h
    split at hxt
    · injection hxt with hxt; subst hxt
      exact S.tmp _ (by simpa using hx)
    · cases hxt
  · split at h
    · rename_i g b hg
      obtain ⟨e, he, hb, hon⟩ := S.guard g b hg
      have hgj := S.back e he
      refine .inr ⟨e, he, hb, ?_⟩
      cases hgo : l[g]? with
      | none => simp [hgo] at h
      | some og =>
        have := ((H g og hgo).mid (by omega)).dst
        simp [hgo, this] at h
        omega
    · simp at h

theorem Ssa.apart (H : ∀ k o, l[k]? = some o → SsaAt l d k o) {k j : Nat} {ok oj : Oper} (hk : l[k]? = some ok) (hj : l[j]? = some oj) (hlt : k < j) :
    (oj.after.any (fun e => Region.binds .any e && e.on == k) || ok.apart l.toArray oj) = true := by
  have hjl : j < l.length := (List.getElem?_eq_some_iff.1 hj).1
  have K := (H k ok hk).mid (by omega)
  rcases H j oj hj with J | ⟨_, J⟩
  case inr => rw [J.all k hlt]; rfl
  by_cases hw : oj.after.any (fun e => Region.binds .any e && e.on == k) = true
  · rw [hw]; rfl
  · rw [Bool.eq_false_iff.2 hw]
    show ok.apart l.toArray oj = true
    have hnw : ∀ e ∈ oj.after, Region.binds .any e = true → e.on ≠ k := fun e he hb heq => hw (Array.any_eq_true'.2 ⟨e, he, by simp [hb, heq]⟩)
    unfold Oper.apart
    rw [K.dst, J.dst]
    have h1 : (oj.looksAt l.toArray).contains (d + k) = false := by
      rw [Bool.eq_false_iff]
      intro h
      rcases Ssa.looks H hj J (List.contains_iff_mem.1 h) with h | ⟨e, he, hb, hon⟩
      · omega
      · exact hnw e he hb (by omega)
    have h2 : (ok.looksAt l.toArray).contains (d + j) = false := by
      rw [Bool.eq_false_iff]
      intro h
      rcases Ssa.looks H hk K (List.contains_iff_mem.1 h) with h | ⟨e, he, hb, hon⟩
      · omega
      · have := K.back e he; omega
    have h3 : (some (d + j) != some (d + k)) = true := by simp; omega
    simp only [h1, h2, h3, Bool.not_false, Bool.and_self]

theorem lexFrom_ssa (H : ∀ k o, l[k]? = some o → SsaAt l d k o) : ∀ (fuel k : Nat) (listed : Array Bool), k + fuel = l.length → listed.size = l.length →
    (∀ j (hj : j < listed.size), listed[j] = decide (j < k)) → Region.lexFrom .any l.toArray fuel k listed = true
  | 0, k, listed, hk, hs, hl => by
    simp only [Region.lexFrom, List.isEmpty_iff]
    apply List.eq_nil_iff_forall_not_mem.2
    intro j hj
    obtain ⟨h1, o, ho, _⟩ := mem_ready.1 hj
    have hlt : j < l.length := by simpa using (Array.getElem?_eq_some_iff.1 ho).1
    have := hl j (by omega)
    simp [hs, hlt] at h1
    rw [h1] at this
    simp at this
    omega
  | fuel + 1, k, listed, hk, hs, hl => by
    have hkl : k < l.length := by omega
    have hko : l[k]? = some l[k] := List.getElem?_eq_getElem hkl
    have S := H k _ hko
    simp only [Region.lexFrom, Bool.and_eq_true]
    refine ⟨⟨?_, ?_⟩, ?_⟩
    · apply List.contains_iff_mem.2
      refine mem_ready.2 ⟨?_, l[k], by simp, fun e he _ => ?_⟩
      · have := hl k (by omega)
        simp [hs, hkl, this]
      · have hb := S.back e he
        have := hl e.on (by omega)
        simp [hs, show e.on < l.length by omega, this, hb]
    · unfold Region.free
      simp only [List.getElem?_toArray, hko]
      apply List.all_eq_true.2
      intro j hj
      have hjl : j < l.length := by simpa using hj
      have hjo : l[j]? = some l[j] := List.getElem?_eq_getElem hjl
      simp only [hjo]
      rcases Nat.lt_trichotomy j k with h | h | h
      · have := hl j (by omega)
        simp [hs, hjl, this, h]
      · simp [h]
      · rw [Ssa.apart H hko hjo h]; simp
    · refine lexFrom_ssa H fuel (k + 1) _ (by omega) (by simpa using hs) (fun j hj => ?_)
      have hj' : j < listed.size := by simpa using hj
      by_cases h : k = j
      · subst h; simp
      · rw [Array.getElem_setIfInBounds_ne hj' h, hl j hj']
        simp only [decide_eq_decide]
        omega

theorem lexB_ssa (h : ssaRow d 0 l = true) : Region.lexB .any l.toArray = true := by
  have H : ∀ k o, l[k]? = some o → SsaAt l d k o := fun k o hk => by
    have := ssaRow_at d l 0 h k o hk
    rw [Nat.zero_add] at this
    exact this.imp ssa_of (fun h => ⟨h.1, ssaEnd_of h.2⟩)
  simp only [Region.lexB, Bool.and_eq_true]
  refine ⟨?_, lexFrom_ssa H _ 0 _ (by simp) (by simp) (fun j hj => by simp)⟩
  unfold Region.noSelect
  apply Array.all_eq_true_iff_forall_mem.2
  intro o ho
  obtain ⟨k, hk⟩ := List.getElem?_of_mem (List.mem_toArray.1 ho)
  have := (H k o hk).sel
  split
  · rename_i cs b he; exact absurd he (this _ _)
  · rfl
end

/-- A long quiet region. -/
theorem wp_region_row {P : Program} {id : Nat} {Q : Exit → Act → World → Prop} {a : Act} {w : World} {l : List Oper} (d : Nat) (hm : P.follows .mixedOrders = true) (hB : ssaRow d 0 l = true)
    (h : wpQuiet P l.toArray (fun w' => ∃ n, w' = w.drewN n) (fun a' => ∀ w', (∃ n, w' = w.drewN n) → Q .normal a' w') l a) : (Code.region id l.toArray true).wp P Q a w :=
  wp_region_quiet_lit hm (lexB_ssa hB) h
end Go.Proofs.Ythhgmanoifpoiaa

/- Contracts of bytes.Clone and string(b). -/
import Derived.Test.YtkmcddfeadbahaaRfB
import Derived.Laws.BytesString
import Derived.Laws.Cover3
namespace Go.Proofs.Ytkmcddfeadbahaa
open Go.RowKit
set_option linter.unusedVariables false

theorem own_slice {w : World} {base e n : Nat} {v : Value} {xs : List Value} (h : w.ownsRow base e 1 v n xs) : ∃ A c, v = .slice A n c := by
  rcases h.2 with ⟨rfl, h0⟩ | ⟨g, cap, cur, rfl, _⟩
  · exact ⟨none, 0, by rw [h0]⟩
  · exact ⟨_, _, rfl⟩

/-- Bytes as a string, closed to the walk's simp. -/
def strOf (bs : List B8) : ByteArray := (bs.map I8).foldl (fun r n => r.push (UInt8.ofNat n.toNat)) ByteArray.empty

theorem fold_push (l : List Int) (s : ByteArray) : (l.foldl (fun r n => r.push (UInt8.ofNat n.toNat)) s).data.toList = s.data.toList ++ l.map (fun n => UInt8.ofNat n.toNat) := by
  induction l generalizing s with
  | nil => simp
  | cons x l ih =>
    rw [List.foldl_cons, ih]
    simp [ByteArray.push]
theorem strOf_data (bs : List B8) : (strOf bs).data.toList = bs.map (fun b => UInt8.ofNat b.toNat) := by
  unfold strOf
  rw [fold_push]
  simp [I8]
theorem strOf_inj {a b : List B8} (h : (strOf a).data.toList = (strOf b).data.toList) : a = b := by
  rw [strOf_data, strOf_data] at h
  have inj : ∀ x y : B8, UInt8.ofNat x.toNat = UInt8.ofNat y.toNat → x = y := by
    intro x y e
    have := congrArg UInt8.toNat e
    have h1 := x.isLt; have h2 := y.isLt
    simp at this
    exact BitVec.eq_of_toNat_eq (by omega)
  induction a generalizing b with
  | nil => cases b with
    | nil => rfl
    | cons => simp at h
  | cons x a ih => cases b with
    | nil => simp at h
    | cons y b =>
      simp only [List.map_cons, List.cons.injEq] at h
      rw [inj _ _ h.1, ih h.2]
theorem strOf_eq (a b : List B8) : ((strOf a).toList == (strOf b).toList) = decide (a = b) := by
  rw [ByteArray.toList_eq, ByteArray.toList_eq]
  by_cases h : a = b
  · subst h; simp
  · rw [decide_eq_false h, beq_eq_false_iff_ne]
    exact fun e => h (strOf_inj e)

theorem conv_str {P : Program} (src dst e : TypeId) (hs : P.underlying src = some (.slice e)) (he : P.underlying e = some (.int .u8)) (hd : P.underlying dst = some .string)
    {w : World} {B : Nat} {A : Option Addr} {n c : Nat} {bs : List B8} (hr : Rd w B A n bs) : (convert src dst (.slice A n c)).run P w = .ok (.string (strOf bs)) w := by
  rw [run_convert_bytes_string w src dst e A n c hs he hd]
  cases A with
  | none =>
    have hn : n = 0 := by
      rcases Nat.eq_zero_or_pos n with h | h
      · exact h
      · obtain ⟨_, e, _⟩ := hr.2 h; cases e
    have hb : bs = [] := List.eq_nil_of_length_eq_zero (by rw [hr.len, hn])
    subst hn hb
    rfl
  | some a =>
    have hl : (loadCells a n).run P w = .ok ((bs.map I8).map (Value.int .u8)).toArray w := by
      have := run_loadCells_list (P := P) (w := w) a (bs.map v8) (fun j v hv => by
        have hlt : j < n := by
          rcases Nat.lt_or_ge j (bs.map v8).length with h | h
          · rw [List.length_map, hr.len] at h; exact h
          · rw [List.getElem?_eq_none h] at hv; cases hv
        obtain ⟨ad, e, _, hcell⟩ := hr.2 (by omega)
        injection e with e; subst e
        exact hcell j v hv)
      rw [List.length_map, hr.len] at this
      rw [this, List.map_map]
      rfl
    exact run_bytesToString w a n c _ hl

theorem eq_nil (w : World) (a : Option Addr) (n c : Nat) : (binOp .eql 22 (.slice a n c) (.slice none 0 0)).run Try.prog w = .ok (.bool a.isNone) w := by
  simp only [binOp]
  simp [Op.equal, Op.maxDepth, run_equalIn_slice_nil w 9999 22 5 a n c Try.underlying22]

theorem clone_any (A : Option Addr) (n c : Nat) (bs : List B8) (w : World) (hr : Rd w w.heap.size A n bs) (hn : n ≤ 1000000) :
    Calls Try.prog 21 #[.slice A n c] w fun e w' => ∃ A' c', e = .returned (.slice A' n c') ∧ Rd w' w'.heap.size A' n bs ∧ Below w.heap.size w w' ∧ n ≤ c' := by
  obtain ⟨i0, hi, hz0, hz1, hz2⟩ := info_parts info5
  cases A with
  | none =>
    have h0 : n = 0 := by
      rcases Nat.eq_zero_or_pos n with h | h
      · exact h
      · obtain ⟨_, e, _⟩ := hr.2 h; cases e
    have hb : bs = [] := List.eq_nil_of_length_eq_zero (by rw [hr.len, h0])
    subst h0 hb
    have hnil := fun W : World => eq_nil W none 0 c
    go_enter Try.func21, Try.ntmps21
    go_wp2
    go_ret
    exact ⟨none, 0, rfl, Rd.none_, Below.refl _ _, Nat.le_refl _⟩
  | some a =>
    have hnil := fun W : World => eq_nil W (some a) n c
    go_enter Try.func21, Try.ntmps21
    go_wp2_with (first
      | (at_builtin
         refine wpList_append_any _ rfl (.tmp 5) (.tmp 6) 22 rfl w.heap.size 5 i0 (.int .u8 0) 1 1 Try.underlying22 hi hz0 hz1 hz2 rfl (by decide) _ 0 [] rfl (World.ownsRow_lit _ #[] 0 (Nat.le_refl _) (by unfold maxLen; omega) rfl) w.heap.size (some a) n c (bs.map v8) rfl (hr.alloc (Nat.le_refl _) _) (oneCell_v8 bs) (by unfold maxLen; omega) (by omega) (by simp) ?_
         intro v2 w2 hown2 hg2 hat2
         simp only [Nat.zero_add, List.nil_append] at hown2
         obtain ⟨A2, c2, rfl, hc2⟩ := own_cap hown2
         have hb2 : Below w.heap.size w w2 := ((Below.refl _ _).alloc (Nat.le_refl _) _).grown hg2 (by simp) (fun q hq => by injection (show some w.heap.size = some q from hq) with hq; rw [← hq]; exact Nat.le_refl _)))
    go_ret
    exact ⟨A2, c2, rfl, Rd.of_own hown2, hb2, hc2⟩

end Go.Proofs.Ytkmcddfeadbahaa

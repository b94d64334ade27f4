/- Contracts of bytes.Equal and string(b). -/
import Derived.Test.YthhgmanoifpoiaaCrN
import Derived.Laws.BytesString
import Derived.Laws.Cover3
namespace Go.Proofs.Ythhgmanoifpoiaa
open Go.RowKit
set_option linter.unusedVariables false

theorem own_slice {w : World} {base e n : Nat} {v : Value} {xs : List Value} (h : w.ownsRow base e 1 v n xs) : ∃ A c, v = .slice A n c := by
  rcases h.2 with ⟨rfl, h0⟩ | ⟨g, cap, cur, rfl, _⟩
  · exact ⟨none, 0, by rw [h0]⟩
  · exact ⟨_, _, rfl⟩

/-- Bytes as a string, closed to the walk's simp. -/
def strOf (bs : List B8) : ByteArray := (bs.map I8).foldl (fun r n => r.push (UInt8.ofNat n.toNat)) ByteArray.empty

theorem fold_push (l : List Int) (s : ByteArray) : (l.foldl (fun r n => r.push (UInt8.ofNat n.toNat)) s).data.toList = s.data.toList ++ l.map (fun n => UInt8.ofNat n.toNat) := by
  induction l generalizing s with
  | nil => simp
  | cons x l ih =>
    rw [List.foldl_cons, ih]
    simp [ByteArray.push]
theorem strOf_data (bs : List B8) : (strOf bs).data.toList = bs.map (fun b => UInt8.ofNat b.toNat) := by
  unfold strOf
  rw [fold_push]
  simp [I8]
theorem strOf_inj {a b : List B8} (h : (strOf a).data.toList = (strOf b).data.toList) : a = b := by
  rw [strOf_data, strOf_data] at h
  have inj : ∀ x y : B8, UInt8.ofNat x.toNat = UInt8.ofNat y.toNat → x = y := by
    intro x y e
    have := congrArg UInt8.toNat e
    have h1 := x.isLt; have h2 := y.isLt
    simp at this
    exact BitVec.eq_of_toNat_eq (by omega)
  induction a generalizing b with
  | nil => cases b with
    | nil => rfl
    | cons => simp at h
  | cons x a ih => cases b with
    | nil => simp at h
    | cons y b =>
      simp only [List.map_cons, List.cons.injEq] at h
      rw [inj _ _ h.1, ih h.2]
theorem strOf_eq (a b : List B8) : ((strOf a).toList == (strOf b).toList) = decide (a = b) := by
  rw [ByteArray.toList_eq, ByteArray.toList_eq]
  by_cases h : a = b
  · subst h; simp
  · rw [decide_eq_false h, beq_eq_false_iff_ne]
    exact fun e => h (strOf_inj e)

theorem conv_str {P : Program} (src dst e : TypeId) (hs : P.underlying src = some (.slice e)) (he : P.underlying e = some (.int .u8)) (hd : P.underlying dst = some .string)
    {w : World} {B : Nat} {A : Option Addr} {n c : Nat} {bs : List B8} (hr : Rd w B A n bs) : (convert src dst (.slice A n c)).run P w = .ok (.string (strOf bs)) w := by
  rw [run_convert_bytes_string w src dst e A n c hs he hd]
  cases A with
  | none =>
    have hn : n = 0 := by
      rcases Nat.eq_zero_or_pos n with h | h
      · exact h
      · obtain ⟨_, e, _⟩ := hr.2 h; cases e
    have hb : bs = [] := List.eq_nil_of_length_eq_zero (by rw [hr.len, hn])
    subst hn hb
    rfl
  | some a =>
    have hl : (loadCells a n).run P w = .ok ((bs.map I8).map (Value.int .u8)).toArray w := by
      have := run_loadCells_list (P := P) (w := w) a (bs.map v8) (fun j v hv => by
        have hlt : j < n := by
          rcases Nat.lt_or_ge j (bs.map v8).length with h | h
          · rw [List.length_map, hr.len] at h; exact h
          · rw [List.getElem?_eq_none h] at hv; cases hv
        obtain ⟨ad, e, _, hcell⟩ := hr.2 (by omega)
        injection e with e; subst e
        exact hcell j v hv)
      rw [List.length_map, hr.len] at this
      rw [this, List.map_map]
      rfl
    exact run_bytesToString w a n c _ hl

theorem equal_any (A : Option Addr) (n c : Nat) (xs : List B8) (A2 : Option Addr) (n2 c2 : Nat) (ys : List B8) (B B2 : Nat) (w : World) (hr : Rd w B A n xs) (hr2 : Rd w B2 A2 n2 ys) :
    Calls Try.prog 49 #[.slice A n c, .slice A2 n2 c2] w fun e w' => e = .returned (.bool (decide (xs = ys))) ∧ w = w' := by
  have h1 := conv_str (P := Try.prog) 43 9 5 (c := c) Try.underlying43 Try.underlying5 Try.underlying9 hr
  have h2 := conv_str (P := Try.prog) 43 9 5 (c := c2) Try.underlying43 Try.underlying5 Try.underlying9 hr2
  have HE := Lib.hid (strOf_eq xs ys)
  go_enter Try.func49, Try.ntmps49
  go_wp2
  go_ret
  exact ⟨congrArg (fun b => Ending.returned (.bool b)) HE.out, rfl⟩

end Go.Proofs.Ythhgmanoifpoiaa

/- The walk of TallyNoughts. -/
import Derived.Test.YtbnhohnlbbkmoaaAw3
import Derived.WalkSpells
import Derived.Outline
import Derived.IntWalk
import Derived.Deep.RegionWith
namespace Go.Proofs.Ytbnhohnlbbkmoaa
open Go.RowKit
set_option linter.unusedVariables false

theorem heap_alloc_at (w : World) (o : Obj) (i : Nat) : (w.alloc o).heap[i]? = if i = w.heap.size then some o else w.heap[i]? := by
  show (w.heap.push o)[i]? = _
  rw [Array.getElem?_push]
theorem heap_drewN (w : World) (n : Nat) : (w.drewN n).heap = w.heap := rfl

theorem at_new (w : World) (o : Obj) (g : Nat) (h : w.heap.size = g) : (w.alloc o).heap[g]? = some o := by rw [heap_alloc_at, if_pos h.symm]
theorem at_old {w : World} {o x : Obj} {i : Nat} (h : w.heap[i]? = some x) : (w.alloc o).heap[i]? = some x := by
  rw [heap_alloc_at, if_neg]
  · exact h
  · rintro rfl
    rw [Array.getElem?_eq_none (Nat.le_refl _)] at h
    cases h

theorem sum_zeros (W : World) (g n : Nat) (h : W.heap[g]? = some (.cells (zeros n) 5 (0, 0))) (hn : n ≤ 1000000) :
    Calls Try.prog 15 #[.slice (some ⟨g, 0, none⟩) n n] W fun e w' => e = .returned (.int .u32 (I32 (sum (List.replicate n 0#8)))) ∧ W = w' := by
  refine sum_any _ n n (List.replicate n 0#8) (g + 1) W ⟨by simp, fun _ => ⟨_, rfl, by simp, fun j u hu => ?_⟩⟩ hn
  have : (Addr.add ⟨g, 0, none⟩ j) = ⟨g, j, none⟩ := by
    unfold Addr.add; split <;> simp_all
  rw [this]
  unfold World.cell?
  rw [h]
  show (zeros n)[j]? = some u
  unfold zeros
  rw [List.getElem?_toArray]
  exact hu

set_option maxHeartbeats 2000000 in
theorem walkNoughts (n m : Nat) (a0 : Option Addr) (len0 cap0 : Nat) (w : World) (bs : List B8) (hlc : len0 ≤ cap0) (hcm : cap0 ≤ 9223372036854775807) (hr : Rd w w.heap.size a0 len0 bs) (hn : n ≤ 255) (hm : m ≤ 255) :
    Calls Try.prog 6 #[.int .u8 (n : Int), .int .u8 (m : Int), .slice a0 len0 cap0] w fun e w' => e = .returned (.bool true) ∧ Below w.heap.size w w' := by
  by_cases hlo : 1000 < len0
  · go_enter Try.func6, Try.ntmps6
    go_wp2_with (go_at_call 14; refine (awake3 _).mono ?_; rintro e w1 ⟨rfl, hb1⟩)
    go_ret
    exact ⟨rfl, hb1⟩
  obtain ⟨i0, hi, hz0, hz1, hz2⟩ := info_parts info5
  have hmk := make_zeros (P := Try.prog) 22 5 i0 Try.underlying22 hi hz0 hz1 hz2 n (by omega)
  have hmk2 := make_zeros (P := Try.prog) 22 5 i0 Try.underlying22 hi hz0 hz1 hz2 m (by omega)
  go_enter Try.func6, Try.ntmps6
  go_wp2_with (go_at_call 14; refine (awake3 _).mono ?_; rintro e w1 ⟨rfl, hb1⟩)
  have hq1 : (I32 (more (sum bs) []) == I32 (sum bs)) = true := by rw [more_nil]; simp
  have hq2 : (I32 (more (sum []) bs) == I32 (sum bs)) = true := by
    have : sum [] = 0#32 := more_nil _
    rw [this]; simp [sum]
  have hnm : ((I32 (sum (List.replicate n 0#8)) == I32 (sum (List.replicate m 0#8))) == ((n : Int) == (m : Int))) = true := by
    by_cases e : n = m
    · subst e; simp
    · have h1 : sum (List.replicate n 0#8) ≠ sum (List.replicate m 0#8) := by
        rcases Nat.lt_or_gt_of_ne e with h | h
        · exact noughts_ne n m h hm
        · exact fun e => noughts_ne m n h hn e.symm
      have h2 : (I32 (sum (List.replicate n 0#8)) == I32 (sum (List.replicate m 0#8))) = false := by
        rw [beq_eq_false_iff_ne]; exact fun e => h1 (I32.inj e)
      have h3 : ((n : Int) == (m : Int)) = false := by rw [beq_eq_false_iff_ne]; omega
      rw [h2, h3]; rfl
  have b3 : Below w.heap.size w ((w1.alloc (.cells (zeros n) 5)).alloc (.cells (zeros m) 5)).drew := ((hb1.alloc hb1.size _).alloc (by simp; have := hb1.size; omega) _).drew
  have b4 : Below w.heap.size w ((w1.alloc (.cells (zeros m) 5)).alloc (.cells (zeros n) 5)).drew := ((hb1.alloc hb1.size _).alloc (by simp; have := hb1.size; omega) _).drew
  have r3 := Lib.hid (hr.below b3)
  have r4 := Lib.hid (hr.below b4)
  have hll : len0 ≤ 1000000 := by omega
  have HQ1 := Lib.hid hq1
  have HQ2 := Lib.hid hq2
  have HNM := Lib.hid hnm
  clear hq1 hq2 hnm
  have hnn : n ≤ 1000000 := by omega
  have hmm : m ≤ 1000000 := by omega
  have hw1 : IntKind.i64.wrap (n : Int) = n := IntWalk.i64_in _ (by omega)
  have hw2 : IntKind.i64.wrap (m : Int) = m := IntWalk.i64_in _ (by omega)
  go_region_with (go_at_call 15; go_must (refine (sum_zeros _ _ _ ?_ ?_).mono ?_); (first | exact at_new _ _ _ rfl | exact at_new _ _ _ (by simp) | exact at_old (at_new _ _ _ rfl) | exact at_old (at_new _ _ _ (by simp))); go_must (first | exact hnn | exact hmm); rintro e w' ⟨rfl, rfl⟩)
  all_goals
    clear hw1 hw2 hmk hmk2
    have hq1 := HQ1.out
    have hq2 := HQ2.out
    have hnm := HNM.out
    go_wp2_with fail
    (first | ((with_reducible refine (sum_any _ _ _ _ _ _ r3.out hll).mono ?_)) | ((with_reducible refine (sum_any _ _ _ _ _ _ r4.out hll).mono ?_)))
    rintro e w' ⟨rfl, rfl⟩
    go_wp2_with fail
    ((with_reducible refine (more_any _ none 0 0 [] 0 _ Rd.none_ (Nat.zero_le _)).mono ?_))
    rintro e w' ⟨rfl, rfl⟩
    go_wp2_with fail
    (first | ((with_reducible refine (sum_any _ _ _ _ _ _ r3.out hll).mono ?_)) | ((with_reducible refine (sum_any _ _ _ _ _ _ r4.out hll).mono ?_)))
    rintro e w' ⟨rfl, rfl⟩
    go_wp2_with fail
    ((with_reducible refine (sum_any none 0 0 [] 0 _ Rd.none_ (Nat.zero_le _)).mono ?_))
    rintro e w' ⟨rfl, rfl⟩
    go_wp2_with fail
    (first | ((with_reducible refine (more_any _ _ _ _ _ _ _ r3.out hll).mono ?_)) | ((with_reducible refine (more_any _ _ _ _ _ _ _ r4.out hll).mono ?_)))
    rintro e w' ⟨rfl, rfl⟩
    go_wp2_with fail
    (first | ((with_reducible refine (sum_any _ _ _ _ _ _ r3.out hll).mono ?_)) | ((with_reducible refine (sum_any _ _ _ _ _ _ r4.out hll).mono ?_)))
    rintro e w' ⟨rfl, rfl⟩
    go_wp2_with fail
    go_ret
    first | exact ⟨rfl, b3⟩ | exact ⟨rfl, b4⟩

end Go.Proofs.Ytbnhohnlbbkmoaa

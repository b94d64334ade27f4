/- Contracts of leaf.head and leaf.Size. -/
import Derived.Test.YtbnhohnlbbkmoaaLeafC
namespace Go.Proofs.Ytbnhohnlbbkmoaa
open Go.RowKit
set_option linter.unusedVariables false

def bt (b : List B8) (i : Nat) : B8 := b.getD i 0#8
/-- The number of four bytes at a place. -/
def numAt (b : List B8) (o : Nat) : Int := num4 (bt b o) (bt b (o + 1)) (bt b (o + 2)) (bt b (o + 3))
theorem numAt_bd (b : List B8) (o : Nat) : 0 ≤ numAt b o ∧ numAt b o ≤ 4294967295 := num4_bd _ _ _ _
theorem bt_at {b : List B8} {i : Nat} (h : i < b.length) : b[i]? = some (bt b i) := by
  unfold bt
  rw [List.getD, List.getElem?_eq_getElem h]; rfl
theorem take4 {b : List B8} {o : Nat} (h : o + 4 ≤ b.length) : (b.drop o).take 4 = [bt b o, bt b (o + 1), bt b (o + 2), bt b (o + 3)] := by
  apply List.ext_getElem?
  intro i
  rw [List.getElem?_take]
  by_cases hi : i < 4
  · rw [if_pos hi, List.getElem?_drop]
    rcases (by omega : i = 0 ∨ i = 1 ∨ i = 2 ∨ i = 3) with rfl | rfl | rfl | rfl <;> rw [bt_at (by omega)] <;> rfl
  · rw [if_neg hi, List.getElem?_eq_none (by simp; omega)]

/-- What is wrong with a head. -/
def headE (b : List B8) : Int :=
  if b.length < 16 then 2 else if I8 (bt b 0) ≠ 197 ∨ I8 (bt b 1) ≠ 126 ∨ I8 (bt b 3) ≠ 0 ∨ 4096 < numAt b 8 ∨ 2147483647 < numAt b 4 then 4 else 0
def headM (b : List B8) : Int := if headE b = 0 then numAt b 8 else 0

theorem rd_from {w : World} {B n c k : Nat} {ad : Addr} {bs : List B8} (h : Rd w B (some ad) n bs) (hk : k ≤ n) (h0 : 0 < k) (hc : n ≤ c) (hck : c ≠ k) :
    Rd w B (some ⟨ad.block, ad.off + k, none⟩) (n - k) (bs.drop k) := by
  have := h.drop (k := k) (cap := c) hk hc
  rw [if_neg hck] at this
  have e : ad.add k = ⟨ad.block, ad.off + k, none⟩ := by unfold Addr.add; rw [if_neg (by omega)]
  simpa [e] using this

theorem beq_no {x y : Int} (h : x ≠ y) : (x == y) = false ∧ (x != y) = true := by
  have := beq_eq_false_iff_ne.2 h
  exact ⟨this, by rw [bne, this]; rfl⟩
theorem beq_yes {x y : Int} (h : x = y) : (x == y) = true ∧ (x != y) = false := by
  have := beq_iff_eq.2 h
  exact ⟨this, by rw [bne, this]; rfl⟩

set_option maxHeartbeats 1000000 in
theorem head_any (A : Option Addr) (n c : Nat) (bs : List B8) (w : World) (hr : Rd w w.heap.size A n bs) (hc : n ≤ c) (hn : n ≤ 1000000) :
    Calls Try.prog 31 #[.slice A n c] w fun e w' => e = .returned (.tuple #[.int .i64 (headM bs), .int .i64 (headE bs)]) ∧ ∃ nq, w' = w.drewN nq := by
  have hl := hr.len
  by_cases h16 : n < 16
  · have e1 : headE bs = 2 := by unfold headE; rw [if_pos (by omega)]
    have e2 : headM bs = 0 := by unfold headM; rw [e1]; rfl
    rw [e1, e2]
    clear hl e1 e2
    go_enter Try.func31, Try.ntmps31
    go_wp2
    go_ret2
    exact ⟨rfl, 0, rfl⟩
  obtain ⟨ad, b0, rfl, _, e0, c0⟩ := hr.at_ (k := 0) (by omega)
  obtain ⟨_, b1, e, _, e1, c1⟩ := hr.at_ (k := 1) (by omega)
  injection e with e; subst e
  obtain ⟨_, b3, e, _, e3, c3⟩ := hr.at_ (k := 3) (by omega)
  injection e with e; subst e
  have hr8 := rd_from (k := 8) hr (by omega) (by omega) hc (by omega)
  have hr4 := rd_from (k := 4) hr (by omega) (by omega) hc (by omega)
  have N8 : Hid (Calls Try.prog 32 #[.slice (some ⟨ad.block, ad.off + 8, none⟩) (n - 8) (c - 8)] w fun e w' => e = .returned (.int .u32 (numAt bs 8)) ∧ ∃ m, w' = w.drewN m) :=
    number_any _ (n - 8) (c - 8) (bs.drop 8) _ _ _ _ _ w hr8 (by omega) (take4 (b := bs) (o := 8) (by omega))
  have N4 : ∀ nq : Nat, Hid (Calls Try.prog 32 #[.slice (some ⟨ad.block, ad.off + 4, none⟩) (n - 4) (c - 4)] (w.drewN nq) fun e w' => e = .returned (.int .u32 (numAt bs 4)) ∧ ∃ m, w' = (w.drewN nq).drewN m) :=
    fun nq => number_any _ (n - 4) (c - 4) (bs.drop 4) _ _ _ _ _ (w.drewN nq) (hr4.drewN nq) (by omega) (take4 (b := bs) (o := 4) (by omega))
  have hc8 : ¬ c = 8 := by omega
  have hc4 : ¬ c = 4 := by omega
  rw [bt_at (by omega)] at e0 e1 e3
  injection e0 with e0
  injection e1 with e1
  injection e3 with e3
  have d8 := numAt_bd bs 8
  have d4 := numAt_bd bs 4
  have u0 := I8.bd b0
  have u1 := I8.bd b1
  have u3 := I8.bd b3
  simp only [Addr.add, show ¬ (1 : Nat) = 0 by decide, show ¬ (3 : Nat) = 0 by decide, if_false, if_true] at c0 c1 c3
  have i0' : 0 < n := by omega
  have i1' : (1 : Int) < (n : Int) := by omega
  have i3' : (3 : Int) < (n : Int) := by omega
  have HE : Hid (headE bs = if I8 b0 ≠ 197 ∨ I8 b1 ≠ 126 ∨ I8 b3 ≠ 0 ∨ 4096 < numAt bs 8 ∨ 2147483647 < numAt bs 4 then 4 else 0) := by
    show _ = _
    unfold headE
    rw [if_neg (by omega), e0, e1, e3]
  have HM : Hid (headM bs = if headE bs = 0 then numAt bs 8 else 0) := rfl
  clear hl e0 e1 e3 hr hr8 hr4
  generalize headE bs = E at *
  generalize headM bs = M at *
  generalize numAt bs 8 = m8 at *
  generalize numAt bs 4 = m4 at *
  have fin4 : (I8 b0 ≠ 197 ∨ I8 b1 ≠ 126 ∨ I8 b3 ≠ 0 ∨ 4096 < m8 ∨ 2147483647 < m4) → E = 4 ∧ M = 0 := by
    intro h
    have h1 : E = 4 := by rw [HE.out, if_pos h]
    exact ⟨h1, by rw [HM.out, h1]; rfl⟩
  have fin0 : ¬ (I8 b0 ≠ 197 ∨ I8 b1 ≠ 126 ∨ I8 b3 ≠ 0 ∨ 4096 < m8 ∨ 2147483647 < m4) → E = 0 ∧ M = m8 := by
    intro h
    have h1 : E = 0 := by rw [HE.out, if_neg h]
    exact ⟨h1, by rw [HM.out, h1]; rfl⟩
  clear HE HM
  by_cases t0 : I8 b0 = 197
  · obtain ⟨f0, g0⟩ := beq_yes t0
    by_cases t1 : I8 b1 = 126
    · obtain ⟨f1, g1⟩ := beq_yes t1
      by_cases t3 : I8 b3 = 0
      · obtain ⟨f3, g3⟩ := beq_yes t3
        by_cases t8 : 4096 < m8
        · obtain ⟨rfl, rfl⟩ := fin4 (by omega)
          clear fin4 fin0 t0 t1 t3
          go_enter Try.func31, Try.ntmps31
          go_wp2_with fail
          refine N8.out.mono ?_
          rintro e w' ⟨rfl, nq, rfl⟩
          go_wp2_with fail
          go_ret2
          exact ⟨rfl, nq, by simp⟩
        · by_cases t4 : 2147483647 < m4
          · obtain ⟨rfl, rfl⟩ := fin4 (by omega)
            clear fin4 fin0 t0 t1 t3
            go_enter Try.func31, Try.ntmps31
            go_wp2_with fail
            refine N8.out.mono ?_
            rintro e w' ⟨rfl, nq, rfl⟩
            go_wp2_with fail
            refine (N4 nq).out.mono ?_
            rintro e w' ⟨rfl, nq2, rfl⟩
            go_wp2_with fail
            go_ret2
            exact ⟨rfl, nq + nq2, by simp⟩
          · obtain ⟨rfl, rfl⟩ := fin0 (by omega)
            clear fin4 fin0 t0 t1 t3
            go_enter Try.func31, Try.ntmps31
            go_wp2_with fail
            refine N8.out.mono ?_
            rintro e w' ⟨rfl, nq, rfl⟩
            go_wp2_with fail
            refine (N4 nq).out.mono ?_
            rintro e w' ⟨rfl, nq2, rfl⟩
            go_wp2_with fail
            go_ret2
            exact ⟨rfl, nq + nq2, by simp⟩
      · obtain ⟨rfl, rfl⟩ := fin4 (by omega)
        obtain ⟨f3, g3⟩ := beq_no t3
        clear fin4 fin0 t0 t1 t3
        go_enter Try.func31, Try.ntmps31
        go_wp2_with fail
        refine N8.out.mono ?_
        rintro e w' ⟨rfl, nq, rfl⟩
        go_wp2_with fail
        go_ret2
        exact ⟨rfl, nq, by simp⟩
    · obtain ⟨rfl, rfl⟩ := fin4 (by omega)
      obtain ⟨f1, g1⟩ := beq_no t1
      clear fin4 fin0 t0 t1
      go_enter Try.func31, Try.ntmps31
      go_wp2_with fail
      refine N8.out.mono ?_
      rintro e w' ⟨rfl, nq, rfl⟩
      go_wp2_with fail
      go_ret2
      exact ⟨rfl, nq, by simp⟩
  · obtain ⟨rfl, rfl⟩ := fin4 (by omega)
    obtain ⟨f0, g0⟩ := beq_no t0
    clear fin4 fin0 t0
    go_enter Try.func31, Try.ntmps31
    go_wp2_with fail
    refine N8.out.mono ?_
    rintro e w' ⟨rfl, nq, rfl⟩
    go_wp2_with fail
    go_ret2
    exact ⟨rfl, nq, by simp⟩

end Go.Proofs.Ytbnhohnlbbkmoaa

/- Contracts of leaf's small functions. -/
import Derived.Test.YtbnhohnlbbkmoaaSum
import Derived.Test.YtbnhohnlbbkmoaaMix
import Derived.WalkSpells
import Derived.IntWalk
import Derived.Outline
import Derived.BigQuiet
namespace Go.Proofs.Ytbnhohnlbbkmoaa
open Go.RowKit
set_option linter.unusedVariables false

/-- How many blocks so many data need. -/
def blocksN (n : Nat) : Nat := (n + 79) / 64

theorem blocks_any (n : Int) (w : World) : Calls Try.prog 23 #[.int .i64 n] w fun e w' => e = .returned (.int .i64 (if 0 ≤ n ∧ n ≤ 4096 then ((blocksN n.toNat : Nat) : Int) else 0)) ∧ w = w' := by
  by_cases h0 : 0 ≤ n
  · by_cases h1 : n ≤ 4096
    · rw [if_pos ⟨h0, h1⟩]
      have HB : Hid (((blocksN n.toNat : Nat) : Int) = (16 + n + 64 - 1) / 64) := by show _ = _; unfold blocksN; omega
      go_enter Try.func23, Try.ntmps23
      go_wp2
      go_ret
      exact ⟨by rw [HB.out]; rfl, rfl⟩
    · rw [if_neg (by omega)]
      go_enter Try.func23, Try.ntmps23
      go_wp2
      go_ret
      exact ⟨rfl, rfl⟩
  · rw [if_neg (by omega)]
    go_enter Try.func23, Try.ntmps23
    go_wp2
    go_ret
    exact ⟨rfl, rfl⟩
theorem refBlocks_any (n : Int) (w : World) : Calls Try.prog 25 #[.int .i64 n] w fun e w' => e = .returned (.int .i64 (if 0 ≤ n ∧ n ≤ 4096 then ((blocksN n.toNat : Nat) : Int) else 0)) ∧ w = w' := by
  by_cases h0 : 0 ≤ n
  · by_cases h1 : n ≤ 4096
    · rw [if_pos ⟨h0, h1⟩]
      have HB : Hid (((blocksN n.toNat : Nat) : Int) = (n + 16 + 64 - 1) / 64) := by show _ = _; unfold blocksN; omega
      go_enter Try.func25, Try.ntmps25
      go_wp2
      go_ret
      exact ⟨by rw [HB.out]; rfl, rfl⟩
    · rw [if_neg (by omega)]
      go_enter Try.func25, Try.ntmps25
      go_wp2
      go_ret
      exact ⟨rfl, rfl⟩
  · rw [if_neg (by omega)]
    go_enter Try.func25, Try.ntmps25
    go_wp2
    go_ret
    exact ⟨rfl, rfl⟩

/-- A number of four bytes, the lowest first. -/
def num4 (a b c d : B8) : Int := I8 a + 256 * I8 b + 65536 * I8 c + 16777216 * I8 d
theorem num4_bd (a b c d : B8) : 0 ≤ num4 a b c d ∧ num4 a b c d ≤ 4294967295 := by
  unfold num4
  have := I8.bd a; have := I8.bd b; have := I8.bd c; have := I8.bd d
  omega

theorem or_four (a b c d : B8) : bits .or .u32 (bits .or .u32 (bits .or .u32 (I8 a % 4294967296) (I8 b % 4294967296 * 256 % 4294967296)) (I8 c % 4294967296 * 65536 % 4294967296)) (I8 d % 4294967296 * 16777216 % 4294967296) = num4 a b c d := by
  have ha := a.isLt; have hb := b.isLt; have hc := c.isLt; have hd := d.isLt
  unfold num4 I8
  generalize a.toNat = x at *
  generalize b.toNat = y at *
  generalize c.toNat = z at *
  generalize d.toNat = u at *
  have e0 : (x : Int) % 4294967296 = ((x : Nat) : Int) := by omega
  have e1 : (y : Int) % 4294967296 * 256 % 4294967296 = ((y * 256 : Nat) : Int) := by omega
  have e2 : (z : Int) % 4294967296 * 65536 % 4294967296 = ((z * 65536 : Nat) : Int) := by omega
  have e3 : (u : Int) % 4294967296 * 16777216 % 4294967296 = ((u * 16777216 : Nat) : Int) := by omega
  rw [e0, e1, e2, e3, u32_or_nat _ _ (by omega) (by omega), Nat.or_comm x, nat_join 8 (y * 256) x (by omega) (by omega)]
  rw [u32_or_nat _ _ (by omega) (by omega), Nat.or_comm _ (z * 65536), nat_join 16 (z * 65536) _ (by omega) (by omega)]
  rw [u32_or_nat _ _ (by omega) (by omega), Nat.or_comm _ (u * 16777216), nat_join 24 (u * 16777216) _ (by omega) (by omega)]
  omega

theorem ofInt_i64 (a : Nat) (ha : a < 9223372036854775808) : (BitVec.ofInt 64 (a : Int)).toNat = a := by
  rw [BitVec.ofInt_natCast, BitVec.toNat_ofNat]; exact Nat.mod_eq_of_lt (by omega)
theorem i64_or_nat (a b : Nat) (ha : a < 9223372036854775808) (hb : b < 9223372036854775808) : bits .or .i64 (a : Int) (b : Int) = ((a ||| b : Nat) : Int) := by
  have hx : a ||| b < 2 ^ 63 := Nat.or_lt_two_pow (by omega) (by omega)
  show IntKind.i64.wrap ((BitVec.ofInt 64 (a : Int) ||| BitVec.ofInt 64 (b : Int)).toNat : Int) = _
  rw [BitVec.toNat_or, ofInt_i64 a ha, ofInt_i64 b hb, IntKind.wrap_i64]
  omega
theorem or_four64 (a b c d : B8) : bits .or .i64 (bits .or .i64 (bits .or .i64 (wrap64 (I8 a)) (wrap64 (wrap64 (I8 b) * 256))) (wrap64 (wrap64 (I8 c) * 65536))) (wrap64 (wrap64 (I8 d) * 16777216)) = num4 a b c d := by
  have ha := a.isLt; have hb := b.isLt; have hc := c.isLt; have hd := d.isLt
  unfold num4 I8
  generalize a.toNat = x at *
  generalize b.toNat = y at *
  generalize c.toNat = z at *
  generalize d.toNat = u at *
  have w (k : Nat) (h : k < 4294967296) : wrap64 (k : Int) = (k : Int) := by unfold wrap64; omega
  rw [w x (by omega), w y (by omega), w z (by omega), w u (by omega)]
  have e1 : (y : Int) * 256 = ((y * 256 : Nat) : Int) := by omega
  have e2 : (z : Int) * 65536 = ((z * 65536 : Nat) : Int) := by omega
  have e3 : (u : Int) * 16777216 = ((u * 16777216 : Nat) : Int) := by omega
  rw [e1, e2, e3, w (y * 256) (by omega), w (z * 65536) (by omega), w (u * 16777216) (by omega)]
  rw [i64_or_nat _ _ (by omega) (by omega), Nat.or_comm x, nat_join 8 (y * 256) x (by omega) (by omega)]
  rw [i64_or_nat _ _ (by omega) (by omega), Nat.or_comm _ (z * 65536), nat_join 16 (z * 65536) _ (by omega) (by omega)]
  rw [i64_or_nat _ _ (by omega) (by omega), Nat.or_comm _ (u * 16777216), nat_join 24 (u * 16777216) _ (by omega) (by omega)]
  omega

theorem number_any (A : Option Addr) (n c : Nat) (bs : List B8) (b0 b1 b2 b3 : B8) (B : Nat) (w : World) (hr : Rd w B A n bs) (hn : 4 ≤ n) (hb : bs.take 4 = [b0, b1, b2, b3]) :
    Calls Try.prog 32 #[.slice A n c] w fun e w' => e = .returned (.int .u32 (num4 b0 b1 b2 b3)) ∧ ∃ nq, w' = w.drewN nq := by
  obtain ⟨ad, c0, rfl, _, e0, h0⟩ := hr.at_ (k := 0) (by omega)
  obtain ⟨_, c1, e, _, e1, h1⟩ := hr.at_ (k := 1) (by omega)
  injection e with e; subst e
  obtain ⟨_, c2, e, _, e2, h2⟩ := hr.at_ (k := 2) (by omega)
  injection e with e; subst e
  obtain ⟨_, c3, e, _, e3, h3⟩ := hr.at_ (k := 3) (by omega)
  injection e with e; subst e
  have t (k : Nat) (hk : k < 4) : bs[k]? = [b0, b1, b2, b3][k]? := by rw [← hb, List.getElem?_take, if_pos hk]
  rw [t 0 (by omega)] at e0
  rw [t 1 (by omega)] at e1
  rw [t 2 (by omega)] at e2
  rw [t 3 (by omega)] at e3
  simp at e0 e1 e2 e3
  subst e0 e1 e2 e3
  have i1 : (1 : Int) < (n : Int) := by omega
  have i0 : 0 < n := by omega
  simp only [Addr.add, show ¬ (1 : Nat) = 0 by decide, show ¬ (2 : Nat) = 0 by decide, show ¬ (3 : Nat) = 0 by decide, if_false, if_true] at h0 h1 h2 h3
  have i2 : (2 : Int) < (n : Int) := by omega
  have i3 : (3 : Int) < (n : Int) := by omega
  clear t hb hr
  go_enter Try.func32, Try.ntmps32
  go_wp2
  go_quiet (fail)
  go_wp2_with fail
  go_ret
  exact ⟨congrArg (fun z => Ending.returned (.int .u32 z)) (or_four b0 b1 b2 b3), nq, rfl⟩

theorem get_4 (A : Option Addr) (n c : Nat) (bs : List B8) (b0 b1 b2 b3 : B8) (B : Nat) (w : World) (hr : Rd w B A n bs) (hn : 8 ≤ n) (hb : (bs.drop 4).take 4 = [b0, b1, b2, b3]) :
    Calls Try.prog 36 #[.slice A n c, .int .i64 4] w fun e w' => e = .returned (.int .i64 (num4 b0 b1 b2 b3)) ∧ ∃ nq, w' = w.drewN nq := by
  obtain ⟨ad, c0, rfl, _, e0, h0⟩ := hr.at_ (k := 4) (by omega)
  obtain ⟨_, c1, e, _, e1, h1⟩ := hr.at_ (k := 5) (by omega)
  injection e with e; subst e
  obtain ⟨_, c2, e, _, e2, h2⟩ := hr.at_ (k := 6) (by omega)
  injection e with e; subst e
  obtain ⟨_, c3, e, _, e3, h3⟩ := hr.at_ (k := 7) (by omega)
  injection e with e; subst e
  have t (k : Nat) (hk : k < 4) : bs[4 + k]? = [b0, b1, b2, b3][k]? := by rw [← hb, List.getElem?_take, if_pos hk, List.getElem?_drop]
  rw [t 0 (by omega)] at e0
  rw [t 1 (by omega)] at e1
  rw [t 2 (by omega)] at e2
  rw [t 3 (by omega)] at e3
  simp at e0 e1 e2 e3
  subst e0 e1 e2 e3
  have i0 : (4 : Int) < (n : Int) := by omega
  have i1 : (5 : Int) < (n : Int) := by omega
  have i2 : (6 : Int) < (n : Int) := by omega
  have i3 : (7 : Int) < (n : Int) := by omega
  simp only [Addr.add, show ¬ (4 : Nat) = 0 by decide, show ¬ (5 : Nat) = 0 by decide, show ¬ (6 : Nat) = 0 by decide, show ¬ (7 : Nat) = 0 by decide, if_false] at h0 h1 h2 h3
  clear t hb hr
  go_enter Try.func36, Try.ntmps36
  go_wp2
  go_quiet (fail)
  go_wp2_with fail
  go_ret
  exact ⟨congrArg (fun z => Ending.returned (.int .i64 z)) (or_four64 _ _ _ _), nq, rfl⟩

theorem get_8 (A : Option Addr) (n c : Nat) (bs : List B8) (b0 b1 b2 b3 : B8) (B : Nat) (w : World) (hr : Rd w B A n bs) (hn : 12 ≤ n) (hb : (bs.drop 8).take 4 = [b0, b1, b2, b3]) :
    Calls Try.prog 36 #[.slice A n c, .int .i64 8] w fun e w' => e = .returned (.int .i64 (num4 b0 b1 b2 b3)) ∧ ∃ nq, w' = w.drewN nq := by
  obtain ⟨ad, c0, rfl, _, e0, h0⟩ := hr.at_ (k := 8) (by omega)
  obtain ⟨_, c1, e, _, e1, h1⟩ := hr.at_ (k := 9) (by omega)
  injection e with e; subst e
  obtain ⟨_, c2, e, _, e2, h2⟩ := hr.at_ (k := 10) (by omega)
  injection e with e; subst e
  obtain ⟨_, c3, e, _, e3, h3⟩ := hr.at_ (k := 11) (by omega)
  injection e with e; subst e
  have t (k : Nat) (hk : k < 4) : bs[8 + k]? = [b0, b1, b2, b3][k]? := by rw [← hb, List.getElem?_take, if_pos hk, List.getElem?_drop]
  rw [t 0 (by omega)] at e0
  rw [t 1 (by omega)] at e1
  rw [t 2 (by omega)] at e2
  rw [t 3 (by omega)] at e3
  simp at e0 e1 e2 e3
  subst e0 e1 e2 e3
  have i0 : (8 : Int) < (n : Int) := by omega
  have i1 : (9 : Int) < (n : Int) := by omega
  have i2 : (10 : Int) < (n : Int) := by omega
  have i3 : (11 : Int) < (n : Int) := by omega
  simp only [Addr.add, show ¬ (8 : Nat) = 0 by decide, show ¬ (9 : Nat) = 0 by decide, show ¬ (10 : Nat) = 0 by decide, show ¬ (11 : Nat) = 0 by decide, if_false] at h0 h1 h2 h3
  clear t hb hr
  go_enter Try.func36, Try.ntmps36
  go_wp2
  go_quiet (fail)
  go_wp2_with fail
  go_ret
  exact ⟨congrArg (fun z => Ending.returned (.int .i64 z)) (or_four64 _ _ _ _), nq, rfl⟩

theorem get_12 (A : Option Addr) (n c : Nat) (bs : List B8) (b0 b1 b2 b3 : B8) (B : Nat) (w : World) (hr : Rd w B A n bs) (hn : 16 ≤ n) (hb : (bs.drop 12).take 4 = [b0, b1, b2, b3]) :
    Calls Try.prog 36 #[.slice A n c, .int .i64 12] w fun e w' => e = .returned (.int .i64 (num4 b0 b1 b2 b3)) ∧ ∃ nq, w' = w.drewN nq := by
  obtain ⟨ad, c0, rfl, _, e0, h0⟩ := hr.at_ (k := 12) (by omega)
  obtain ⟨_, c1, e, _, e1, h1⟩ := hr.at_ (k := 13) (by omega)
  injection e with e; subst e
  obtain ⟨_, c2, e, _, e2, h2⟩ := hr.at_ (k := 14) (by omega)
  injection e with e; subst e
  obtain ⟨_, c3, e, _, e3, h3⟩ := hr.at_ (k := 15) (by omega)
  injection e with e; subst e
  have t (k : Nat) (hk : k < 4) : bs[12 + k]? = [b0, b1, b2, b3][k]? := by rw [← hb, List.getElem?_take, if_pos hk, List.getElem?_drop]
  rw [t 0 (by omega)] at e0
  rw [t 1 (by omega)] at e1
  rw [t 2 (by omega)] at e2
  rw [t 3 (by omega)] at e3
  simp at e0 e1 e2 e3
  subst e0 e1 e2 e3
  have i0 : (12 : Int) < (n : Int) := by omega
  have i1 : (13 : Int) < (n : Int) := by omega
  have i2 : (14 : Int) < (n : Int) := by omega
  have i3 : (15 : Int) < (n : Int) := by omega
  simp only [Addr.add, show ¬ (12 : Nat) = 0 by decide, show ¬ (13 : Nat) = 0 by decide, show ¬ (14 : Nat) = 0 by decide, show ¬ (15 : Nat) = 0 by decide, if_false] at h0 h1 h2 h3
  clear t hb hr
  go_enter Try.func36, Try.ntmps36
  go_wp2
  go_quiet (fail)
  go_wp2_with fail
  go_ret
  exact ⟨congrArg (fun z => Ending.returned (.int .i64 z)) (or_four64 _ _ _ _), nq, rfl⟩

end Go.Proofs.Ytbnhohnlbbkmoaa

/- Contracts of crown.number, crown.lay and the document's le, get. -/
import Derived.Test.YthhgmanoifpoiaaCrA
import Derived.Test.YthhgmanoifpoiaaSum
import Derived.Test.YthhgmanoifpoiaaMix
import Derived.WalkSpells
namespace Go.Proofs.Ythhgmanoifpoiaa
open Go.RowKit
set_option linter.unusedVariables false

/-- A number, the lowest byte first. -/
def numL : List B8 → Nat
  | [] => 0
  | b :: l => b.toNat + 256 * numL l
theorem numL_lt (l : List B8) : numL l < 256 ^ l.length := by
  induction l with
  | nil => simp [numL]
  | cons b l ih =>
    have hb := b.isLt
    simp only [numL, List.length_cons, Nat.pow_succ]
    omega
theorem numL_append (l m : List B8) : numL (l ++ m) = numL l + 256 ^ l.length * numL m := by
  induction l with
  | nil => simp [numL]
  | cons b l ih =>
    simp only [List.cons_append, numL, ih, List.length_cons, Nat.pow_succ]
    rw [Nat.mul_add, ← Nat.mul_assoc, Nat.mul_comm 256 (256 ^ l.length)]
    omega
theorem numL_take (l : List B8) (k : Nat) (b : B8) (h : l[k]? = some b) : numL (l.take (k + 1)) = numL (l.take k) + 256 ^ k * b.toNat := by
  have hk : k < l.length := (List.getElem?_eq_some_iff.1 h).1
  rw [List.take_add_one, h, numL_append]
  simp [numL, show min k l.length = k by omega]
theorem ofInt_u64 (a : Nat) (ha : a < 18446744073709551616) : (BitVec.ofInt 64 (a : Int)).toNat = a := by
  rw [BitVec.ofInt_natCast, BitVec.toNat_ofNat]; exact Nat.mod_eq_of_lt (by omega)
theorem u64_or_nat (a b : Nat) (ha : a < 18446744073709551616) (hb : b < 18446744073709551616) : bits .or .u64 (a : Int) (b : Int) = ((a ||| b : Nat) : Int) := by
  have hx : a ||| b < 2 ^ 64 := Nat.or_lt_two_pow (by omega) (by omega)
  show IntKind.u64.wrap ((BitVec.ofInt 64 (a : Int) ||| BitVec.ofInt 64 (b : Int)).toNat : Int) = _
  rw [BitVec.toNat_or, ofInt_u64 a ha, ofInt_u64 b hb, IntKind.wrap_u64]
  omega
theorem or_num (l : List B8) (k : Nat) (b : B8) (h : l[k]? = some b) (hl : l.length ≤ 8) : bits .or .u64 ((numL (l.take k) : Nat) : Int) (((256 ^ k * b.toNat : Nat)) : Int) = ((numL (l.take (k + 1)) : Nat) : Int) := by
  have hk : k < l.length := (List.getElem?_eq_some_iff.1 h).1
  have h1 := numL_lt (l.take k)
  have h2 := numL_lt (l.take (k + 1))
  rw [List.length_take, show min k l.length = k by omega] at h1
  rw [List.length_take, show min (k + 1) l.length = k + 1 by omega] at h2
  have h3 : 256 ^ (k + 1) ≤ 256 ^ 8 := Nat.pow_le_pow_right (by decide) (by omega)
  have h4 : 256 ^ k ≤ 256 ^ 8 := Nat.pow_le_pow_right (by decide) (by omega)
  have h8 : (256 : Nat) ^ 8 = 18446744073709551616 := by decide
  have h5 := numL_take l k b h
  rw [u64_or_nat _ _ (by omega) (by omega), Nat.or_comm, h5]
  congr 1
  rw [Nat.add_comm, show (256 : Nat) ^ k = 2 ^ (8 * k) by rw [Nat.pow_mul]] at *
  exact (Nat.two_pow_add_eq_or_of_lt h1 _).symm

set_option maxHeartbeats 2000000 in
theorem num_any (A : Option Addr) (n c : Nat) (bs : List B8) (B : Nat) (w : World) (hr : Rd w B A n bs) (hn : n ≤ 8) :
    Calls Try.prog 48 #[.slice A n c] w fun e w' => e = .returned (.int .u64 ((numL bs : Nat) : Int)) ∧ w = w' := by
  have hl := hr.len
  go_enter Try.func48, Try.ntmps48
  go_wp2
  go_loop [3, 8] (fun x i => ∃ k : Nat, k ≤ n ∧ i = .int .i64 (k : Int) ∧ x = .int .u64 ((numL (bs.take k) : Nat) : Int)) (fun _ i => n - (intOf i).toNat)
  case atStart => exact ⟨0, by omega, rfl, by simp [numL]⟩
  case round =>
    obtain ⟨k, hk, rfl, rfl⟩ := hrel
    by_cases hlt : k < n
    · obtain ⟨ad, u, rfl, _, hu, hc⟩ := hr.at_ hlt
      have hltI : (k : Int) < (n : Int) := by omega
      have HO := Lib.hid (or_num bs k u hu (by omega))
      have hbd := I8.bd u
      clear hr
      obtain ⟨Z, hZ⟩ : ∃ Z : Int, Z = ((numL (bs.take k) : Nat) : Int) := ⟨_, rfl⟩
      rw [← hZ] at HO ⊢
      have HZ := Lib.hid hZ
      clear hZ
      rcases (by omega : k = 0 ∨ k = 1 ∨ k = 2 ∨ k = 3 ∨ k = 4 ∨ k = 5 ∨ k = 6 ∨ k = 7) with rfl | rfl | rfl | rfl | rfl | rfl | rfl | rfl
      all_goals
        simp only [Addr.add, if_true, if_false, show ¬ (1 : Nat) = 0 by decide, show ¬ (2 : Nat) = 0 by decide, show ¬ (3 : Nat) = 0 by decide, show ¬ (4 : Nat) = 0 by decide, show ¬ (5 : Nat) = 0 by decide, show ¬ (6 : Nat) = 0 by decide, show ¬ (7 : Nat) = 0 by decide] at hc
      · have HV : bits .or .u64 Z (I8 u) = ((numL (bs.take 1) : Nat) : Int) := by
          have := HO.out
          simp only [Nat.reducePow, Nat.reduceAdd] at this
          rw [← this]
          unfold I8
          congr 1
          omega
        clear HO
        go_wp2
        exact ⟨⟨1, by omega, rfl, rfl⟩, by simp only [intOf]; omega⟩
      · have HV : bits .or .u64 Z (I8 u * 256) = ((numL (bs.take 2) : Nat) : Int) := by
          have := HO.out
          simp only [Nat.reducePow, Nat.reduceAdd] at this
          rw [← this]
          unfold I8
          congr 1
          omega
        clear HO
        go_wp2
        exact ⟨⟨2, by omega, rfl, rfl⟩, by simp only [intOf]; omega⟩
      · have HV : bits .or .u64 Z (I8 u * 65536) = ((numL (bs.take 3) : Nat) : Int) := by
          have := HO.out
          simp only [Nat.reducePow, Nat.reduceAdd] at this
          rw [← this]
          unfold I8
          congr 1
          omega
        clear HO
        go_wp2
        exact ⟨⟨3, by omega, rfl, rfl⟩, by simp only [intOf]; omega⟩
      · have HV : bits .or .u64 Z (I8 u * 16777216) = ((numL (bs.take 4) : Nat) : Int) := by
          have := HO.out
          simp only [Nat.reducePow, Nat.reduceAdd] at this
          rw [← this]
          unfold I8
          congr 1
          omega
        clear HO
        go_wp2
        exact ⟨⟨4, by omega, rfl, rfl⟩, by simp only [intOf]; omega⟩
      · have HV : bits .or .u64 Z (I8 u * 4294967296) = ((numL (bs.take 5) : Nat) : Int) := by
          have := HO.out
          simp only [Nat.reducePow, Nat.reduceAdd] at this
          rw [← this]
          unfold I8
          congr 1
          omega
        clear HO
        go_wp2
        exact ⟨⟨5, by omega, rfl, rfl⟩, by simp only [intOf]; omega⟩
      · have HV : bits .or .u64 Z (I8 u * 1099511627776) = ((numL (bs.take 6) : Nat) : Int) := by
          have := HO.out
          simp only [Nat.reducePow, Nat.reduceAdd] at this
          rw [← this]
          unfold I8
          congr 1
          omega
        clear HO
        go_wp2
        exact ⟨⟨6, by omega, rfl, rfl⟩, by simp only [intOf]; omega⟩
      · have HV : bits .or .u64 Z (I8 u * 281474976710656) = ((numL (bs.take 7) : Nat) : Int) := by
          have := HO.out
          simp only [Nat.reducePow, Nat.reduceAdd] at this
          rw [← this]
          unfold I8
          congr 1
          omega
        clear HO
        go_wp2
        exact ⟨⟨7, by omega, rfl, rfl⟩, by simp only [intOf]; omega⟩
      · have HV : bits .or .u64 Z (I8 u * 72057594037927936) = ((numL (bs.take 8) : Nat) : Int) := by
          have := HO.out
          simp only [Nat.reducePow, Nat.reduceAdd] at this
          rw [← this]
          unfold I8
          congr 1
          omega
        clear HO
        go_wp2
        exact ⟨⟨8, by omega, rfl, rfl⟩, by simp only [intOf]; omega⟩
    · obtain rfl : k = n := by omega
      have hltI : ¬ (k : Int) < (k : Int) := by omega
      have HT : bs.take k = bs := List.take_of_length_le (by omega)
      go_wp2
      go_ret
      exact ⟨rfl, rfl⟩
def putN (L : List B8) (o x : Nat) : Nat → List B8
  | 0 => L
  | k + 1 => (putN L o x k).set (o + k) (BitVec.ofNat 8 (x / 256 ^ k))
theorem putN_length (L : List B8) (o x k : Nat) : (putN L o x k).length = L.length := by
  induction k with
  | zero => rfl
  | succ k ih => simp [putN, ih]
def nb (x k : Nat) : B8 := BitVec.ofNat 8 (x / 256 ^ k)
theorem nb_val (x k : Nat) : I8 (nb x k) = ((x / 256 ^ k % 256 : Nat) : Int) := by unfold I8 nb; rw [BitVec.toNat_ofNat]

theorem putStored {L : List B8} {o N cap g j : Nat} {x : Nat} {y : Int} {wr : World} {base : Nat}
    (hown : wr.ownsRow base 5 1 (.slice (some ⟨g, 0, none⟩) N cap) N ((putN L o x j).map v8)) (hy : y = I8 (nb x j)) :
    (wr.setCell ⟨g, o + j, none⟩ (.int .u8 y)).ownsRow base 5 1 (.slice (some ⟨g, 0, none⟩) N cap) N ((putN L o x (j + 1)).map v8) := by
  subst hy
  show World.ownsRow _ _ _ _ _ _ (((putN L o x j).set (o + j) (nb x j)).map v8)
  rw [List.map_set]
  exact (hown.stored (o + j) _).1
theorem putFacts {L : List B8} {o N cap g n : Nat} {x : Nat} {z : Nat} {wr : World} {base : Nat} (ho : o + n ≤ N)
    (hown : wr.ownsRow base 5 1 (.slice (some ⟨g, 0, none⟩) N cap) N ((putN L o x z).map v8)) (hz : z < n) :
    ∃ v, wr.cell? ⟨g, o + z, none⟩ = some v ∧ wr.frozen? ⟨g, o + z, none⟩ = false := by
  have hl : (putN L o x z).length = N := by have := hown.1; simpa using this
  have hc := hown.cellAt (o + z) (by omega)
  rw [List.getElem?_eq_getElem (by simp; omega)] at hc
  exact ⟨_, hc, hown.frozenAt _⟩

set_option maxHeartbeats 2000000 in
theorem lay_any (g o n c N cap base : Nat) (L : List B8) (x : Nat) (w : World) (hx : x < 18446744073709551616) (hown : w.ownsRow base 5 1 (.slice (some ⟨g, 0, none⟩) N cap) N (L.map v8)) (ho : o + n ≤ N) (hn : n ≤ 8) :
    Calls Try.prog 43 #[.slice (some ⟨g, o, none⟩) n c, .int .u64 (x : Int)] w fun e w' => e = .returned (.tuple #[]) ∧ w'.ownsRow base 5 1 (.slice (some ⟨g, 0, none⟩) N cap) N ((putN L o x n).map v8) ∧ w.grownBy w' (some g) := by
  have hg0 := World.grownBy.refl w (some g)
  go_enter Try.func43, Try.ntmps43
  go_wp2
  go_loopw [7] (fun i wr => ∃ k : Nat, k ≤ n ∧ i = .int .i64 (k : Int) ∧ wr.ownsRow base 5 1 (.slice (some ⟨g, 0, none⟩) N cap) N ((putN L o x k).map v8) ∧ w.grownBy wr (some g)) (fun i _ => n - (intOf i).toNat)
  case atStart => exact ⟨0, by omega, rfl, hown, hg0⟩
  case round =>
    clear hown hg0
    obtain ⟨k, hk, rfl, hown, hg⟩ := hrel
    by_cases hlt : k < n
    · obtain ⟨v, hc, hf⟩ := putFacts ho hown hlt
      have hltI : (k : Int) < (n : Int) := by omega
      rcases (by omega : k = 0 ∨ k = 1 ∨ k = 2 ∨ k = 3 ∨ k = 4 ∨ k = 5 ∨ k = 6 ∨ k = 7) with rfl | rfl | rfl | rfl | rfl | rfl | rfl | rfl
      all_goals first | simp only [Nat.add_zero] at hc hf | skip
      · go_wp2
        exact ⟨⟨1, by omega, rfl, putStored (j := 0) hown (by rw [nb_val]; simp only [Nat.reducePow]; omega), only_setCell hg (.inl rfl) _⟩, by simp only [intOf]; omega⟩
      · go_wp2
        exact ⟨⟨2, by omega, rfl, putStored (j := 1) hown (by rw [nb_val]; simp only [Nat.reducePow]; omega), only_setCell hg (.inl rfl) _⟩, by simp only [intOf]; omega⟩
      · go_wp2
        exact ⟨⟨3, by omega, rfl, putStored (j := 2) hown (by rw [nb_val]; simp only [Nat.reducePow]; omega), only_setCell hg (.inl rfl) _⟩, by simp only [intOf]; omega⟩
      · go_wp2
        exact ⟨⟨4, by omega, rfl, putStored (j := 3) hown (by rw [nb_val]; simp only [Nat.reducePow]; omega), only_setCell hg (.inl rfl) _⟩, by simp only [intOf]; omega⟩
      · go_wp2
        exact ⟨⟨5, by omega, rfl, putStored (j := 4) hown (by rw [nb_val]; simp only [Nat.reducePow]; omega), only_setCell hg (.inl rfl) _⟩, by simp only [intOf]; omega⟩
      · go_wp2
        exact ⟨⟨6, by omega, rfl, putStored (j := 5) hown (by rw [nb_val]; simp only [Nat.reducePow]; omega), only_setCell hg (.inl rfl) _⟩, by simp only [intOf]; omega⟩
      · go_wp2
        exact ⟨⟨7, by omega, rfl, putStored (j := 6) hown (by rw [nb_val]; simp only [Nat.reducePow]; omega), only_setCell hg (.inl rfl) _⟩, by simp only [intOf]; omega⟩
      · go_wp2
        exact ⟨⟨8, by omega, rfl, putStored (j := 7) hown (by rw [nb_val]; simp only [Nat.reducePow]; omega), only_setCell hg (.inl rfl) _⟩, by simp only [intOf]; omega⟩
    · obtain rfl : k = n := by omega
      have hltI : ¬ (k : Int) < (k : Int) := by omega
      go_wp2
      go_end0
      exact ⟨rfl, hown, hg⟩
/-- A number of four bytes, the lowest first. -/
def num4 (a b c d : B8) : Int := I8 a + 256 * I8 b + 65536 * I8 c + 16777216 * I8 d
theorem num4_bd (a b c d : B8) : 0 ≤ num4 a b c d ∧ num4 a b c d ≤ 4294967295 := by
  unfold num4
  have := I8.bd a; have := I8.bd b; have := I8.bd c; have := I8.bd d
  omega

theorem ofInt_i64 (a : Nat) (ha : a < 9223372036854775808) : (BitVec.ofInt 64 (a : Int)).toNat = a := by
  rw [BitVec.ofInt_natCast, BitVec.toNat_ofNat]; exact Nat.mod_eq_of_lt (by omega)
theorem i64_or_nat (a b : Nat) (ha : a < 9223372036854775808) (hb : b < 9223372036854775808) : bits .or .i64 (a : Int) (b : Int) = ((a ||| b : Nat) : Int) := by
  have hx : a ||| b < 2 ^ 63 := Nat.or_lt_two_pow (by omega) (by omega)
  show IntKind.i64.wrap ((BitVec.ofInt 64 (a : Int) ||| BitVec.ofInt 64 (b : Int)).toNat : Int) = _
  rw [BitVec.toNat_or, ofInt_i64 a ha, ofInt_i64 b hb, IntKind.wrap_i64]
  omega
theorem or_four64 (a b c d : B8) : bits .or .i64 (bits .or .i64 (bits .or .i64 (wrap64 (I8 a)) (wrap64 (wrap64 (I8 b) * 256))) (wrap64 (wrap64 (I8 c) * 65536))) (wrap64 (wrap64 (I8 d) * 16777216)) = num4 a b c d := by
  have ha := a.isLt; have hb := b.isLt; have hc := c.isLt; have hd := d.isLt
  unfold num4 I8
  generalize a.toNat = x at *
  generalize b.toNat = y at *
  generalize c.toNat = z at *
  generalize d.toNat = u at *
  have w (k : Nat) (h : k < 4294967296) : wrap64 (k : Int) = (k : Int) := by unfold wrap64; omega
  rw [w x (by omega), w y (by omega), w z (by omega), w u (by omega)]
  have e1 : (y : Int) * 256 = ((y * 256 : Nat) : Int) := by omega
  have e2 : (z : Int) * 65536 = ((z * 65536 : Nat) : Int) := by omega
  have e3 : (u : Int) * 16777216 = ((u * 16777216 : Nat) : Int) := by omega
  rw [e1, e2, e3, w (y * 256) (by omega), w (z * 65536) (by omega), w (u * 16777216) (by omega)]
  rw [i64_or_nat _ _ (by omega) (by omega), Nat.or_comm x, nat_join 8 (y * 256) x (by omega) (by omega)]
  rw [i64_or_nat _ _ (by omega) (by omega), Nat.or_comm _ (z * 65536), nat_join 16 (z * 65536) _ (by omega) (by omega)]
  rw [i64_or_nat _ _ (by omega) (by omega), Nat.or_comm _ (u * 16777216), nat_join 24 (u * 16777216) _ (by omega) (by omega)]
  omega

theorem num4_numL (a b c d : B8) : num4 a b c d = ((numL [a, b, c, d] : Nat) : Int) := by
  unfold num4 I8
  simp only [numL]
  omega
theorem take4 {bs : List B8} {o : Nat} (h : o + 4 ≤ bs.length) : ∃ b0 b1 b2 b3, (bs.drop o).take 4 = [b0, b1, b2, b3] := by
  have hl : ((bs.drop o).take 4).length = 4 := by simp; omega
  match hm : (bs.drop o).take 4, hl with
  | [b0, b1, b2, b3], _ => exact ⟨b0, b1, b2, b3, rfl⟩
/-- The number of four bytes at a place. -/
def numAt (bs : List B8) (o : Nat) : Int := ((numL ((bs.drop o).take 4) : Nat) : Int)
theorem numAt_bd (bs : List B8) (o : Nat) : 0 ≤ numAt bs o ∧ numAt bs o ≤ 4294967295 := by
  unfold numAt
  have h := numL_lt ((bs.drop o).take 4)
  have h2 : 256 ^ ((bs.drop o).take 4).length ≤ 256 ^ 4 := Nat.pow_le_pow_right (by decide) (by simp; omega)
  simp only [Nat.reducePow] at h2
  omega

theorem get_2 (A : Option Addr) (n c : Nat) (bs : List B8) (B : Nat) (w : World) (hr : Rd w B A n bs) (hn : 6 ≤ n) :
    Calls Try.prog 50 #[.slice A n c, .int .i64 2] w fun e w' => e = .returned (.int .i64 (numAt bs 2)) ∧ ∃ nq, w' = w.drewN nq := by
  obtain ⟨b0, b1, b2, b3, hb⟩ := take4 (bs := bs) (o := 2) (by rw [hr.len]; omega)
  have hv : numAt bs 2 = num4 b0 b1 b2 b3 := by unfold numAt; rw [hb, num4_numL]
  rw [hv]
  clear hv
  obtain ⟨ad, c0, rfl, _, e0, h0⟩ := hr.at_ (k := 2) (by omega)
  obtain ⟨_, c1, e, _, e1, h1⟩ := hr.at_ (k := 3) (by omega)
  injection e with e; subst e
  obtain ⟨_, c2, e, _, e2, h2⟩ := hr.at_ (k := 4) (by omega)
  injection e with e; subst e
  obtain ⟨_, c3, e, _, e3, h3⟩ := hr.at_ (k := 5) (by omega)
  injection e with e; subst e
  have t (k : Nat) (hk : k < 4) : bs[2 + k]? = [b0, b1, b2, b3][k]? := by rw [← hb, List.getElem?_take, if_pos hk, List.getElem?_drop]
  rw [t 0 (by omega)] at e0
  rw [t 1 (by omega)] at e1
  rw [t 2 (by omega)] at e2
  rw [t 3 (by omega)] at e3
  simp at e0 e1 e2 e3
  subst e0 e1 e2 e3
  have i0 : (2 : Int) < (n : Int) := by omega
  have i1 : (3 : Int) < (n : Int) := by omega
  have i2 : (4 : Int) < (n : Int) := by omega
  have i3 : (5 : Int) < (n : Int) := by omega
  simp only [Addr.add, show ¬ (2 : Nat) = 0 by decide, show ¬ (3 : Nat) = 0 by decide, show ¬ (4 : Nat) = 0 by decide, show ¬ (5 : Nat) = 0 by decide, if_false] at h0 h1 h2 h3
  clear t hb hr
  go_enter Try.func50, Try.ntmps50
  go_wp2
  go_quiet (fail)
  go_wp2_with fail
  go_ret
  exact ⟨congrArg (fun z => Ending.returned (.int .i64 z)) (or_four64 _ _ _ _), nq, rfl⟩

theorem get_6 (A : Option Addr) (n c : Nat) (bs : List B8) (B : Nat) (w : World) (hr : Rd w B A n bs) (hn : 10 ≤ n) :
    Calls Try.prog 50 #[.slice A n c, .int .i64 6] w fun e w' => e = .returned (.int .i64 (numAt bs 6)) ∧ ∃ nq, w' = w.drewN nq := by
  obtain ⟨b0, b1, b2, b3, hb⟩ := take4 (bs := bs) (o := 6) (by rw [hr.len]; omega)
  have hv : numAt bs 6 = num4 b0 b1 b2 b3 := by unfold numAt; rw [hb, num4_numL]
  rw [hv]
  clear hv
  obtain ⟨ad, c0, rfl, _, e0, h0⟩ := hr.at_ (k := 6) (by omega)
  obtain ⟨_, c1, e, _, e1, h1⟩ := hr.at_ (k := 7) (by omega)
  injection e with e; subst e
  obtain ⟨_, c2, e, _, e2, h2⟩ := hr.at_ (k := 8) (by omega)
  injection e with e; subst e
  obtain ⟨_, c3, e, _, e3, h3⟩ := hr.at_ (k := 9) (by omega)
  injection e with e; subst e
  have t (k : Nat) (hk : k < 4) : bs[6 + k]? = [b0, b1, b2, b3][k]? := by rw [← hb, List.getElem?_take, if_pos hk, List.getElem?_drop]
  rw [t 0 (by omega)] at e0
  rw [t 1 (by omega)] at e1
  rw [t 2 (by omega)] at e2
  rw [t 3 (by omega)] at e3
  simp at e0 e1 e2 e3
  subst e0 e1 e2 e3
  have i0 : (6 : Int) < (n : Int) := by omega
  have i1 : (7 : Int) < (n : Int) := by omega
  have i2 : (8 : Int) < (n : Int) := by omega
  have i3 : (9 : Int) < (n : Int) := by omega
  simp only [Addr.add, show ¬ (6 : Nat) = 0 by decide, show ¬ (7 : Nat) = 0 by decide, show ¬ (8 : Nat) = 0 by decide, show ¬ (9 : Nat) = 0 by decide, if_false] at h0 h1 h2 h3
  clear t hb hr
  go_enter Try.func50, Try.ntmps50
  go_wp2
  go_quiet (fail)
  go_wp2_with fail
  go_ret
  exact ⟨congrArg (fun z => Ending.returned (.int .i64 z)) (or_four64 _ _ _ _), nq, rfl⟩

theorem get_10 (A : Option Addr) (n c : Nat) (bs : List B8) (B : Nat) (w : World) (hr : Rd w B A n bs) (hn : 14 ≤ n) :
    Calls Try.prog 50 #[.slice A n c, .int .i64 10] w fun e w' => e = .returned (.int .i64 (numAt bs 10)) ∧ ∃ nq, w' = w.drewN nq := by
  obtain ⟨b0, b1, b2, b3, hb⟩ := take4 (bs := bs) (o := 10) (by rw [hr.len]; omega)
  have hv : numAt bs 10 = num4 b0 b1 b2 b3 := by unfold numAt; rw [hb, num4_numL]
  rw [hv]
  clear hv
  obtain ⟨ad, c0, rfl, _, e0, h0⟩ := hr.at_ (k := 10) (by omega)
  obtain ⟨_, c1, e, _, e1, h1⟩ := hr.at_ (k := 11) (by omega)
  injection e with e; subst e
  obtain ⟨_, c2, e, _, e2, h2⟩ := hr.at_ (k := 12) (by omega)
  injection e with e; subst e
  obtain ⟨_, c3, e, _, e3, h3⟩ := hr.at_ (k := 13) (by omega)
  injection e with e; subst e
  have t (k : Nat) (hk : k < 4) : bs[10 + k]? = [b0, b1, b2, b3][k]? := by rw [← hb, List.getElem?_take, if_pos hk, List.getElem?_drop]
  rw [t 0 (by omega)] at e0
  rw [t 1 (by omega)] at e1
  rw [t 2 (by omega)] at e2
  rw [t 3 (by omega)] at e3
  simp at e0 e1 e2 e3
  subst e0 e1 e2 e3
  have i0 : (10 : Int) < (n : Int) := by omega
  have i1 : (11 : Int) < (n : Int) := by omega
  have i2 : (12 : Int) < (n : Int) := by omega
  have i3 : (13 : Int) < (n : Int) := by omega
  simp only [Addr.add, show ¬ (10 : Nat) = 0 by decide, show ¬ (11 : Nat) = 0 by decide, show ¬ (12 : Nat) = 0 by decide, show ¬ (13 : Nat) = 0 by decide, if_false] at h0 h1 h2 h3
  clear t hb hr
  go_enter Try.func50, Try.ntmps50
  go_wp2
  go_quiet (fail)
  go_wp2_with fail
  go_ret
  exact ⟨congrArg (fun z => Ending.returned (.int .i64 z)) (or_four64 _ _ _ _), nq, rfl⟩

theorem get_14 (A : Option Addr) (n c : Nat) (bs : List B8) (B : Nat) (w : World) (hr : Rd w B A n bs) (hn : 18 ≤ n) :
    Calls Try.prog 50 #[.slice A n c, .int .i64 14] w fun e w' => e = .returned (.int .i64 (numAt bs 14)) ∧ ∃ nq, w' = w.drewN nq := by
  obtain ⟨b0, b1, b2, b3, hb⟩ := take4 (bs := bs) (o := 14) (by rw [hr.len]; omega)
  have hv : numAt bs 14 = num4 b0 b1 b2 b3 := by unfold numAt; rw [hb, num4_numL]
  rw [hv]
  clear hv
  obtain ⟨ad, c0, rfl, _, e0, h0⟩ := hr.at_ (k := 14) (by omega)
  obtain ⟨_, c1, e, _, e1, h1⟩ := hr.at_ (k := 15) (by omega)
  injection e with e; subst e
  obtain ⟨_, c2, e, _, e2, h2⟩ := hr.at_ (k := 16) (by omega)
  injection e with e; subst e
  obtain ⟨_, c3, e, _, e3, h3⟩ := hr.at_ (k := 17) (by omega)
  injection e with e; subst e
  have t (k : Nat) (hk : k < 4) : bs[14 + k]? = [b0, b1, b2, b3][k]? := by rw [← hb, List.getElem?_take, if_pos hk, List.getElem?_drop]
  rw [t 0 (by omega)] at e0
  rw [t 1 (by omega)] at e1
  rw [t 2 (by omega)] at e2
  rw [t 3 (by omega)] at e3
  simp at e0 e1 e2 e3
  subst e0 e1 e2 e3
  have i0 : (14 : Int) < (n : Int) := by omega
  have i1 : (15 : Int) < (n : Int) := by omega
  have i2 : (16 : Int) < (n : Int) := by omega
  have i3 : (17 : Int) < (n : Int) := by omega
  simp only [Addr.add, show ¬ (14 : Nat) = 0 by decide, show ¬ (15 : Nat) = 0 by decide, show ¬ (16 : Nat) = 0 by decide, show ¬ (17 : Nat) = 0 by decide, if_false] at h0 h1 h2 h3
  clear t hb hr
  go_enter Try.func50, Try.ntmps50
  go_wp2
  go_quiet (fail)
  go_wp2_with fail
  go_ret
  exact ⟨congrArg (fun z => Ending.returned (.int .i64 z)) (or_four64 _ _ _ _), nq, rfl⟩

theorem get_18 (A : Option Addr) (n c : Nat) (bs : List B8) (B : Nat) (w : World) (hr : Rd w B A n bs) (hn : 22 ≤ n) :
    Calls Try.prog 50 #[.slice A n c, .int .i64 18] w fun e w' => e = .returned (.int .i64 (numAt bs 18)) ∧ ∃ nq, w' = w.drewN nq := by
  obtain ⟨b0, b1, b2, b3, hb⟩ := take4 (bs := bs) (o := 18) (by rw [hr.len]; omega)
  have hv : numAt bs 18 = num4 b0 b1 b2 b3 := by unfold numAt; rw [hb, num4_numL]
  rw [hv]
  clear hv
  obtain ⟨ad, c0, rfl, _, e0, h0⟩ := hr.at_ (k := 18) (by omega)
  obtain ⟨_, c1, e, _, e1, h1⟩ := hr.at_ (k := 19) (by omega)
  injection e with e; subst e
  obtain ⟨_, c2, e, _, e2, h2⟩ := hr.at_ (k := 20) (by omega)
  injection e with e; subst e
  obtain ⟨_, c3, e, _, e3, h3⟩ := hr.at_ (k := 21) (by omega)
  injection e with e; subst e
  have t (k : Nat) (hk : k < 4) : bs[18 + k]? = [b0, b1, b2, b3][k]? := by rw [← hb, List.getElem?_take, if_pos hk, List.getElem?_drop]
  rw [t 0 (by omega)] at e0
  rw [t 1 (by omega)] at e1
  rw [t 2 (by omega)] at e2
  rw [t 3 (by omega)] at e3
  simp at e0 e1 e2 e3
  subst e0 e1 e2 e3
  have i0 : (18 : Int) < (n : Int) := by omega
  have i1 : (19 : Int) < (n : Int) := by omega
  have i2 : (20 : Int) < (n : Int) := by omega
  have i3 : (21 : Int) < (n : Int) := by omega
  simp only [Addr.add, show ¬ (18 : Nat) = 0 by decide, show ¬ (19 : Nat) = 0 by decide, show ¬ (20 : Nat) = 0 by decide, show ¬ (21 : Nat) = 0 by decide, if_false] at h0 h1 h2 h3
  clear t hb hr
  go_enter Try.func50, Try.ntmps50
  go_wp2
  go_quiet (fail)
  go_wp2_with fail
  go_ret
  exact ⟨congrArg (fun z => Ending.returned (.int .i64 z)) (or_four64 _ _ _ _), nq, rfl⟩

theorem get_22 (A : Option Addr) (n c : Nat) (bs : List B8) (B : Nat) (w : World) (hr : Rd w B A n bs) (hn : 26 ≤ n) :
    Calls Try.prog 50 #[.slice A n c, .int .i64 22] w fun e w' => e = .returned (.int .i64 (numAt bs 22)) ∧ ∃ nq, w' = w.drewN nq := by
  obtain ⟨b0, b1, b2, b3, hb⟩ := take4 (bs := bs) (o := 22) (by rw [hr.len]; omega)
  have hv : numAt bs 22 = num4 b0 b1 b2 b3 := by unfold numAt; rw [hb, num4_numL]
  rw [hv]
  clear hv
  obtain ⟨ad, c0, rfl, _, e0, h0⟩ := hr.at_ (k := 22) (by omega)
  obtain ⟨_, c1, e, _, e1, h1⟩ := hr.at_ (k := 23) (by omega)
  injection e with e; subst e
  obtain ⟨_, c2, e, _, e2, h2⟩ := hr.at_ (k := 24) (by omega)
  injection e with e; subst e
  obtain ⟨_, c3, e, _, e3, h3⟩ := hr.at_ (k := 25) (by omega)
  injection e with e; subst e
  have t (k : Nat) (hk : k < 4) : bs[22 + k]? = [b0, b1, b2, b3][k]? := by rw [← hb, List.getElem?_take, if_pos hk, List.getElem?_drop]
  rw [t 0 (by omega)] at e0
  rw [t 1 (by omega)] at e1
  rw [t 2 (by omega)] at e2
  rw [t 3 (by omega)] at e3
  simp at e0 e1 e2 e3
  subst e0 e1 e2 e3
  have i0 : (22 : Int) < (n : Int) := by omega
  have i1 : (23 : Int) < (n : Int) := by omega
  have i2 : (24 : Int) < (n : Int) := by omega
  have i3 : (25 : Int) < (n : Int) := by omega
  simp only [Addr.add, show ¬ (22 : Nat) = 0 by decide, show ¬ (23 : Nat) = 0 by decide, show ¬ (24 : Nat) = 0 by decide, show ¬ (25 : Nat) = 0 by decide, if_false] at h0 h1 h2 h3
  clear t hb hr
  go_enter Try.func50, Try.ntmps50
  go_wp2
  go_quiet (fail)
  go_wp2_with fail
  go_ret
  exact ⟨congrArg (fun z => Ending.returned (.int .i64 z)) (or_four64 _ _ _ _), nq, rfl⟩

theorem get_26 (A : Option Addr) (n c : Nat) (bs : List B8) (B : Nat) (w : World) (hr : Rd w B A n bs) (hn : 30 ≤ n) :
    Calls Try.prog 50 #[.slice A n c, .int .i64 26] w fun e w' => e = .returned (.int .i64 (numAt bs 26)) ∧ ∃ nq, w' = w.drewN nq := by
  obtain ⟨b0, b1, b2, b3, hb⟩ := take4 (bs := bs) (o := 26) (by rw [hr.len]; omega)
  have hv : numAt bs 26 = num4 b0 b1 b2 b3 := by unfold numAt; rw [hb, num4_numL]
  rw [hv]
  clear hv
  obtain ⟨ad, c0, rfl, _, e0, h0⟩ := hr.at_ (k := 26) (by omega)
  obtain ⟨_, c1, e, _, e1, h1⟩ := hr.at_ (k := 27) (by omega)
  injection e with e; subst e
  obtain ⟨_, c2, e, _, e2, h2⟩ := hr.at_ (k := 28) (by omega)
  injection e with e; subst e
  obtain ⟨_, c3, e, _, e3, h3⟩ := hr.at_ (k := 29) (by omega)
  injection e with e; subst e
  have t (k : Nat) (hk : k < 4) : bs[26 + k]? = [b0, b1, b2, b3][k]? := by rw [← hb, List.getElem?_take, if_pos hk, List.getElem?_drop]
  rw [t 0 (by omega)] at e0
  rw [t 1 (by omega)] at e1
  rw [t 2 (by omega)] at e2
  rw [t 3 (by omega)] at e3
  simp at e0 e1 e2 e3
  subst e0 e1 e2 e3
  have i0 : (26 : Int) < (n : Int) := by omega
  have i1 : (27 : Int) < (n : Int) := by omega
  have i2 : (28 : Int) < (n : Int) := by omega
  have i3 : (29 : Int) < (n : Int) := by omega
  simp only [Addr.add, show ¬ (26 : Nat) = 0 by decide, show ¬ (27 : Nat) = 0 by decide, show ¬ (28 : Nat) = 0 by decide, show ¬ (29 : Nat) = 0 by decide, if_false] at h0 h1 h2 h3
  clear t hb hr
  go_enter Try.func50, Try.ntmps50
  go_wp2
  go_quiet (fail)
  go_wp2_with fail
  go_ret
  exact ⟨congrArg (fun z => Ending.returned (.int .i64 z)) (or_four64 _ _ _ _), nq, rfl⟩

theorem get_60 (A : Option Addr) (n c : Nat) (bs : List B8) (B : Nat) (w : World) (hr : Rd w B A n bs) (hn : 64 ≤ n) :
    Calls Try.prog 50 #[.slice A n c, .int .i64 60] w fun e w' => e = .returned (.int .i64 (numAt bs 60)) ∧ ∃ nq, w' = w.drewN nq := by
  obtain ⟨b0, b1, b2, b3, hb⟩ := take4 (bs := bs) (o := 60) (by rw [hr.len]; omega)
  have hv : numAt bs 60 = num4 b0 b1 b2 b3 := by unfold numAt; rw [hb, num4_numL]
  rw [hv]
  clear hv
  obtain ⟨ad, c0, rfl, _, e0, h0⟩ := hr.at_ (k := 60) (by omega)
  obtain ⟨_, c1, e, _, e1, h1⟩ := hr.at_ (k := 61) (by omega)
  injection e with e; subst e
  obtain ⟨_, c2, e, _, e2, h2⟩ := hr.at_ (k := 62) (by omega)
  injection e with e; subst e
  obtain ⟨_, c3, e, _, e3, h3⟩ := hr.at_ (k := 63) (by omega)
  injection e with e; subst e
  have t (k : Nat) (hk : k < 4) : bs[60 + k]? = [b0, b1, b2, b3][k]? := by rw [← hb, List.getElem?_take, if_pos hk, List.getElem?_drop]
  rw [t 0 (by omega)] at e0
  rw [t 1 (by omega)] at e1
  rw [t 2 (by omega)] at e2
  rw [t 3 (by omega)] at e3
  simp at e0 e1 e2 e3
  subst e0 e1 e2 e3
  have i0 : (60 : Int) < (n : Int) := by omega
  have i1 : (61 : Int) < (n : Int) := by omega
  have i2 : (62 : Int) < (n : Int) := by omega
  have i3 : (63 : Int) < (n : Int) := by omega
  simp only [Addr.add, show ¬ (60 : Nat) = 0 by decide, show ¬ (61 : Nat) = 0 by decide, show ¬ (62 : Nat) = 0 by decide, show ¬ (63 : Nat) = 0 by decide, if_false] at h0 h1 h2 h3
  clear t hb hr
  go_enter Try.func50, Try.ntmps50
  go_wp2
  go_quiet (fail)
  go_wp2_with fail
  go_ret
  exact ⟨congrArg (fun z => Ending.returned (.int .i64 z)) (or_four64 _ _ _ _), nq, rfl⟩

/-- The four bytes of a number. -/
def le4 (x : Nat) : List B8 := [nb x 0, nb x 1, nb x 2, nb x 3]
def leCells (x : Nat) : Array Value := ((le4 x).map v8).toArray
theorem le_any (z : Int) (x : Nat) (w : World) (hz : z = (x : Int)) (hx : x < 4294967296) :
    Calls Try.prog 45 #[.int .i64 z] w fun e w' => e = .returned (.slice (some ⟨w.heap.size, 0, none⟩) 4 4) ∧ w' = w.alloc (.cells (leCells x) 5) := by
  subst hz
  have m0 : (x : Int) % 256 = I8 (nb x 0) := by rw [nb_val]; simp only [Nat.reducePow]; omega
  have m1 : (x : Int) / 256 % 256 = I8 (nb x 1) := by rw [nb_val]; simp only [Nat.reducePow]; omega
  have m2 : (x : Int) / 65536 % 256 = I8 (nb x 2) := by rw [nb_val]; simp only [Nat.reducePow]; omega
  have m3 : (x : Int) / 16777216 = I8 (nb x 3) := by rw [nb_val]; simp only [Nat.reducePow]; omega
  go_enter Try.func45, Try.ntmps45
  go_wp2
  go_ret
  exact ⟨rfl, rfl⟩

end Go.Proofs.Ythhgmanoifpoiaa

/- The plain law of binary floats: the quotient of two small whole numbers is close to their ratio. -/
import Derived.Test.YthhgmanoifpoiaaFlo5
namespace Go.Proofs.Ythhgmanoifpoiaa
open Ieee

theorem log_pw (n e : Nat) (h : n ≠ 0) : (n * pw e).log2 = n.log2 + e := by
  rw [← pw_eq]; exact log2_shift n e h
theorem log_unit (n : Nat) (h : n ≠ 0) : (n * unit).log2 = n.log2 + 1074 := log_pw n 1074 h

theorem quot_parts (n d K : Nat) (hn : 0 < n) (hK : d ≤ n * K) (hb : 18014398509481984 ≤ 2 * (d / n) + (d % n != 0).toNat) :
    (2 * (d / n) + (d % n != 0).toNat) ≤ 2 * K ∧ (2 * (d / n) + (d % n != 0).toNat) * n * 18014398509481983 ≤ 2 * d * 18014398509481984 ∧
      2 * d * 18014398509481984 ≤ (2 * (d / n) + (d % n != 0).toNat) * n * 18014398509481985 := by
  have h1 := Nat.div_add_mod d n
  have h2 := Nat.mod_lt d hn
  generalize d / n = x at *
  generalize d % n = y at *
  have hs : (y != 0).toNat = if y = 0 then 0 else 1 := by
    by_cases e : y = 0
    · subst e; rfl
    · have : (y != 0) = true := by rw [bne_iff_ne]; exact e
      rw [this, if_neg e]; rfl
  rw [hs] at hb ⊢
  have hk : x ≤ K ∧ (y ≠ 0 → x < K) := by
    constructor
    · rcases Nat.lt_or_ge K x with h | h
      · exfalso
        have : n * (K + 1) ≤ n * x := Nat.mul_le_mul_left n h
        rw [Nat.mul_add] at this
        omega
      · exact h
    · intro hy
      rcases Nat.lt_or_ge x K with h | h
      · exact h
      · exfalso
        have : n * K ≤ n * x := Nat.mul_le_mul_left n h
        omega
  by_cases e : y = 0
  · rw [if_pos e, Nat.add_zero] at hb ⊢
    subst e
    have e2 : 2 * x * n = 2 * d := by rw [← h1, Nat.mul_assoc, Nat.mul_comm x n]; omega
    rw [e2]
    exact ⟨by omega, by omega, by omega⟩
  · rw [if_neg e] at hb ⊢
    have e2 : (2 * x + 1) * n = 2 * (n * x) + n := by rw [Nat.add_mul, Nat.one_mul, Nat.mul_assoc, Nat.mul_comm x n]
    have e3 : 18014398509481984 * n ≤ (2 * x + 1) * n := Nat.mul_le_mul_right n hb
    rw [e2] at e3 ⊢
    generalize n * x = w at *
    have := hk.2 e
    exact ⟨by omega, by omega, by omega⟩

theorem close {A B a b P Q : Nat} (h : A * a ≤ B * b) (hab : b * P ≤ Q * a) (ha : 0 < a) : A * P ≤ B * Q := by
  refine Nat.le_of_mul_le_mul_right (c := a) ?_ ha
  have h1 := Nat.mul_le_mul_right P h
  have h2 := Nat.mul_le_mul_left B hab
  have e1 : A * P * a = A * a * P := by rw [Nat.mul_assoc, Nat.mul_comm P, ← Nat.mul_assoc]
  rw [e1, Nat.mul_assoc B Q]
  rw [Nat.mul_assoc B b] at h1
  exact Nat.le_trans h1 h2
theorem chain {A B C a b c d : Nat} (h1 : A * a ≤ C * b) (h2 : C * c ≤ B * d) : A * (a * c) ≤ B * (d * b) := by
  have a1 := Nat.mul_le_mul_right c h1
  have a2 := Nat.mul_le_mul_right b h2
  rw [Nat.mul_assoc, Nat.mul_assoc] at a1 a2
  rw [Nat.mul_comm b c] at a1
  exact Nat.le_trans a1 a2
theorem fin1 {A B C : Nat} (h1 : A * 9007199254740992 ≤ C * 9007199254740993) (h2 : C * 18014398509481983 ≤ B * 18014398509481984) : A * 2251799813685248 ≤ B * 2251799813685249 :=
  close (chain h1 h2) (by decide) (by decide)
theorem fin2 {A B C : Nat} (h1 : C * 9007199254740991 ≤ A * 9007199254740992) (h2 : B * 18014398509481984 ≤ C * 18014398509481985) : B * 2251799813685247 ≤ A * 2251799813685248 :=
  close (chain h2 h1) (by decide) (by decide)

theorem div_small {p r : Nat} (hp0 : 0 < p) (hp : p ≤ 65535) (hr0 : 0 < r) (hr : r ≤ 65536) :
    ∃ q, floatBits .quo .f64 (intW p) (intW r) = some q ∧ q ≠ 0 ∧ q ≤ intW 65535 ∧
      V q * r * 2251799813685248 ≤ p * unit * 2251799813685249 ∧ p * unit * 2251799813685247 ≤ V q * r * 2251799813685248 := by
  have hpi := intW_lt (n := p) (by omega)
  have hri := intW_lt (n := r) (by omega)
  obtain ⟨a1, a2⟩ := rung_pos (Nat.le_of_lt hpi)
  obtain ⟨b1, b2⟩ := rung_pos (Nat.le_of_lt hri)
  obtain ⟨m, i, hi, h1, h2⟩ := read_fin (w := intW p) (by rw [a1]; exact hpi)
  obtain ⟨n, j, hj, h3, h4⟩ := read_fin (w := intW r) (by rw [b1]; exact hri)
  rw [a1, V_intW (by omega)] at h2
  rw [b1, V_intW (by omega)] at h4
  have hm53 := read_mag h1
  have hup := unit_pos
  have hm0 : m ≠ 0 := by
    rintro rfl
    rw [Nat.zero_mul] at h2
    exact int_ne (n := p) (by omega) h2.symm
  have hn0 : n ≠ 0 := by
    rintro rfl
    rw [Nat.zero_mul] at h4
    exact int_ne (n := r) (by omega) h4.symm
  generalize ha : (i + 1074).toNat = a at *
  generalize hb : (j + 1074).toNat = b at *
  have la : m.log2 + a = p.log2 + 1074 := by rw [← log2_shift m a hm0, h2, log_unit p (by omega)]
  have lb : n.log2 + b = r.log2 + 1074 := by rw [← log2_shift n b hn0, h4, log_unit r (by omega)]
  have lp : p.log2 < 16 := (Nat.log2_lt (by omega)).2 (by omega)
  have lr : r.log2 < 17 := (Nat.log2_lt (by omega)).2 (by omega)
  have lm : m.log2 < 53 := (Nat.log2_lt hm0).2 (by omega)
  show ∃ q, double.div _ _ = some q ∧ _
  unfold Format.div
  rw [h1, h3, a2, b2]
  have hf : double.fractionBits + 2 = 54 := by decide
  rw [hf]
  simp only [Datum.quotient, if_neg hn0, Option.map_some, Format.write, Nat.shiftLeft_eq]
  refine ⟨_, rfl, ?_⟩
  generalize hmore : 54 + n.log2 - m.log2 = more
  have hmore' : more + m.log2 = 54 + n.log2 := by omega
  -- the dividend
  have hdl : 9007199254740992 * n ≤ m * 2 ^ more := by
    have c1 : 2 ^ m.log2 * 2 ^ more ≤ m * 2 ^ more := Nat.mul_le_mul_right _ (Nat.log2_self_le hm0)
    rw [← Nat.pow_add, Nat.add_comm, hmore'] at c1
    have c2 : n < 2 ^ (n.log2 + 1) := Nat.lt_log2_self
    have c3 : 2 ^ (54 + n.log2) = 9007199254740992 * 2 ^ (n.log2 + 1) := by
      rw [show 54 + n.log2 = 53 + (n.log2 + 1) by omega, Nat.pow_add]
    omega
  have hdK : m * 2 ^ more ≤ n * (65535 * 2 ^ (b + more - a)) := by
    have c1 : m * 2 ^ a ≤ 65535 * (n * 2 ^ b) := by
      rw [h2, h4]
      have d1 : p * unit ≤ 65535 * unit := Nat.mul_le_mul_right _ hp
      have d2 : 1 * unit ≤ r * unit := Nat.mul_le_mul_right _ hr0
      omega
    have c2 := Nat.mul_le_mul_right (2 ^ more) c1
    have c3 : 2 ^ b * 2 ^ more = 2 ^ (b + more - a) * 2 ^ a := by rw [← Nat.pow_add, ← Nat.pow_add]; congr 1; omega
    have c4 : 65535 * (n * 2 ^ b) * 2 ^ more = n * (65535 * 2 ^ (b + more - a)) * 2 ^ a := by
      rw [Nat.mul_assoc, Nat.mul_assoc n, c3, Nat.mul_assoc n, Nat.mul_assoc 65535, Nat.mul_left_comm 65535 n]
    have c5 : m * 2 ^ a * 2 ^ more = m * 2 ^ more * 2 ^ a := by rw [Nat.mul_assoc, Nat.mul_comm (2 ^ a), ← Nat.mul_assoc]
    rw [c4, c5] at c2
    exact Nat.le_of_mul_le_mul_right c2 (Nat.two_pow_pos a)
  have hx : 9007199254740992 ≤ m * 2 ^ more / n := by
    rw [Nat.le_div_iff_mul_le (by omega)]
    exact hdl
  obtain ⟨g1, g2, g3⟩ := quot_parts n (m * 2 ^ more) _ (by omega) hdK (by omega)
  have hM : 2 * (m * 2 ^ more) * 2 ^ (b) = 2 * (m * 2 ^ more) * 2 ^ b := rfl
  generalize hN : 2 * (m * 2 ^ more / n) + (m * 2 ^ more % n != 0).toNat = N at *
  have hN54 : 18014398509481984 ≤ N := by omega
  have hN0 : N ≠ 0 := by omega
  rw [nearest_rung _ N _ 200 hN0 (by omega)]
  generalize ht : (i - j - (more : Int) - 1 + 1074 + (200 : Nat)).toNat = t
  have ht' : t + b + more + 1 = a + 1074 + 200 := by omega
  rw [pw_eq t]
  have hTK : N * pw t ≤ 65535 * unit * 2 ^ 200 := by
    have c1 := Nat.mul_le_mul_right (pw t) g1
    have c2 : 2 * (65535 * 2 ^ (b + more - a)) * pw t = 65535 * unit * 2 ^ 200 := by
      have d1 : 2 * (2 ^ (b + more - a) * pw t) = unit * 2 ^ 200 := by
        unfold unit
        rw [pw_eq, pw_eq 200, ← pw_add, ← pw_add]
        have p1 : pw 1 = 2 := by unfold pw; rfl
        rw [← p1, ← pw_add]
        congr 1; omega
      rw [Nat.mul_assoc 65535 unit, ← d1, Nat.mul_assoc, Nat.mul_assoc 65535, Nat.mul_left_comm 2 65535]
    rw [c2] at c1
    exact c1
  have hT0 : N * pw t ≠ 0 := Nat.mul_ne_zero hN0 (by have := pw_pos t; omega)
  have hqle : rungN 200 (N * pw t) ≤ intW 65535 := rung_le hT0 (by rw [V_intW (by decide)]; exact hTK)
  have hfin : intW 65535 < inf := intW_lt (by decide)
  have hmin : min (rungN 200 (N * pw t)) double.infRung = rungN 200 (N * pw t) := by
    rw [inf_eq]
    unfold inf at hfin
    exact Nat.min_eq_left (by omega)
  rw [hmin]
  have hw : double.word (false ^^ false) (rungN 200 (N * pw t)) = rungN 200 (N * pw t) := rfl
  rw [hw]
  have hbig : 2 ^ (200 + 52) ≤ N * pw t := by
    have c1 : 2 ^ 54 * pw t ≤ N * pw t := Nat.mul_le_mul_right _ hN54
    have c2 : 2 ^ (200 + 52) ≤ 2 ^ 54 * pw t := by
      rw [← pw_eq t, ← Nat.pow_add]
      exact Nat.pow_le_pow_right (by decide) (by omega)
    exact Nat.le_trans c2 c1
  obtain ⟨r1, r2⟩ := rel (k := 200) hbig
  have hq0 : rungN 200 (N * pw t) ≠ 0 := by
    intro e
    rw [e, V_zero, Nat.zero_mul, Nat.zero_mul] at r2
    have := Nat.pos_of_ne_zero hT0
    omega
  refine ⟨hq0, hqle, ?_⟩
  generalize rungN 200 (N * pw t) = q at *
  -- the identity
  have hY : 2 * (m * 2 ^ more) * pw (t + b) = p * unit * (unit * pw 200) := by
    unfold unit at h2 ⊢
    rw [← h2, pw_eq, pw_eq, Nat.mul_assoc m, ← pw_add, ← pw_add]
    have p1 : pw 1 = 2 := by unfold pw; rfl
    rw [← p1, Nat.mul_left_comm, Nat.mul_assoc m, ← pw_add, ← pw_add]
    congr 2; omega
  have hX : N * n * pw (t + b) = N * pw t * r * unit := by
    rw [Nat.mul_assoc (N * pw t), ← h4, pw_eq, pw_add, Nat.mul_assoc, Nat.mul_assoc, Nat.mul_left_comm n]
  have k1 := Nat.mul_le_mul_right (pw (t + b)) g2
  have k2 := Nat.mul_le_mul_right (pw (t + b)) g3
  have z1 : ∀ x c : Nat, x * c * pw (t + b) = x * pw (t + b) * c := fun x c => by rw [Nat.mul_assoc, Nat.mul_comm c, ← Nat.mul_assoc]
  rw [z1 (N * n), z1 (2 * (m * 2 ^ more)), hX, hY] at k1 k2
  have z2 : p * unit * (unit * pw 200) = p * unit * pw 200 * unit := by rw [Nat.mul_comm unit (pw 200), ← Nat.mul_assoc]
  rw [z2] at k1 k2
  have z3 : ∀ x c : Nat, x * unit * c = x * c * unit := fun x c => by rw [Nat.mul_assoc, Nat.mul_comm unit, ← Nat.mul_assoc]
  rw [z3 (N * pw t * r), z3 (p * unit * pw 200)] at k1 k2
  have k1' := Nat.le_of_mul_le_mul_right k1 hup
  have k2' := Nat.le_of_mul_le_mul_right k2 hup
  have r1' := Nat.mul_le_mul_right r r1
  have r2' := Nat.mul_le_mul_right r r2
  have z4 : ∀ x c : Nat, x * c * r = x * r * c := fun x c => by rw [Nat.mul_assoc, Nat.mul_comm c, ← Nat.mul_assoc]
  rw [z4 (V q * pw 200), z4 (N * pw t), z4 (V q)] at r1'
  rw [z4 (V q * pw 200), z4 (N * pw t), z4 (V q)] at r2'
  -- cancel 2^200
  have hc : pw 200 * (V q * r * 2251799813685248) ≤ pw 200 * (p * unit * 2251799813685249) := by
    have e1 : V q * r * pw 200 = pw 200 * (V q * r) := Nat.mul_comm _ _
    have e2 : p * unit * pw 200 = pw 200 * (p * unit) := Nat.mul_comm _ _
    rw [e1] at r1'
    rw [e2] at k1'
    have e3 : pw 200 * (V q * r * 2251799813685248) = pw 200 * (V q * r) * 2251799813685248 := (Nat.mul_assoc _ _ _).symm
    have e4 : pw 200 * (p * unit * 2251799813685249) = pw 200 * (p * unit) * 2251799813685249 := (Nat.mul_assoc _ _ _).symm
    rw [e3, e4]
    exact fin1 r1' k1'
  have hc2 : pw 200 * (p * unit * 2251799813685247) ≤ pw 200 * (V q * r * 2251799813685248) := by
    have e1 : V q * r * pw 200 = pw 200 * (V q * r) := Nat.mul_comm _ _
    have e2 : p * unit * pw 200 = pw 200 * (p * unit) := Nat.mul_comm _ _
    rw [e1] at r2'
    rw [e2] at k2'
    have e3 : pw 200 * (V q * r * 2251799813685248) = pw 200 * (V q * r) * 2251799813685248 := (Nat.mul_assoc _ _ _).symm
    have e4 : pw 200 * (p * unit * 2251799813685247) = pw 200 * (p * unit) * 2251799813685247 := (Nat.mul_assoc _ _ _).symm
    rw [e3, e4]
    exact fin2 r2' k2'
  exact ⟨Nat.le_of_mul_le_mul_left hc (pw_pos 200), Nat.le_of_mul_le_mul_left hc2 (pw_pos 200)⟩

end Go.Proofs.Ythhgmanoifpoiaa

/- Contract of the document's added. -/
import Derived.Test.YtkmcddfeadbahaaRdE
namespace Go.Proofs.Ytkmcddfeadbahaa
open Go.RowKit
set_option linter.unusedVariables false

theorem drop_cons {bs : List B8} {a : Nat} (h : a < bs.length) : bs.drop a = bt bs a :: bs.drop (a + 1) := by
  rw [List.drop_eq_getElem_cons h]
  have := bt_at h
  rw [List.getElem?_eq_getElem h] at this
  injection this with this
  rw [this]
theorem rd_bt {w : World} {B n a : Nat} {A : Option Addr} {bs : List B8} (h : Rd w B A n bs) (ha : a < n) : ∃ ad, A = some ad ∧ w.cell? (ad.add a) = some (.int .u8 (I8 (bt bs a))) := by
  obtain ⟨ad, b, e, _, hb, hc⟩ := h.at_ ha
  rw [bt_at (by rw [h.len]; exact ha)] at hb
  injection hb with hb
  rw [hb]
  exact ⟨ad, e, hc⟩

theorem added_small (A : Option Addr) (n c : Nat) (w : World) (a0 k : Nat) (hk : k < 15) :
    Calls Try.prog 22 #[.slice A n c, .int .i64 (a0 : Int), .int .i64 (k : Int)] w fun e w' => e = .returned (.tuple #[.int .i64 (k : Int), .int .i64 (a0 : Int)]) ∧ w = w' := by
  have hk' : (k : Int) < 15 := by omega
  go_enter Try.func22, Try.ntmps22
  go_wp2_with fail
  go_ret2
  exact ⟨rfl, rfl⟩

set_option maxRecDepth 100000 in
theorem added_big (A : Option Addr) (n c : Nat) (bs : List B8) (B : Nat) (w : World) (hr : Rd w B A n bs) (hn : n ≤ 1000000) (a0 : Nat) (ha : a0 ≤ n) :
    Calls Try.prog 22 #[.slice A n c, .int .i64 (a0 : Int), .int .i64 15] w fun e w' => w = w' ∧ (lenN 15 (bs.drop a0) = none → ∃ z : Int, e = .returned (.tuple #[.int .i64 (-1), .int .i64 z])) ∧
      ∀ m r, lenN 15 (bs.drop a0) = some (m, r) → ∃ a : Nat, e = .returned (.tuple #[.int .i64 (m : Int), .int .i64 (a : Int)]) ∧ a ≤ n ∧ bs.drop a = r := by
  have H := Lib.hid hr
  clear hr
  go_enter Try.func22, Try.ntmps22
  go_wp2_with fail
  go_loopw [1, 2, 8] (fun a m _ wr => ∃ ai z : Nat, a = .int .i64 (ai : Int) ∧ m = .int .i64 (z : Int) ∧ ai ≤ n ∧ lenN z (bs.drop ai) = lenN 15 (bs.drop a0) ∧ z + 255 * (n - ai) ≤ 15 + 255 * (n - a0) ∧ w = wr) (fun a _ _ _ => n - (intOf a).toNat)
  case atStart => exact ⟨a0, 15, rfl, rfl, ha, rfl, Nat.le_refl _, rfl⟩
  case round =>
    obtain ⟨ai, z, rfl, rfl, hai, hz, hb, rfl⟩ := hrel
    have HZ := Lib.hid hz
    have HB := Lib.hid hb
    clear hz hb
    by_cases hlt : ai < n
    · obtain ⟨ad, rfl, hc⟩ := rd_bt H.out hlt
      have hbd := I8.bd (bt bs ai)
      have hz2 : (z : Int) + I8 (bt bs ai) ≤ 300000000 := by have := HB.out; omega
      have hz3 : 0 ≤ (z : Int) + I8 (bt bs ai) := by omega
      have hltI : (ai : Int) < (n : Int) := by omega
      have HD := Lib.hid (drop_cons (bs := bs) (a := ai) (by rw [H.out.len]; exact hlt))
      generalize bt bs ai = x at *
      go_wp2_with fail
      · go_ret2
        have hz := HZ.out
        have hs : x.toNat < 255 := by have h0 : I8 x < 255 := by assumption
                                      unfold I8 at h0; omega
        rw [HD.out, lenN, if_pos hs] at hz
        refine ⟨rfl, fun h => by rw [h] at hz; exact absurd hz (by simp), fun m r hm => ?_⟩
        rw [hm] at hz
        injection hz with hz
        injection hz with h1 h2
        subst h1 h2
        exact ⟨ai + 1, rfl, hlt, rfl⟩
      · have hz := HZ.out
        have hs : ¬ x.toNat < 255 := by have h0 : 255 ≤ I8 x := by assumption
                                        unfold I8 at h0; omega
        rw [HD.out, lenN, if_neg hs] at hz
        have h255 : x.toNat = 255 := by have := x.isLt; omega
        have hI : I8 x = ((x.toNat : Nat) : Int) := rfl
        have hB := HB.out
        refine ⟨⟨ai + 1, z + x.toNat, rfl, by rw [hI]; rfl, hlt, hz, by omega, by trivial⟩, ?_⟩
        simp [intOf]
        omega
    · obtain rfl : ai = n := by omega
      have hz := HZ.out
      rw [List.drop_of_length_le (by rw [H.out.len]; exact Nat.le_refl _)] at hz
      have HZ2 := Lib.hid hz
      clear hz HZ
      go_wp2_with fail
      go_ret2
      refine ⟨by trivial, fun _ => ⟨_, rfl⟩, fun m r hm => ?_⟩
      have hz := HZ2.out
      rw [hm] at hz
      exact absurd hz (by simp [lenN])

theorem added_ok (A : Option Addr) (n c : Nat) (bs : List B8) (B : Nat) (w : World) (hr : Rd w B A n bs) (hn : n ≤ 1000000) (a0 k m : Nat) (r : List B8) (z y : Int) (hz : z = (a0 : Int)) (hy : y = (k : Int)) (ha : a0 ≤ n) (hk : k ≤ 15) (hg : lenG k (bs.drop a0) = some (m, r)) :
    Calls Try.prog 22 #[.slice A n c, .int .i64 z, .int .i64 y] w fun e w' => ∃ a : Nat, e = .returned (.tuple #[.int .i64 (m : Int), .int .i64 (a : Int)]) ∧ a ≤ n ∧ bs.drop a = r ∧ w = w' := by
  subst hz hy
  unfold lenG at hg
  by_cases h15 : k < 15
  · rw [if_pos h15] at hg
    injection hg with hg
    injection hg with h1 h2
    subst h1 h2
    exact (added_small A n c w a0 k h15).mono fun e w' ⟨h1, h2⟩ => ⟨a0, h1, ha, rfl, h2⟩
  · rw [if_neg h15] at hg
    obtain rfl : k = 15 := by omega
    exact (added_big A n c bs B w hr hn a0 ha).mono fun e w' ⟨h1, _, h3⟩ => by
      obtain ⟨a, q1, q2, q3⟩ := h3 m r hg
      exact ⟨a, q1, q2, q3, h1⟩
theorem added_bad (A : Option Addr) (n c : Nat) (bs : List B8) (B : Nat) (w : World) (hr : Rd w B A n bs) (hn : n ≤ 1000000) (a0 k : Nat) (z y : Int) (hz : z = (a0 : Int)) (hy : y = (k : Int)) (ha : a0 ≤ n) (hk : k ≤ 15) (hg : lenG k (bs.drop a0) = none) :
    Calls Try.prog 22 #[.slice A n c, .int .i64 z, .int .i64 y] w fun e w' => ∃ u : Int, e = .returned (.tuple #[.int .i64 (-1), .int .i64 u]) ∧ w = w' := by
  subst hz hy
  unfold lenG at hg
  by_cases h15 : k < 15
  · rw [if_pos h15] at hg; cases hg
  · rw [if_neg h15] at hg
    obtain rfl : k = 15 := by omega
    exact (added_big A n c bs B w hr hn a0 ha).mono fun e w' ⟨h1, h2, _⟩ => by
      obtain ⟨u, q⟩ := h2 hg
      exact ⟨u, q, h1⟩
end Go.Proofs.Ytkmcddfeadbahaa

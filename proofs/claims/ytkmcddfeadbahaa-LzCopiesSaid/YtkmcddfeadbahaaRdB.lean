/- Contract of the reader's length. -/
import Derived.Test.YtkmcddfeadbahaaRdA
namespace Go.Proofs.Ytkmcddfeadbahaa
open Go.RowKit
set_option linter.unusedVariables false

/-- Block p is a reader of the bytes bs, with its out. -/
structure Rdr (w : World) (p : Nat) (bs : List B8) (vo : Value) (A : Option Addr) (c : Nat) : Prop where
  blk : Blk w p 43 #[.slice A bs.length c, vo]
  rd : Rd w p A bs.length bs
  le : bs.length ≤ c

section
variable {w : World} {p : Nat} {bs : List B8} {vo : Value} {A : Option Addr} {c : Nat}
theorem Rdr.lt (h : Rdr w p bs vo A c) : p < w.heap.size := h.blk.lt
theorem Rdr.c0 (h : Rdr w p bs vo A c) : w.cell? ⟨p, 0, none⟩ = some (.slice A bs.length c) := by rw [h.blk.cell]; rfl
theorem Rdr.c1 (h : Rdr w p bs vo A c) : w.cell? ⟨p, 1, none⟩ = some vo := by rw [h.blk.cell]; rfl
theorem Rdr.f0 (h : Rdr w p bs vo A c) : w.frozen? ⟨p, 0, none⟩ = false := h.blk.frozen 0
theorem Rdr.f1 (h : Rdr w p bs vo A c) : w.frozen? ⟨p, 1, none⟩ = false := h.blk.frozen 1
theorem Rdr.turn (h : Rdr w p bs vo A c) {A2 : Option Addr} {c2 : Nat} {r : List B8} (hr : Rd w p A2 r.length r) (hc : r.length ≤ c2) :
    Rdr (w.setCell ⟨p, 0, none⟩ (.slice A2 r.length c2)) p r vo A2 c2 ∧ w.grownBy (w.setCell ⟨p, 0, none⟩ (.slice A2 r.length c2)) (some p) :=
  ⟨⟨h.blk.set_ 0 _, hr.setCell (Nat.le_refl _) _, hc⟩, only_setCell (World.grownBy.refl w _) (.inl rfl) _⟩
end

theorem take_any (p : Nat) (A : Option Addr) (c : Nat) (vo : Value) (k : Nat) (bs lits r : List B8) (w : World) (h : Rdr w p bs vo A c) (hk : k ≤ bs.length) (hl : bs.take k = lits) (hr : bs.drop k = r) :
    Calls Try.prog 23 #[.pointer (some ⟨p, 0, none⟩), .int .i64 (k : Int)] w fun e w' => e = .returned (.slice A k c) ∧
      ∃ A2, Rdr w' p r vo A2 (c - k) ∧ w.grownBy w' (some p) ∧ Rd w' p A k lits := by
  subst hl hr
  refine (take_ok p A bs.length c vo k bs w h.blk h.rd h.le hk).mono ?_
  rintro e w' ⟨rfl, A2, rfl, hr⟩
  have hle := h.le
  have hd : (bs.drop k).length = bs.length - k := by rw [List.length_drop]
  rw [← hd] at hr ⊢
  obtain ⟨h1, h2⟩ := h.turn (c2 := c - k) hr (by omega)
  exact ⟨rfl, A2, h1, h2, (h.rd.take hk).setCell (Nat.le_refl _) _⟩

theorem rd_first {w : World} {B n : Nat} {ad : Addr} {x : B8} {r : List B8} (h : Rd w B (some ad) (n + 1) (x :: r)) : w.cell? ad = some (.int .u8 (I8 x)) := by
  obtain ⟨_, b, e, _, hb0, hc0⟩ := h.at_ (k := 0) (by omega)
  injection e with e; subst e
  have hx : x = b := by simpa using hb0
  subst hx
  exact hc0
theorem rd_second {w : World} {B n : Nat} {ad : Addr} {x y : B8} {r : List B8} (h : Rd w B (some ad) (n + 2) (x :: y :: r)) : w.cell? (ad.add 1) = some (.int .u8 (I8 y)) := by
  obtain ⟨_, b, e, _, hb0, hc0⟩ := h.at_ (k := 1) (by omega)
  injection e with e; subst e
  have hx : y = b := by simpa using hb0
  subst hx
  exact hc0
theorem rd_some {w : World} {B n : Nat} {A : Option Addr} {bs : List B8} (h : Rd w B A (n + 1) bs) : ∃ ad, A = some ad := by
  obtain ⟨ad, _, e, _⟩ := h.at_ (k := 0) (by omega)
  exact ⟨ad, e⟩

theorem take1_bad (p : Nat) (A : Option Addr) (c : Nat) (vo : Value) (w : World) (h : Rdr w p [] vo A c) :
    Calls Try.prog 23 #[.pointer (some ⟨p, 0, none⟩), .int .i64 1] w fun e w' => e = .panicked (faultV 2) ∧ w = w' := take_bad p A 0 c vo 1 w h.blk (by omega)
theorem take2_bad (p : Nat) (A : Option Addr) (c : Nat) (vo : Value) (x : B8) (w : World) (h : Rdr w p [x] vo A c) :
    Calls Try.prog 23 #[.pointer (some ⟨p, 0, none⟩), .int .i64 2] w fun e w' => e = .panicked (faultV 2) ∧ w = w' := take_bad p A 1 c vo 2 w h.blk (by omega)
theorem take_cons (p : Nat) (ad : Addr) (c : Nat) (vo : Value) (t : B8) (r : List B8) (w : World) (h : Rdr w p (t :: r) vo (some ad) c) :
    Calls Try.prog 23 #[.pointer (some ⟨p, 0, none⟩), .int .i64 1] w fun e w' => e = .returned (.slice (some ad) 1 c) ∧
      ∃ A2, Rdr w' p r vo A2 (c - 1) ∧ w.grownBy w' (some p) ∧ w'.cell? ad = some (.int .u8 (I8 t)) := by
  refine (take_any p _ c vo 1 (t :: r) [t] r w h (by simp) rfl rfl).mono ?_
  rintro e w' ⟨rfl, A2, h1, h2, h3⟩
  exact ⟨rfl, A2, h1, h2, rd_first h3⟩
theorem take_cons2 (p : Nat) (A : Option Addr) (c : Nat) (vo : Value) (x y : B8) (r : List B8) (w : World) (h : Rdr w p (x :: y :: r) vo A c) :
    Calls Try.prog 23 #[.pointer (some ⟨p, 0, none⟩), .int .i64 2] w fun e w' => ∃ b o, e = .returned (.slice (some ⟨b, o, none⟩) 2 c) ∧
      ∃ A2, Rdr w' p r vo A2 (c - 2) ∧ w.grownBy w' (some p) ∧ w'.cell? ⟨b, o, none⟩ = some (.int .u8 (I8 x)) ∧ w'.cell? ⟨b, o + 1, none⟩ = some (.int .u8 (I8 y)) := by
  obtain ⟨ad, rfl⟩ := rd_some h.rd
  refine (take_any p _ c vo 2 (x :: y :: r) [x, y] r w h (by simp) rfl rfl).mono ?_
  rintro e w' ⟨rfl, A2, h1, h2, h3⟩
  have q1 := rd_first h3
  have q2 := rd_second h3
  obtain ⟨b, o, sp⟩ := ad
  have hs : sp = none := by simpa using World.cell?_spot q1
  subst hs
  exact ⟨b, o, rfl, A2, h1, h2, q1, q2⟩

theorem grown_then {a b c : World} {row : Option Nat} (h : a.grownBy b row) (k : b.grownBy c row) : a.grownBy c row :=
  ⟨k.os.trans h.os, k.tape.trans h.tape, k.output.trans h.output, Nat.le_trans h.size k.size, fun i hi hne => (k.block i (Nat.lt_of_lt_of_le hi h.size) hne).trans (h.block i hi hne)⟩

/-- How many bytes a reader still has. -/
def left (w : World) (p : Nat) : Nat := match w.cell? ⟨p, 0, none⟩ with
  | some (.slice _ n _) => n
  | _ => 0
theorem Rdr.left {w : World} {p : Nat} {bs : List B8} {vo : Value} {A : Option Addr} {c : Nat} (h : Rdr w p bs vo A c) : left w p = bs.length := by
  unfold Ytkmcddfeadbahaa.left
  rw [h.c0]

theorem length_small (p : Nat) (k : Nat) (w : World) (hk : k < 15) :
    Calls Try.prog 24 #[.pointer (some ⟨p, 0, none⟩), .int .i64 (k : Int)] w fun e w' => e = .returned (.int .i64 (k : Int)) ∧ w = w' := by
  have hk' : (k : Int) < 15 := by omega
  go_enter Try.func24, Try.ntmps24
  go_wp2_with fail
  go_ret
  exact ⟨rfl, rfl⟩

set_option maxRecDepth 100000 in
theorem length_big (p : Nat) (A : Option Addr) (c : Nat) (vo : Value) (bs : List B8) (w : World) (h : Rdr w p bs vo A c) (hn : bs.length ≤ 1000000) :
    Calls Try.prog 24 #[.pointer (some ⟨p, 0, none⟩), .int .i64 15] w fun e w' =>
      (lenN 15 bs = none → e = .panicked (faultV 2) ∧ w.grownBy w' (some p)) ∧
      (∀ m r, lenN 15 bs = some (m, r) → e = .returned (.int .i64 (m : Int)) ∧ ∃ A2 c2, Rdr w' p r vo A2 c2 ∧ w.grownBy w' (some p)) := by
  have hg0 := World.grownBy.refl w (some p)
  have H := Lib.hid h
  go_enter Try.func24, Try.ntmps24
  go_wp2_with fail
  go_loopw [1, 5] (fun m _ wr => ∃ (z : Nat) (A2 : Option Addr) (c2 : Nat) (r : List B8), m = .int .i64 (z : Int) ∧ lenN z r = lenN 15 bs ∧ z + 255 * r.length ≤ 15 + 255 * bs.length ∧ Rdr wr p r vo A2 c2 ∧ w.grownBy wr (some p)) (fun _ _ wr => left wr p)
  case atStart => exact ⟨15, A, c, bs, rfl, rfl, by omega, H.out, hg0⟩
  case round =>
    obtain ⟨z, A2, c2, r, rfl, hz, hb, hR, hg⟩ := hrel
    have hlf := Lib.hid hR.left
    cases r with
    | nil =>
      have hz' := Lib.hid hz
      have TB := Lib.hid (take1_bad p A2 c2 vo wr hR)
      clear hR hz hlf
      go_wp2_with (go_at_call 23; with_reducible refine TB.out.mono ?_; rintro e w' ⟨rfl, rfl⟩)
      refine ⟨rfl, ?_⟩
      have hz := hz'.out
      refine ⟨fun _ => ⟨rfl, hg⟩, fun m r hm => ?_⟩
      rw [← hz] at hm
      cases hm
    | cons x r =>
      obtain ⟨ad, rfl⟩ := rd_some hR.rd
      have T := Lib.hid (take_cons p ad c2 vo x r wr hR)
      have hbd := I8.bd x
      have hz' := Lib.hid hz
      have HB : Hid (z + 255 * (r.length + 1) ≤ 15 + 255 * bs.length) := hb
      have hz2 : (z : Int) + I8 x ≤ 300000000 := by have := HB.out; omega
      have hz3 : 0 ≤ (z : Int) + I8 x := by omega
      clear hR hz hb
      go_wp2_with (go_at_call 23; with_reducible refine T.out.mono ?_; rintro e w' ⟨rfl, A3, hR3, hg3, hc3⟩)
      · go_ret
        have hz := hz'.out
        have hs : x.toNat < 255 := by have h0 : I8 x < 255 := by assumption
                                      unfold I8 at h0; omega
        rw [lenN, if_pos hs] at hz
        refine ⟨fun hn => by rw [hn] at hz; exact absurd hz (by simp), fun m r' hm => ?_⟩
        rw [hm] at hz
        injection hz with hz
        injection hz with h1 h2
        subst h1 h2
        exact ⟨rfl, A3, _, hR3, grown_then hg hg3⟩
      · have hlf1 := hlf.out
        have hlf2 := hR3.left
        have hz := hz'.out
        have hs : ¬ x.toNat < 255 := by have h0 : 255 ≤ I8 x := by assumption
                                        unfold I8 at h0; omega
        rw [lenN, if_neg hs] at hz
        have h255 : x.toNat = 255 := by have := x.isLt; omega
        have hI : I8 x = ((x.toNat : Nat) : Int) := rfl
        have hB := HB.out
        refine ⟨⟨z + x.toNat, A3, _, r, by rw [hI]; rfl, hz, by omega, hR3, grown_then hg hg3⟩, ?_⟩
        rw [hlf1, hlf2]
        exact Nat.lt_succ_self _

theorem length_ok (p : Nat) (A : Option Addr) (c : Nat) (vo : Value) (bs : List B8) (w : World) (h : Rdr w p bs vo A c) (hn : bs.length ≤ 1000000) (z : Int) (k m : Nat) (r : List B8) (hz : z = (k : Int)) (hk : k ≤ 15) (hg : lenG k bs = some (m, r)) :
    Calls Try.prog 24 #[.pointer (some ⟨p, 0, none⟩), .int .i64 z] w fun e w' =>
      e = .returned (.int .i64 (m : Int)) ∧ ∃ A2 c2, Rdr w' p r vo A2 c2 ∧ w.grownBy w' (some p) := by
  subst hz
  unfold lenG at hg
  by_cases h15 : k < 15
  · rw [if_pos h15] at hg
    injection hg with hg
    injection hg with h1 h2
    subst h1 h2
    refine (length_small p k w h15).mono ?_
    rintro e w' ⟨rfl, rfl⟩
    exact ⟨rfl, A, c, h, World.grownBy.refl w _⟩
  · rw [if_neg h15] at hg
    obtain rfl : k = 15 := by omega
    exact (length_big p A c vo bs w h hn).mono fun e w' ⟨_, h2⟩ => h2 m r hg
theorem length_bad (p : Nat) (A : Option Addr) (c : Nat) (vo : Value) (bs : List B8) (w : World) (h : Rdr w p bs vo A c) (hn : bs.length ≤ 1000000) (z : Int) (k : Nat) (hz : z = (k : Int)) (hk : k ≤ 15) (hg : lenG k bs = none) :
    Calls Try.prog 24 #[.pointer (some ⟨p, 0, none⟩), .int .i64 z] w fun e w' => e = .panicked (faultV 2) ∧ w.grownBy w' (some p) := by
  subst hz
  unfold lenG at hg
  by_cases h15 : k < 15
  · rw [if_pos h15] at hg; cases hg
  · rw [if_neg h15] at hg
    obtain rfl : k = 15 := by omega
    exact (length_big p A c vo bs w h hn).mono fun e w' ⟨h1, _⟩ => h1 hg
end Go.Proofs.Ytkmcddfeadbahaa

/- The contract of the document's DecodeCrown. -/
import Derived.Test.YthhgmanoifpoiaaCrG
import Derived.Deep.CutRange
import Derived.Handy
namespace Go.Proofs.Ythhgmanoifpoiaa
open Go.RowKit
set_option linter.unusedVariables false

theorem refDec_arg (A : Option Addr) (n c : Nat) (w : World) (hn : ¬ n = 64) :
    Calls Try.prog 34 #[.slice A n c] w fun e w' => e = .returned (.tuple #[zeroV, .int .i64 1]) ∧ Below w.heap.size w w' := by
  have hne : ((n : Int) == 64) = false := by rw [beq_eq_false_iff_ne]; omega
  have hst := storeFloat
  go_enter Try.func34, Try.ntmps34
  go_wp2
  go_returns
  refine ⟨rfl, ?_⟩
  repeat (first | with_reducible exact Below.refl _ _ | (with_reducible refine Below.setCell ?_ (by simp) _) | (with_reducible refine below_drewN ?_ _) | (with_reducible refine Below.alloc ?_ (by simp) _))
set_option maxHeartbeats 2000000 in
theorem refDec_sum (A : Option Addr) (c : Nat) (bs : List B8) (w : World) (hr : Rd w w.heap.size A 64 bs) (hc : 64 ≤ c) (hs : sumAt bs = false) :
    Calls Try.prog 34 #[.slice A 64 c] w fun e w' => e = .returned (.tuple #[zeroV, .int .i64 5]) ∧ Below w.heap.size w w' := by
  obtain ⟨hS0, hS1⟩ := I32.bd (sum (bs.take 60))
  obtain ⟨Z, hZ⟩ : ∃ Z, Z = I32 (sum (bs.take 60)) := ⟨_, rfl⟩
  have hq : (numAt bs 60 != Z) = true := by rw [hZ, bne_iff_ne]; exact of_decide_eq_false hs
  rw [← hZ] at hS0 hS1
  have HZ := Lib.hid hZ.symm
  have hst := storeFloat
  obtain ⟨ad, _, rfl, _⟩ := hr.at_ (k := 0) (by decide)
  have h60 : ¬ c = 60 := by omega
  have HR := Lib.hid (hr.alloc (Nat.le_refl _) (.cells #[.int .i64 0, .int .i64 0, .int .i64 0, .float .f64 0, .int .i64 0, .int .i64 0, .int .i64 0, .int .i64 0] 42))
  have HSM := fun k c => by
    have := refSum_any _ 60 c _ _ _ ((HR.out.drewN k).take (k := 60) (by decide)) (by decide)
    rw [HZ.out] at this
    exact Lib.hid this
  have HR0 := Lib.hid hr
  have HSS := Lib.hid hs
  clear hr hs hZ
  go_enter Try.func34, Try.ntmps34
  go_wp2
  go_quiet (first
    | (go_at_call 50; exact Calls.quiet_of (get_60 _ _ _ _ _ _ (HR.out.drewN _) (by decide)))
    | (go_at_call 46; exact quietSame (HSM _ _).out))
  go_wp2_with fail
  go_returns
  refine ⟨rfl, ?_⟩
  repeat (first | with_reducible exact Below.refl _ _ | (with_reducible refine Below.setCell ?_ (by simp) _) | (with_reducible refine below_drewN ?_ _) | (with_reducible refine Below.alloc ?_ (by simp) _))

theorem eq_lit (b k : B8) : (I8 b == I8 k) = decide (b = k) := by
  by_cases h : b = k
  · subst h; simp
  · rw [decide_eq_false h, beq_eq_false_iff_ne]; exact fun e => h (I8.inj e)
/-- Noughts so far. -/
def zto (bs : List B8) (j : Nat) : Bool := decide ((bs.drop 38).take j = List.replicate j 0#8)
theorem zto_succ {bs : List B8} {j : Nat} {b : B8} (h : bs[38 + j]? = some b) : zto bs (j + 1) = (zto bs j && decide (b = 0#8)) := by
  have hd : (bs.drop 38)[j]? = some b := by rw [List.getElem?_drop]; exact h
  have hl : ((bs.drop 38).take j).length = j := by
    have := (List.getElem?_eq_some_iff.1 hd).1
    rw [List.length_take]; omega
  unfold zto
  rw [List.take_add_one, hd, List.replicate_succ', ← Bool.decide_and, decide_eq_decide]
  constructor
  · intro e
    have := List.append_inj e (by rw [hl, List.length_replicate])
    exact ⟨this.1, by simpa using this.2⟩
  · rintro ⟨e1, rfl⟩
    rw [e1]; rfl
theorem or_low (r b : Nat) (hb : b < 256) (hr : r < 72057594037927936) : bits .or .u64 ((r : Int) * 256) (b : Int) = ((b + 256 * r : Nat) : Int) := by
  rw [show (r : Int) * 256 = ((r * 256 : Nat) : Int) by omega, u64_or_nat _ _ (by omega) (by omega)]
  congr 1
  have := (Nat.two_pow_add_eq_or_of_lt (i := 8) (b := b) (by omega) r).symm
  rw [show (2 : Nat) ^ 8 = 256 by decide] at this
  rw [Nat.mul_comm r 256, this]; omega

set_option maxHeartbeats 8000000 in
theorem refDec_rest (A : Option Addr) (c : Nat) (bs : List B8) (w : World) (hr : Rd w w.heap.size A 64 bs) (hc : 64 ≤ c) (hs : sumAt bs = true) :
    Calls Try.prog 34 #[.slice A 64 c] w fun e w' => e = .returned (.tuple #[decV bs, .int .i64 (decE bs)]) ∧ Below w.heap.size w w' := by
  obtain ⟨hS0, hS1⟩ := I32.bd (sum (bs.take 60))
  obtain ⟨Z, hZ⟩ : ∃ Z, Z = I32 (sum (bs.take 60)) := ⟨_, rfl⟩
  have hq : (numAt bs 60 != Z) = false := by rw [hZ, bne_eq_false_iff_eq]; exact of_decide_eq_true hs
  rw [← hZ] at hS0 hS1
  have HZ := Lib.hid hZ.symm
  have hst := storeFloat
  obtain ⟨ad, _, rfl, _⟩ := hr.at_ (k := 0) (by decide)
  have h60 : ¬ c = 60 := by omega
  have HR := Lib.hid (hr.alloc (Nat.le_refl _) (.cells #[.int .i64 0, .int .i64 0, .int .i64 0, .float .f64 0, .int .i64 0, .int .i64 0, .int .i64 0, .int .i64 0] 42))
  have HSM := fun k c => by
    have := refSum_any _ 60 c _ _ _ ((HR.out.drewN k).take (k := 60) (by decide)) (by decide)
    rw [HZ.out] at this
    exact Lib.hid this
  have HR0 := Lib.hid hr
  have HSS := Lib.hid hs
  clear hr hs hZ
  go_enter Try.func34, Try.ntmps34
  go_wp2
  go_quiet (first
    | (go_at_call 50; exact Calls.quiet_of (get_60 _ _ _ _ _ _ (HR.out.drewN _) (by decide)))
    | (go_at_call 46; exact quietSame (HSM _ _).out))
  clear hq hS0 hS1 HZ HSM
  go_upto_region 5 with fail
  have Q2 := Lib.hid ((Blk.new w 42 #[.int .i64 0, .int .i64 0, .int .i64 0, .float .f64 0, .int .i64 0, .int .i64 0, .int .i64 0, .int .i64 0]).drewN nq)
  have B2 := Lib.hid (below_drewN ((Below.refl w.heap.size w).alloc (Nat.le_refl _) (.cells #[.int .i64 0, .int .i64 0, .int .i64 0, .float .f64 0, .int .i64 0, .int .i64 0, .int .i64 0, .int .i64 0] 42)) nq)
  have R2 := Lib.hid (HR.out.drewN nq)
  have s2 : ((w.alloc (.cells #[.int .i64 0, .int .i64 0, .int .i64 0, .float .f64 0, .int .i64 0, .int .i64 0, .int .i64 0, .int .i64 0] 42)).drewN nq).heap.size = w.heap.size + 1 := by simp
  generalize hW : (w.alloc (.cells #[.int .i64 0, .int .i64 0, .int .i64 0, .float .f64 0, .int .i64 0, .int .i64 0, .int .i64 0, .int .i64 0] 42)).drewN nq = w2 at *
  clear hW HR HR0
  go_upto_region 6 with (first
    | (go_at_call 50
       first
         | with_reducible refine (get_2 _ _ _ _ w.heap.size _ (by first | exact R2.out | exact R2.out.drewN _ | exact (R2.out.drewN _).drewN _) (by decide)).mono ?_
         | with_reducible refine (get_6 _ _ _ _ w.heap.size _ (by first | exact R2.out | exact R2.out.drewN _ | exact (R2.out.drewN _).drewN _) (by decide)).mono ?_
         | with_reducible refine (get_10 _ _ _ _ w.heap.size _ (by first | exact R2.out | exact R2.out.drewN _ | exact (R2.out.drewN _).drewN _) (by decide)).mono ?_
         | with_reducible refine (get_14 _ _ _ _ w.heap.size _ (by first | exact R2.out | exact R2.out.drewN _ | exact (R2.out.drewN _).drewN _) (by decide)).mono ?_
         | with_reducible refine (get_18 _ _ _ _ w.heap.size _ (by first | exact R2.out | exact R2.out.drewN _ | exact (R2.out.drewN _).drewN _) (by decide)).mono ?_
         | with_reducible refine (get_22 _ _ _ _ w.heap.size _ (by first | exact R2.out | exact R2.out.drewN _ | exact (R2.out.drewN _).drewN _) (by decide)).mono ?_
         | with_reducible refine (get_26 _ _ _ _ w.heap.size _ (by first | exact R2.out | exact R2.out.drewN _ | exact (R2.out.drewN _).drewN _) (by decide)).mono ?_
       rintro e w' ⟨rfl, nq2, rfl⟩)
    | fail)
  go_cut [5] from 37 to 37 (fun g5 wx => g5 = .int .u64 0 ∧ Hid (Blk wx (w.heap.size + 1) 42 #[.int .i64 (numAt bs 2), .int .i64 (numAt bs 6), .int .i64 (numAt bs 10), .float .f64 0, .int .i64 (numAt bs 14), .int .i64 (numAt bs 18), .int .i64 (numAt bs 22), .int .i64 (numAt bs 26)]) ∧ Hid (Blk wx w.heap.size 42 #[.int .i64 0, .int .i64 0, .int .i64 0, .float .f64 0, .int .i64 0, .int .i64 0, .int .i64 0, .int .i64 0]) ∧ Hid (Below w.heap.size w wx) ∧ Hid (Rd wx w.heap.size (some ad) 64 bs) ∧ wx.heap.size = w.heap.size + 2)
  case first =>
    go_wp2_with fail
    go_meet
    refine ⟨rfl, ?_, (Q2.out.drewN _).alloc _, (below_drewN B2.out _).alloc (by rw [show (World.drewN w2 _).heap.size = w2.heap.size from rfl]; omega) _, (R2.out.drewN _).alloc (by rw [show (World.drewN w2 _).heap.size = w2.heap.size from rfl]; omega) _, by simp; omega⟩
    show Blk _ _ _ _
    rw [← s2]
    exact Blk.new (w2.drewN _) 42 _
  case rest =>
  obtain ⟨rfl, C3, Q3, B3, R3, s3⟩ := hcut
  clear Q2 B2 R2 s2
  try apply_assumption
  go_wp2_with fail
  have hGl : ((bs.drop 30).take 8).length = 8 := by simp [R3.out.len]
  go_loop [5, 6] (fun g5 i => ∃ j : Nat, j ≤ 8 ∧ i = .int .i64 (7 - (j : Int)) ∧ g5 = .int .u64 ((numL (((bs.drop 30).take 8).drop (8 - j)) : Nat) : Int)) (fun _ i => (intOf i + 1).toNat)
  case atStart => exact ⟨0, by omega, rfl, by rw [List.drop_of_length_le (by rw [hGl]; omega)]; rfl⟩
  case round =>
    obtain ⟨j, hj, rfl, rfl⟩ := hrel
    rcases (by omega : j = 0 ∨ j = 1 ∨ j = 2 ∨ j = 3 ∨ j = 4 ∨ j = 5 ∨ j = 6 ∨ j = 7 ∨ j = 8) with rfl | rfl | rfl | rfl | rfl | rfl | rfl | rfl | rfl
    · obtain ⟨_, b, e, _, hb, hc⟩ := R3.out.at_ (k := 37) (by decide)
      injection e with e; subst e
      simp only [Addr.add, if_false, show ¬ (37 : Nat) = 0 by decide] at hc
      have hbd := I8.bd b
      obtain ⟨r, hr⟩ : ∃ r, numL (((bs.drop 30).take 8).drop (8 - 0)) = r := ⟨_, rfl⟩
      have hrb : r < 72057594037927936 := by
        have h1 := numL_lt (((bs.drop 30).take 8).drop (8 - 0))
        rw [hr, List.length_drop, hGl] at h1
        exact Nat.lt_of_lt_of_le h1 (by decide)
      have HV : bits .or .u64 ((r : Int) * 256) (I8 b) = ((numL (((bs.drop 30).take 8).drop (8 - 1)) : Nat) : Int) := by
        have hg : ((bs.drop 30).take 8)[7]? = some b := by rw [List.getElem?_take, if_pos (by decide), List.getElem?_drop]; exact hb
        rw [show I8 b = ((b.toNat : Nat) : Int) from rfl, or_low r b.toNat b.isLt hrb, List.drop_eq_getElem_cons (by rw [hGl]; decide : 8 - 1 < ((bs.drop 30).take 8).length)]
        rw [show ((bs.drop 30).take 8)[8 - 1]'(by rw [hGl]; decide) = b by rw [List.getElem?_eq_getElem (by rw [hGl]; decide)] at hg; exact Option.some.inj hg]
        simp only [numL]
        rw [← hr]
      rw [hr]
      have hrI : (r : Int) < 72057594037927936 := by omega
      obtain ⟨Y, hY⟩ : ∃ Y : Int, ((numL (((bs.drop 30).take 8).drop (8 - 1)) : Nat) : Int) = Y := ⟨_, rfl⟩
      rw [hY] at HV
      have HY := Lib.hid hY
      clear hb hY hr
      go_wp2_with fail
      exact ⟨⟨1, by omega, by first | rfl | (congr 1), by rw [HY.out]⟩, by simp only [intOf]; omega⟩
    · obtain ⟨_, b, e, _, hb, hc⟩ := R3.out.at_ (k := 36) (by decide)
      injection e with e; subst e
      simp only [Addr.add, if_false, show ¬ (36 : Nat) = 0 by decide] at hc
      have hbd := I8.bd b
      obtain ⟨r, hr⟩ : ∃ r, numL (((bs.drop 30).take 8).drop (8 - 1)) = r := ⟨_, rfl⟩
      have hrb : r < 72057594037927936 := by
        have h1 := numL_lt (((bs.drop 30).take 8).drop (8 - 1))
        rw [hr, List.length_drop, hGl] at h1
        exact Nat.lt_of_lt_of_le h1 (by decide)
      have HV : bits .or .u64 ((r : Int) * 256) (I8 b) = ((numL (((bs.drop 30).take 8).drop (8 - 2)) : Nat) : Int) := by
        have hg : ((bs.drop 30).take 8)[6]? = some b := by rw [List.getElem?_take, if_pos (by decide), List.getElem?_drop]; exact hb
        rw [show I8 b = ((b.toNat : Nat) : Int) from rfl, or_low r b.toNat b.isLt hrb, List.drop_eq_getElem_cons (by rw [hGl]; decide : 8 - 2 < ((bs.drop 30).take 8).length)]
        rw [show ((bs.drop 30).take 8)[8 - 2]'(by rw [hGl]; decide) = b by rw [List.getElem?_eq_getElem (by rw [hGl]; decide)] at hg; exact Option.some.inj hg]
        simp only [numL]
        rw [← hr]
      rw [hr]
      have hrI : (r : Int) < 72057594037927936 := by omega
      obtain ⟨Y, hY⟩ : ∃ Y : Int, ((numL (((bs.drop 30).take 8).drop (8 - 2)) : Nat) : Int) = Y := ⟨_, rfl⟩
      rw [hY] at HV
      have HY := Lib.hid hY
      clear hb hY hr
      go_wp2_with fail
      exact ⟨⟨2, by omega, by first | rfl | (congr 1), by rw [HY.out]⟩, by simp only [intOf]; omega⟩
    · obtain ⟨_, b, e, _, hb, hc⟩ := R3.out.at_ (k := 35) (by decide)
      injection e with e; subst e
      simp only [Addr.add, if_false, show ¬ (35 : Nat) = 0 by decide] at hc
      have hbd := I8.bd b
      obtain ⟨r, hr⟩ : ∃ r, numL (((bs.drop 30).take 8).drop (8 - 2)) = r := ⟨_, rfl⟩
      have hrb : r < 72057594037927936 := by
        have h1 := numL_lt (((bs.drop 30).take 8).drop (8 - 2))
        rw [hr, List.length_drop, hGl] at h1
        exact Nat.lt_of_lt_of_le h1 (by decide)
      have HV : bits .or .u64 ((r : Int) * 256) (I8 b) = ((numL (((bs.drop 30).take 8).drop (8 - 3)) : Nat) : Int) := by
        have hg : ((bs.drop 30).take 8)[5]? = some b := by rw [List.getElem?_take, if_pos (by decide), List.getElem?_drop]; exact hb
        rw [show I8 b = ((b.toNat : Nat) : Int) from rfl, or_low r b.toNat b.isLt hrb, List.drop_eq_getElem_cons (by rw [hGl]; decide : 8 - 3 < ((bs.drop 30).take 8).length)]
        rw [show ((bs.drop 30).take 8)[8 - 3]'(by rw [hGl]; decide) = b by rw [List.getElem?_eq_getElem (by rw [hGl]; decide)] at hg; exact Option.some.inj hg]
        simp only [numL]
        rw [← hr]
      rw [hr]
      have hrI : (r : Int) < 72057594037927936 := by omega
      obtain ⟨Y, hY⟩ : ∃ Y : Int, ((numL (((bs.drop 30).take 8).drop (8 - 3)) : Nat) : Int) = Y := ⟨_, rfl⟩
      rw [hY] at HV
      have HY := Lib.hid hY
      clear hb hY hr
      go_wp2_with fail
      exact ⟨⟨3, by omega, by first | rfl | (congr 1), by rw [HY.out]⟩, by simp only [intOf]; omega⟩
    · obtain ⟨_, b, e, _, hb, hc⟩ := R3.out.at_ (k := 34) (by decide)
      injection e with e; subst e
      simp only [Addr.add, if_false, show ¬ (34 : Nat) = 0 by decide] at hc
      have hbd := I8.bd b
      obtain ⟨r, hr⟩ : ∃ r, numL (((bs.drop 30).take 8).drop (8 - 3)) = r := ⟨_, rfl⟩
      have hrb : r < 72057594037927936 := by
        have h1 := numL_lt (((bs.drop 30).take 8).drop (8 - 3))
        rw [hr, List.length_drop, hGl] at h1
        exact Nat.lt_of_lt_of_le h1 (by decide)
      have HV : bits .or .u64 ((r : Int) * 256) (I8 b) = ((numL (((bs.drop 30).take 8).drop (8 - 4)) : Nat) : Int) := by
        have hg : ((bs.drop 30).take 8)[4]? = some b := by rw [List.getElem?_take, if_pos (by decide), List.getElem?_drop]; exact hb
        rw [show I8 b = ((b.toNat : Nat) : Int) from rfl, or_low r b.toNat b.isLt hrb, List.drop_eq_getElem_cons (by rw [hGl]; decide : 8 - 4 < ((bs.drop 30).take 8).length)]
        rw [show ((bs.drop 30).take 8)[8 - 4]'(by rw [hGl]; decide) = b by rw [List.getElem?_eq_getElem (by rw [hGl]; decide)] at hg; exact Option.some.inj hg]
        simp only [numL]
        rw [← hr]
      rw [hr]
      have hrI : (r : Int) < 72057594037927936 := by omega
      obtain ⟨Y, hY⟩ : ∃ Y : Int, ((numL (((bs.drop 30).take 8).drop (8 - 4)) : Nat) : Int) = Y := ⟨_, rfl⟩
      rw [hY] at HV
      have HY := Lib.hid hY
      clear hb hY hr
      go_wp2_with fail
      exact ⟨⟨4, by omega, by first | rfl | (congr 1), by rw [HY.out]⟩, by simp only [intOf]; omega⟩
    · obtain ⟨_, b, e, _, hb, hc⟩ := R3.out.at_ (k := 33) (by decide)
      injection e with e; subst e
      simp only [Addr.add, if_false, show ¬ (33 : Nat) = 0 by decide] at hc
      have hbd := I8.bd b
      obtain ⟨r, hr⟩ : ∃ r, numL (((bs.drop 30).take 8).drop (8 - 4)) = r := ⟨_, rfl⟩
      have hrb : r < 72057594037927936 := by
        have h1 := numL_lt (((bs.drop 30).take 8).drop (8 - 4))
        rw [hr, List.length_drop, hGl] at h1
        exact Nat.lt_of_lt_of_le h1 (by decide)
      have HV : bits .or .u64 ((r : Int) * 256) (I8 b) = ((numL (((bs.drop 30).take 8).drop (8 - 5)) : Nat) : Int) := by
        have hg : ((bs.drop 30).take 8)[3]? = some b := by rw [List.getElem?_take, if_pos (by decide), List.getElem?_drop]; exact hb
        rw [show I8 b = ((b.toNat : Nat) : Int) from rfl, or_low r b.toNat b.isLt hrb, List.drop_eq_getElem_cons (by rw [hGl]; decide : 8 - 5 < ((bs.drop 30).take 8).length)]
        rw [show ((bs.drop 30).take 8)[8 - 5]'(by rw [hGl]; decide) = b by rw [List.getElem?_eq_getElem (by rw [hGl]; decide)] at hg; exact Option.some.inj hg]
        simp only [numL]
        rw [← hr]
      rw [hr]
      have hrI : (r : Int) < 72057594037927936 := by omega
      obtain ⟨Y, hY⟩ : ∃ Y : Int, ((numL (((bs.drop 30).take 8).drop (8 - 5)) : Nat) : Int) = Y := ⟨_, rfl⟩
      rw [hY] at HV
      have HY := Lib.hid hY
      clear hb hY hr
      go_wp2_with fail
      exact ⟨⟨5, by omega, by first | rfl | (congr 1), by rw [HY.out]⟩, by simp only [intOf]; omega⟩
    · obtain ⟨_, b, e, _, hb, hc⟩ := R3.out.at_ (k := 32) (by decide)
      injection e with e; subst e
      simp only [Addr.add, if_false, show ¬ (32 : Nat) = 0 by decide] at hc
      have hbd := I8.bd b
      obtain ⟨r, hr⟩ : ∃ r, numL (((bs.drop 30).take 8).drop (8 - 5)) = r := ⟨_, rfl⟩
      have hrb : r < 72057594037927936 := by
        have h1 := numL_lt (((bs.drop 30).take 8).drop (8 - 5))
        rw [hr, List.length_drop, hGl] at h1
        exact Nat.lt_of_lt_of_le h1 (by decide)
      have HV : bits .or .u64 ((r : Int) * 256) (I8 b) = ((numL (((bs.drop 30).take 8).drop (8 - 6)) : Nat) : Int) := by
        have hg : ((bs.drop 30).take 8)[2]? = some b := by rw [List.getElem?_take, if_pos (by decide), List.getElem?_drop]; exact hb
        rw [show I8 b = ((b.toNat : Nat) : Int) from rfl, or_low r b.toNat b.isLt hrb, List.drop_eq_getElem_cons (by rw [hGl]; decide : 8 - 6 < ((bs.drop 30).take 8).length)]
        rw [show ((bs.drop 30).take 8)[8 - 6]'(by rw [hGl]; decide) = b by rw [List.getElem?_eq_getElem (by rw [hGl]; decide)] at hg; exact Option.some.inj hg]
        simp only [numL]
        rw [← hr]
      rw [hr]
      have hrI : (r : Int) < 72057594037927936 := by omega
      obtain ⟨Y, hY⟩ : ∃ Y : Int, ((numL (((bs.drop 30).take 8).drop (8 - 6)) : Nat) : Int) = Y := ⟨_, rfl⟩
      rw [hY] at HV
      have HY := Lib.hid hY
      clear hb hY hr
      go_wp2_with fail
      exact ⟨⟨6, by omega, by first | rfl | (congr 1), by rw [HY.out]⟩, by simp only [intOf]; omega⟩
    · obtain ⟨_, b, e, _, hb, hc⟩ := R3.out.at_ (k := 31) (by decide)
      injection e with e; subst e
      simp only [Addr.add, if_false, show ¬ (31 : Nat) = 0 by decide] at hc
      have hbd := I8.bd b
      obtain ⟨r, hr⟩ : ∃ r, numL (((bs.drop 30).take 8).drop (8 - 6)) = r := ⟨_, rfl⟩
      have hrb : r < 72057594037927936 := by
        have h1 := numL_lt (((bs.drop 30).take 8).drop (8 - 6))
        rw [hr, List.length_drop, hGl] at h1
        exact Nat.lt_of_lt_of_le h1 (by decide)
      have HV : bits .or .u64 ((r : Int) * 256) (I8 b) = ((numL (((bs.drop 30).take 8).drop (8 - 7)) : Nat) : Int) := by
        have hg : ((bs.drop 30).take 8)[1]? = some b := by rw [List.getElem?_take, if_pos (by decide), List.getElem?_drop]; exact hb
        rw [show I8 b = ((b.toNat : Nat) : Int) from rfl, or_low r b.toNat b.isLt hrb, List.drop_eq_getElem_cons (by rw [hGl]; decide : 8 - 7 < ((bs.drop 30).take 8).length)]
        rw [show ((bs.drop 30).take 8)[8 - 7]'(by rw [hGl]; decide) = b by rw [List.getElem?_eq_getElem (by rw [hGl]; decide)] at hg; exact Option.some.inj hg]
        simp only [numL]
        rw [← hr]
      rw [hr]
      have hrI : (r : Int) < 72057594037927936 := by omega
      obtain ⟨Y, hY⟩ : ∃ Y : Int, ((numL (((bs.drop 30).take 8).drop (8 - 7)) : Nat) : Int) = Y := ⟨_, rfl⟩
      rw [hY] at HV
      have HY := Lib.hid hY
      clear hb hY hr
      go_wp2_with fail
      exact ⟨⟨7, by omega, by first | rfl | (congr 1), by rw [HY.out]⟩, by simp only [intOf]; omega⟩
    · obtain ⟨_, b, e, _, hb, hc⟩ := R3.out.at_ (k := 30) (by decide)
      injection e with e; subst e
      simp only [Addr.add, if_false, show ¬ (30 : Nat) = 0 by decide] at hc
      have hbd := I8.bd b
      obtain ⟨r, hr⟩ : ∃ r, numL (((bs.drop 30).take 8).drop (8 - 7)) = r := ⟨_, rfl⟩
      have hrb : r < 72057594037927936 := by
        have h1 := numL_lt (((bs.drop 30).take 8).drop (8 - 7))
        rw [hr, List.length_drop, hGl] at h1
        exact Nat.lt_of_lt_of_le h1 (by decide)
      have HV : bits .or .u64 ((r : Int) * 256) (I8 b) = ((numL (((bs.drop 30).take 8).drop (8 - 8)) : Nat) : Int) := by
        have hg : ((bs.drop 30).take 8)[0]? = some b := by rw [List.getElem?_take, if_pos (by decide), List.getElem?_drop]; exact hb
        rw [show I8 b = ((b.toNat : Nat) : Int) from rfl, or_low r b.toNat b.isLt hrb, List.drop_eq_getElem_cons (by rw [hGl]; decide : 8 - 8 < ((bs.drop 30).take 8).length)]
        rw [show ((bs.drop 30).take 8)[8 - 8]'(by rw [hGl]; decide) = b by rw [List.getElem?_eq_getElem (by rw [hGl]; decide)] at hg; exact Option.some.inj hg]
        simp only [numL]
        rw [← hr]
      rw [hr]
      have hrI : (r : Int) < 72057594037927936 := by omega
      obtain ⟨Y, hY⟩ : ∃ Y : Int, ((numL (((bs.drop 30).take 8).drop (8 - 8)) : Nat) : Int) = Y := ⟨_, rfl⟩
      rw [hY] at HV
      have HY := Lib.hid hY
      clear hb hY hr
      go_wp2_with fail
      exact ⟨⟨8, by omega, by first | rfl | (congr 1), by rw [HY.out]⟩, by simp only [intOf]; omega⟩
    · rw [show numL (((bs.drop 30).take 8).drop (8 - 8)) = gainAt bs from rfl]
      have hub := fun w => run_unbits ((gainAt bs : Nat) : Int) w
      simp only [Int.toNat_natCast] at hub
      have z3 := C3.out.cell 3
      have f3 := C3.out.frozen 3
      simp at z3
      have hst := storeFloat
      go_upto_region 12 with fail
      have C4 : Hid (Blk (wc.setCell ⟨w.heap.size + 1, 3, none⟩ (.float .f64 (gainAt bs))) (w.heap.size + 1) 42 #[.int .i64 (numAt bs 2), .int .i64 (numAt bs 6), .int .i64 (numAt bs 10), .float .f64 (gainAt bs), .int .i64 (numAt bs 14), .int .i64 (numAt bs 18), .int .i64 (numAt bs 22), .int .i64 (numAt bs 26)]) := by have := C3.out.set_ 3 (.float .f64 (gainAt bs)); simp at this; exact this
      have Q4 := Lib.hid (Q3.out.far (p := ⟨w.heap.size + 1, 3, none⟩) (by simp) (.float .f64 (gainAt bs)))
      have B4 := Lib.hid (B3.out.setCell (p := ⟨w.heap.size + 1, 3, none⟩) (by simp) (.float .f64 (gainAt bs)))
      have R4 := Lib.hid (R3.out.setCell (p := ⟨w.heap.size + 1, 3, none⟩) (by simp) (.float .f64 (gainAt bs)))
      have s4 : (wc.setCell ⟨w.heap.size + 1, 3, none⟩ (.float .f64 (gainAt bs))).heap.size = w.heap.size + 2 := by simp [s3]
      generalize hW : wc.setCell ⟨w.heap.size + 1, 3, none⟩ (.float .f64 (gainAt bs)) = w4 at *
      clear hW C3 Q3 B3 R3 z3 f3 hub
      have h8 : ((8 : Nat) : Int) = 8 := rfl
      simp only [h8]
      have hgb : gainAt bs < 18446744073709551616 := by
        have h1 := numL_lt ((bs.drop 30).take 8)
        rw [hGl] at h1
        exact Nat.lt_of_lt_of_le h1 (by decide)
      obtain ⟨_, b0, e0, _, hb0, hc0⟩ := R4.out.at_ (k := 0) (by decide)
      injection e0 with e0; subst e0
      obtain ⟨_, b1, e1, _, hb1, hc1⟩ := R4.out.at_ (k := 1) (by decide)
      injection e1 with e1; subst e1
      simp only [Addr.add, if_true, if_false, show ¬ (1 : Nat) = 0 by decide] at hc0 hc1
      have HH := Lib.hid (head_at hb0 hb1)
      clear hb0 hb1
      have n0 := eq_lit b0 0xc0#8
      have n1 := eq_lit b1 0x9e#8
      rw [show I8 (0xc0#8) = 192 from rfl] at n0
      rw [show I8 (0x9e#8) = 158 from rfl] at n1
      obtain ⟨T, hT⟩ : ∃ T, (headAt bs && mayAt bs) = T := ⟨_, rfl⟩
      go_cut [7] from 53 to 66 (fun okv wx => okv = .bool T ∧ Hid (Blk wx (w.heap.size + 1) 42 #[.int .i64 (numAt bs 2), .int .i64 (numAt bs 6), .int .i64 (numAt bs 10), .float .f64 (gainAt bs), .int .i64 (numAt bs 14), .int .i64 (numAt bs 18), .int .i64 (numAt bs 22), .int .i64 (numAt bs 26)]) ∧ Hid (Blk wx w.heap.size 42 #[.int .i64 0, .int .i64 0, .int .i64 0, .float .f64 0, .int .i64 0, .int .i64 0, .int .i64 0, .int .i64 0]) ∧ Hid (Below w.heap.size w wx) ∧ Hid (Rd wx w.heap.size (some ad) 64 bs) ∧ w.heap.size + 2 ≤ wx.heap.size)
      case first =>
        rw [HH.out] at hT
        have v0 := C4.out.cell 0
        have v1 := C4.out.cell 1
        have v2 := C4.out.cell 2
        have v3 := C4.out.cell 3
        have v4 := C4.out.cell 4
        have v5 := C4.out.cell 5
        have v6 := C4.out.cell 6
        have v7 := C4.out.cell 7
        simp at v0 v1 v2 v3 v4 v5 v6 v7
        rcases tf (decide (b0 = 0xc0#8)) with t0 | t0 <;> rw [t0] at n0 hT
        rcases tf (decide (b1 = 0x9e#8)) with t1 | t1 <;> rw [t1] at n1 hT
        · rcases tf (mayAt bs) with t2 | t2
          all_goals
            rw [t2] at hT
            have hm : mayB (numAt bs 2) (numAt bs 6) (numAt bs 10) (gainAt bs) (numAt bs 14) (numAt bs 18) (numAt bs 22) (numAt bs 26) = _ := t2
            simp at hT
            subst hT
            clear t0 t1 t2
            go_wp2_with (first
              | (go_at_call 31
                 refine (refMay_any _ _ _ _ _ _ _ _ _ hgb).mono ?_
                 rw [hm]
                 rintro e w5 ⟨rfl, hb5⟩)
              | fail)
            go_meet
            exact ⟨rfl, C4.out.below hb5 (by omega), Q4.out.below hb5 (by omega), B4.out.trans (hb5.mono (by omega)), R4.out.below (hb5.mono (by omega)), by have := hb5.size; omega⟩
        · simp at hT
          subst hT
          clear t0 t1
          go_wp2_with fail
          go_meet
          exact ⟨rfl, C4, Q4, B4, R4, by omega⟩
        · simp at hT
          subst hT
          clear t0 n1
          go_wp2_with fail
          go_meet
          exact ⟨rfl, C4, Q4, B4, R4, by omega⟩
      case rest =>
      obtain ⟨rfl, C5, Q5, B5, R5, s5⟩ := hcut
      clear C4 Q4 B4 R4 s4 hc0 hc1 n0 n1 HH
      have HT := Lib.hid hT
      clear hT
      try apply_assumption
      go_wp2_with fail
      go_loop [7, 8] (fun okv i => ∃ j : Nat, j ≤ 22 ∧ i = .int .i64 ((38 + j : Nat) : Int) ∧ okv = .bool (T && zto bs j)) (fun _ i => 60 - (intOf i).toNat)
      case atStart => exact ⟨0, by omega, rfl, by simp [zto]⟩
      case round =>
        obtain ⟨j, hj, rfl, rfl⟩ := hrel
        by_cases hlt : j < 22
        · obtain ⟨_, b, e, _, hb, hc⟩ := R5.out.at_ (k := 38 + j) (by omega)
          injection e with e; subst e
          have hz := zto_succ hb
          have hn := eq_lit b 0#8
          rw [show I8 (0#8) = 0 from rfl] at hn
          obtain ⟨M, hM⟩ : ∃ M : Nat, 38 + j = M := ⟨_, rfl⟩
          obtain ⟨D, hD⟩ : ∃ D : Bool, decide (b = 0#8) = D := ⟨_, rfl⟩
          rw [hD] at hz hn
          obtain ⟨v, hv⟩ : ∃ v, (T && zto bs j) = v := ⟨_, rfl⟩
          rw [hM] at hc ⊢
          rw [hv]
          have hMI : (M : Int) < 60 := by omega
          have hMJ : (M : Int) < 64 := by omega
          have HM := Lib.hid hM
          have HZ := Lib.hid hz
          have HVv := Lib.hid hv
          clear hM hz hv hD hb
          cases v with
          | true =>
            go_wp2_with fail
            exact ⟨⟨j + 1, by omega, congrArg (Value.int .i64) (by have := HM.out; omega), by rw [HZ.out, ← Bool.and_assoc, HVv.out, Bool.true_and]⟩, by simp only [intOf]; omega⟩
          | false =>
            go_wp2_with fail
            exact ⟨⟨j + 1, by omega, congrArg (Value.int .i64) (by have := HM.out; omega), by rw [HZ.out, ← Bool.and_assoc, HVv.out, Bool.false_and]⟩, by simp only [intOf]; omega⟩
        · obtain rfl : j = 22 := by omega
          have hlen : bs.length = 64 := R5.out.len
          obtain ⟨v, hv⟩ : ∃ v, (T && zto bs 22) = v := ⟨_, rfl⟩
          rw [hv]
          have hF : (headAt bs && (mayAt bs && zerosAt bs)) = v := by rw [← hv, ← HT.out, Bool.and_assoc]; rfl
          have HF := Lib.hid hF
          clear hv hF
          cases v with
          | false =>
            have HV : Hid (Value.tuple #[zeroV, .int .i64 4] = Value.tuple #[decV bs, .int .i64 (decE bs)]) := by
              have hE : decE bs = 4 := by unfold decE; rw [if_pos hlen, if_pos HSS.out, HF.out]; rfl
              show _ = _
              unfold decV
              rw [hE]; rfl
            have q0 := Q5.out.cell 0
            have g0 := Q5.out.frozen 0
            have q1 := Q5.out.cell 1
            have g1 := Q5.out.frozen 1
            have q2 := Q5.out.cell 2
            have g2 := Q5.out.frozen 2
            have q3 := Q5.out.cell 3
            have g3 := Q5.out.frozen 3
            have q4 := Q5.out.cell 4
            have g4 := Q5.out.frozen 4
            have q5 := Q5.out.cell 5
            have g5 := Q5.out.frozen 5
            have q6 := Q5.out.cell 6
            have g6 := Q5.out.frozen 6
            have q7 := Q5.out.cell 7
            have g7 := Q5.out.frozen 7
            simp at q0 q1 q2 q3 q4 q5 q6 q7
            go_wp2_with fail
            have Y := ((((((((Q5.out).set_ 0 (.int .i64 0)).set_ 1 (.int .i64 0)).set_ 2 (.int .i64 0)).set_ 3 (.float .f64 0)).set_ 4 (.int .i64 0)).set_ 5 (.int .i64 0)).set_ 6 (.int .i64 0)).set_ 7 (.int .i64 0)
            have BY := ((((((((B5.out).setCell (p := ⟨w.heap.size, 0, none⟩) (Nat.le_refl _) (.int .i64 0)).setCell (p := ⟨w.heap.size, 1, none⟩) (Nat.le_refl _) (.int .i64 0)).setCell (p := ⟨w.heap.size, 2, none⟩) (Nat.le_refl _) (.int .i64 0)).setCell (p := ⟨w.heap.size, 3, none⟩) (Nat.le_refl _) (.float .f64 0)).setCell (p := ⟨w.heap.size, 4, none⟩) (Nat.le_refl _) (.int .i64 0)).setCell (p := ⟨w.heap.size, 5, none⟩) (Nat.le_refl _) (.int .i64 0)).setCell (p := ⟨w.heap.size, 6, none⟩) (Nat.le_refl _) (.int .i64 0)).setCell (p := ⟨w.heap.size, 7, none⟩) (Nat.le_refl _) (.int .i64 0)
            generalize ((((((((wc.setCell ⟨w.heap.size, 0, none⟩ (.int .i64 0)).setCell ⟨w.heap.size, 1, none⟩ (.int .i64 0)).setCell ⟨w.heap.size, 2, none⟩ (.int .i64 0)).setCell ⟨w.heap.size, 3, none⟩ (.float .f64 0)).setCell ⟨w.heap.size, 4, none⟩ (.int .i64 0)).setCell ⟨w.heap.size, 5, none⟩ (.int .i64 0)).setCell ⟨w.heap.size, 6, none⟩ (.int .i64 0)).setCell ⟨w.heap.size, 7, none⟩ (.int .i64 0)) = wz at *
            have y0 := Y.cell 0
            have y1 := Y.cell 1
            have y2 := Y.cell 2
            have y3 := Y.cell 3
            have y4 := Y.cell 4
            have y5 := Y.cell 5
            have y6 := Y.cell 6
            have y7 := Y.cell 7
            simp at y0 y1 y2 y3 y4 y5 y6 y7
            (try simp only [Exit.inBlock, Exit.then])
            refine bodyPost_ret (by simp [results, Try.results34, go_sem, y0, y1, y2, y3, y4, y5, y6, y7]; try rfl) rfl ?_
            exact ⟨congrArg Ending.returned (HV.out), BY⟩
          | true =>
            have HV : Hid (Value.tuple #[crownV bs, .int .i64 0] = Value.tuple #[decV bs, .int .i64 (decE bs)]) := by
              have hE : decE bs = 0 := by unfold decE; rw [if_pos hlen, if_pos HSS.out, HF.out]; rfl
              show _ = _
              unfold decV
              rw [hE]; rfl
            have q0 := Q5.out.cell 0
            have g0 := Q5.out.frozen 0
            have q1 := Q5.out.cell 1
            have g1 := Q5.out.frozen 1
            have q2 := Q5.out.cell 2
            have g2 := Q5.out.frozen 2
            have q3 := Q5.out.cell 3
            have g3 := Q5.out.frozen 3
            have q4 := Q5.out.cell 4
            have g4 := Q5.out.frozen 4
            have q5 := Q5.out.cell 5
            have g5 := Q5.out.frozen 5
            have q6 := Q5.out.cell 6
            have g6 := Q5.out.frozen 6
            have q7 := Q5.out.cell 7
            have g7 := Q5.out.frozen 7
            simp at q0 q1 q2 q3 q4 q5 q6 q7
            have v0 := C5.out.cell 0
            have v1 := C5.out.cell 1
            have v2 := C5.out.cell 2
            have v3 := C5.out.cell 3
            have v4 := C5.out.cell 4
            have v5 := C5.out.cell 5
            have v6 := C5.out.cell 6
            have v7 := C5.out.cell 7
            simp at v0 v1 v2 v3 v4 v5 v6 v7
            go_wp2_with fail
            have Y := ((((((((Q5.out).set_ 0 (.int .i64 (numAt bs 2))).set_ 1 (.int .i64 (numAt bs 6))).set_ 2 (.int .i64 (numAt bs 10))).set_ 3 (.float .f64 (gainAt bs))).set_ 4 (.int .i64 (numAt bs 14))).set_ 5 (.int .i64 (numAt bs 18))).set_ 6 (.int .i64 (numAt bs 22))).set_ 7 (.int .i64 (numAt bs 26))
            have BY := ((((((((B5.out).setCell (p := ⟨w.heap.size, 0, none⟩) (Nat.le_refl _) (.int .i64 (numAt bs 2))).setCell (p := ⟨w.heap.size, 1, none⟩) (Nat.le_refl _) (.int .i64 (numAt bs 6))).setCell (p := ⟨w.heap.size, 2, none⟩) (Nat.le_refl _) (.int .i64 (numAt bs 10))).setCell (p := ⟨w.heap.size, 3, none⟩) (Nat.le_refl _) (.float .f64 (gainAt bs))).setCell (p := ⟨w.heap.size, 4, none⟩) (Nat.le_refl _) (.int .i64 (numAt bs 14))).setCell (p := ⟨w.heap.size, 5, none⟩) (Nat.le_refl _) (.int .i64 (numAt bs 18))).setCell (p := ⟨w.heap.size, 6, none⟩) (Nat.le_refl _) (.int .i64 (numAt bs 22))).setCell (p := ⟨w.heap.size, 7, none⟩) (Nat.le_refl _) (.int .i64 (numAt bs 26))
            generalize ((((((((wc.setCell ⟨w.heap.size, 0, none⟩ (.int .i64 (numAt bs 2))).setCell ⟨w.heap.size, 1, none⟩ (.int .i64 (numAt bs 6))).setCell ⟨w.heap.size, 2, none⟩ (.int .i64 (numAt bs 10))).setCell ⟨w.heap.size, 3, none⟩ (.float .f64 (gainAt bs))).setCell ⟨w.heap.size, 4, none⟩ (.int .i64 (numAt bs 14))).setCell ⟨w.heap.size, 5, none⟩ (.int .i64 (numAt bs 18))).setCell ⟨w.heap.size, 6, none⟩ (.int .i64 (numAt bs 22))).setCell ⟨w.heap.size, 7, none⟩ (.int .i64 (numAt bs 26))) = wz at *
            have y0 := Y.cell 0
            have y1 := Y.cell 1
            have y2 := Y.cell 2
            have y3 := Y.cell 3
            have y4 := Y.cell 4
            have y5 := Y.cell 5
            have y6 := Y.cell 6
            have y7 := Y.cell 7
            simp at y0 y1 y2 y3 y4 y5 y6 y7
            (try simp only [Exit.inBlock, Exit.then])
            refine bodyPost_ret (by simp [results, Try.results34, go_sem, y0, y1, y2, y3, y4, y5, y6, y7]; try rfl) rfl ?_
            exact ⟨congrArg Ending.returned (HV.out), BY⟩

theorem refDec_any (A : Option Addr) (n c : Nat) (bs : List B8) (w : World) (hr : Rd w w.heap.size A n bs) (hc : n ≤ c) :
    Calls Try.prog 34 #[.slice A n c] w fun e w' => e = .returned (.tuple #[decV bs, .int .i64 (decE bs)]) ∧ Below w.heap.size w w' := by
  have hl := hr.len
  by_cases h : n = 64
  · subst h
    rcases tf (sumAt bs) with hs | hs
    · exact refDec_rest A c bs w hr hc hs
    · have hE : decE bs = 5 := by unfold decE; rw [if_pos hl, if_neg (by rw [hs]; simp)]
      have hV : decV bs = zeroV := by unfold decV; rw [hE]; rfl
      rw [hE, hV]
      exact refDec_sum A c bs w hr hc hs
  · have hE : decE bs = 1 := by unfold decE; rw [if_neg (by omega)]
    have hV : decV bs = zeroV := by unfold decV; rw [hE]; rfl
    rw [hE, hV]
    exact refDec_arg A n c w h
end Go.Proofs.Ythhgmanoifpoiaa

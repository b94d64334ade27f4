/- Contract of the writer's sequence. -/
import Derived.Test.YtkmcddfeadbahaaWrA
import Derived.Deep.CutRange
namespace Go.Proofs.Ytkmcddfeadbahaa
open Go.RowKit
set_option linter.unusedVariables false

theorem rd_far {w w' : World} {p B n : Nat} {A : Option Addr} {bs : List B8} (h : Rd w p A n bs) (hp : p ≤ B) (hF : Far p B w w') : Rd w' p A n bs :=
  h.keep fun q hq => World.cell?_of_block (hF.block q.block (by omega) (by omega))
theorem lenE_small (n : Nat) (h : n ≤ 5000) : (lenE n).length ≤ 30 := by
  unfold lenE; split
  · simp
  · simp; omega
theorem tok_cell (l m T : Nat) (hT : T = min l 15 * 16 + min m 15) : (#[Value.int .u8 (T : Int)] : Array Value) = ([token l m].map v8).toArray := by
  have : (T : Int) = I8 (token l m) := by unfold I8 token; rw [BitVec.toNat_ofNat]; omega
  rw [this]; rfl

set_option maxRecDepth 100000 in
set_option maxHeartbeats 1000000 in
theorem seq_last (p B : Nat) (vb vo : Value) (out : List B8) (A : Option Addr) (l c : Nat) (lits : List B8) (m : Int) (w : World) (h : Wtr w p B vb vo out) (hr : Rd w p A l lits) (hl : l ≤ 4096) (ho : out.length ≤ 5000) :
    Calls Try.prog 20 #[.pointer (some ⟨p, 0, none⟩), .slice A l c, .int .i64 0, .int .i64 m] w fun e w' => e = .returned (.tuple #[]) ∧ ∃ v', Wtr w' p B vb v' (out ++ seqL lits) ∧ Far p B w w' := by
  obtain ⟨i0, hi, hz0, hz1, hz2⟩ := info_parts info5'
  have HW := Lib.hid h
  have HR := Lib.hid hr
  have HLL := Lib.hid hr.len
  have HLO := Lib.hid h.low
  obtain ⟨T, hT⟩ : ∃ T, T = min l 15 * 16 := ⟨_, rfl⟩
  have HT := Lib.hid hT
  have hTb : (T : Int) ≤ 240 := by omega
  have hcell : Hid ((#[Value.int .u8 (T : Int)] : Array Value) = ([token l 0].map v8).toArray) := tok_cell l 0 T (by omega)
  have W1 := Lib.hid (h.alloc (.cells #[.int .u8 (T : Int)] 5))
  have x1 := h.c1
  have hE := lenE_small l (by omega)
  have hm1 : Hid (out.length + 1 ≤ maxLen) := by show _ ≤ _; unfold maxLen; omega
  have hy1 : Hid ((out.length + 1) * 1 ≤ 140737488355328) := by show _ ≤ _; omega
  obtain ⟨xs, hxs⟩ : ∃ xs, xs = out ++ [token l 0] ++ lenE l := ⟨_, rfl⟩
  have hxl : xs.length ≤ 6000 := by rw [hxs]; simp only [List.length_append, List.length_cons, List.length_nil]; omega
  have hm2 : Hid (xs.length + l ≤ maxLen) := by show _ ≤ _; unfold maxLen; omega
  have hy2 : Hid ((xs.length + l) * 1 ≤ 140737488355328) := by show _ ≤ _; omega
  have HXS := Lib.hid hxs
  have ho1 : Hid ((out ++ [token l 0]).length ≤ 10000) := by show _ ≤ _; simp; omega
  have hl5 : Hid (l ≤ 5000) := by show _ ≤ _; omega
  clear hT hE h hr hxs hxl
  go_enter Try.func20, Try.ntmps20
  go_upto_region 0 with fail
  go_cut [8] from 9 to 12 (fun t wx => t = .int .i64 (T : Int) ∧ w = wx)
  case first =>
    go_wp2_with fail
    all_goals
      go_meet
      refine ⟨?_, rfl⟩
      have hT := HT.out
      congr 1
      omega
  case rest =>
    obtain ⟨rfl, rfl⟩ := hcut
    go_wp2_with (first
      | (at_builtin
         refine wpList_append_any _ rfl (.tmp 24) (.tmp 27) 22 rfl B 5 i0 (.int .u8 0) 1 1 Try.underlying22 hi hz0 hz1 hz2 rfl (by decide) vo out.length _ rfl W1.out.own (w.heap.size + 1) _ 1 1 ([token l 0].map v8) rfl (rd_lit w [token l 0] _ 5 (0, 0) hcell.out) (oneCell_v8 _) hm1.out hy1.out W1.out.high ?_
         intro v6 w6 hown6 hg6 hat6
         obtain ⟨A6, c6, rfl, y1, g1, fin⟩ := W1.out.wrote (l := [token l 0]) rfl hown6 hg6
         clear hown6 hg6 hat6))
    refine (wlen_any p B vb _ _ l _ rfl _ fin.out.1 hl5.out ho1.out).mono ?_
    rintro e w7 ⟨rfl, v7, hW7, hF7⟩
    rw [← HXS.out] at hW7
    have x7 := hW7.c1
    have hF8 := Far.trans (Far.of_grown HW.out.high (World.grownBy_alloc _ _ none) (fun q hq => by cases hq)) (fin.out.2.trans hF7)
    have hr7 := rd_far HR.out (Nat.le_of_lt HLO.out) hF8
    go_wp2_with (first
      | (at_builtin
         refine wpList_append_any _ rfl (.tmp 39) (.tmp 40) 22 rfl B 5 i0 (.int .u8 0) 1 1 Try.underlying22 hi hz0 hz1 hz2 rfl (by decide) v7 _ _ rfl hW7.own p A l c (lits.map v8) rfl hr7 (oneCell_v8 _) hm2.out hy2.out hW7.high ?_
         intro v9 w9 hown9 hg9 hat9
         obtain ⟨A9, c9, rfl, y9, g9, fin9⟩ := hW7.wrote (l := lits) HLL.out hown9 hg9
         clear hown9 hg9 hat9))
    go_end0
    refine ⟨rfl, .slice A9 (xs.length + l) c9, ?_, hF8.trans fin9.out.2⟩
    have e : out ++ seqL lits = out ++ [token l 0] ++ lenE l ++ lits := by
      unfold seqL
      rw [HLL.out, List.append_assoc, List.append_assoc]
      rfl
    rw [e, ← HXS.out]
    exact fin9.out.1

theorem or_tok (l : Nat) (x : Int) (h0 : 0 ≤ x) (h1 : x < 16) : bits .or .i64 ((min l 15 * 16 : Nat) : Int) x = ((min l 15 * 16 : Nat) : Int) + x := by
  obtain ⟨y, rfl⟩ : ∃ y : Nat, x = (y : Int) := Int.eq_ofNat_of_zero_le h0
  have hx : (min l 15 * 16 ||| y) < 2 ^ 63 := Nat.or_lt_two_pow (by omega) (by omega)
  have e1 : (BitVec.ofInt 64 ((min l 15 * 16 : Nat) : Int)).toNat = min l 15 * 16 := by rw [BitVec.ofInt_natCast, BitVec.toNat_ofNat]; exact Nat.mod_eq_of_lt (by omega)
  have e2 : (BitVec.ofInt 64 (y : Int)).toNat = y := by rw [BitVec.ofInt_natCast, BitVec.toNat_ofNat]; exact Nat.mod_eq_of_lt (by omega)
  show IntKind.i64.wrap ((BitVec.ofInt 64 ((min l 15 * 16 : Nat) : Int) ||| BitVec.ofInt 64 (y : Int)).toNat : Int) = _
  rw [BitVec.toNat_or, e1, e2, IntKind.wrap_i64, nat_join 4 (min l 15 * 16) y (by omega) (by omega)]
  omega
theorem back_cells (d : Nat) : (#[Value.int .u8 ((d : Int) % 256), Value.int .u8 ((d : Int) / 256 % 256)] : Array Value) = ((back2 d).map v8).toArray := by
  have e1 : (d : Int) % 256 = I8 (BitVec.ofNat 8 d) := by unfold I8; rw [BitVec.toNat_ofNat]; omega
  have e2 : (d : Int) / 256 % 256 = I8 (BitVec.ofNat 8 (d / 256)) := by unfold I8; rw [BitVec.toNat_ofNat]; omega
  rw [e1, e2]; rfl

set_option maxRecDepth 100000 in
set_option maxHeartbeats 1000000 in
theorem seq_match (p B : Nat) (vb vo : Value) (out : List B8) (A : Option Addr) (l c : Nat) (lits : List B8) (d k : Nat) (zd zm : Int) (hd : 0 < d) (hzd : zd = (d : Int)) (hzm : zm = (k : Int) + 4) (hk : k ≤ 4096) (w : World) (h : Wtr w p B vb vo out) (hr : Rd w p A l lits) (hl : l ≤ 4096) (ho : out.length ≤ 5000) :
    Calls Try.prog 20 #[.pointer (some ⟨p, 0, none⟩), .slice A l c, .int .i64 zd, .int .i64 zm] w fun e w' => e = .returned (.tuple #[]) ∧ ∃ v', Wtr w' p B vb v' (out ++ seqM lits d (k + 4)) ∧ Far p B w w' := by
  obtain ⟨i0, hi, hz0, hz1, hz2⟩ := info_parts info5'
  subst hzd
  have HW := Lib.hid h
  have HR := Lib.hid hr
  have HLL := Lib.hid hr.len
  have HLO := Lib.hid h.low
  obtain ⟨T0, hT0⟩ : ∃ T0, T0 = min l 15 * 16 := ⟨_, rfl⟩
  obtain ⟨T, hT⟩ : ∃ T, T = min l 15 * 16 + min k 15 := ⟨_, rfl⟩
  have HOR := Lib.hid (or_tok l)
  rw [← hT0] at HOR
  have HT0 := Lib.hid hT0
  have HT := Lib.hid hT
  have HK := Lib.hid hk
  have hTb : (T : Int) ≤ 255 := by omega
  have hcell : Hid ((#[Value.int .u8 (T : Int)] : Array Value) = ([token l k].map v8).toArray) := tok_cell l k T (by omega)
  have hback := Lib.hid (back_cells d)
  have W1 := Lib.hid (h.alloc (.cells #[.int .u8 (T : Int)] 5))
  have x1 := h.c1
  have hE := lenE_small l (by omega)
  have hm1 : Hid (out.length + 1 ≤ maxLen) := by show _ ≤ _; unfold maxLen; omega
  have hy1 : Hid ((out.length + 1) * 1 ≤ 140737488355328) := by show _ ≤ _; omega
  obtain ⟨xs, hxs⟩ : ∃ xs, xs = out ++ [token l k] ++ lenE l := ⟨_, rfl⟩
  have hxl : xs.length ≤ 5100 := by rw [hxs]; simp only [List.length_append, List.length_cons, List.length_nil]; omega
  have hm2 : Hid (xs.length + l ≤ maxLen) := by show _ ≤ _; unfold maxLen; omega
  have hy2 : Hid ((xs.length + l) * 1 ≤ 140737488355328) := by show _ ≤ _; omega
  have HXS := Lib.hid hxs
  obtain ⟨ys, hys⟩ : ∃ ys, ys = xs ++ lits := ⟨_, rfl⟩
  have hyl : ys.length ≤ 9300 := by rw [hys]; simp only [List.length_append]; have := HLL.out; omega
  have hm3 : Hid (ys.length + 2 ≤ maxLen) := by show _ ≤ _; unfold maxLen; omega
  have hy3 : Hid ((ys.length + 2) * 1 ≤ 140737488355328) := by show _ ≤ _; omega
  have HYS := Lib.hid hys
  have ho3 : Hid ((ys ++ back2 d).length ≤ 10000) := by show _ ≤ _; simp only [List.length_append, List.length_cons, List.length_nil, back2]; omega
  have ho1 : Hid ((out ++ [token l k]).length ≤ 10000) := by show _ ≤ _; simp; omega
  have hl5 : Hid (l ≤ 5000) := by show _ ≤ _; omega
  have hk5 : Hid (k ≤ 5000) := by show _ ≤ _; omega
  have hdI : (0 : Int) < (d : Int) := by omega
  have hzm4 : zm - 4 = (k : Int) := by omega
  clear hT hT0 hE h hr hd hzm hxs hxl hys hyl
  go_enter Try.func20, Try.ntmps20
  go_upto_region 0 with fail
  go_cut [8] from 9 to 12 (fun t wx => t = .int .i64 (T0 : Int) ∧ w = wx)
  case first =>
    go_wp2_with fail
    all_goals
      go_meet
      refine ⟨?_, rfl⟩
      have hT := HT0.out
      congr 1
      omega
  case rest =>
    obtain ⟨rfl, rfl⟩ := hcut
    go_upto_region 2 with fail
    go_cut [8] from 13 to 19 (fun t wx => t = .int .i64 (T : Int) ∧ w = wx)
    case first =>
      go_wp2_with fail
      all_goals
        go_meet
        refine ⟨?_, rfl⟩
        have hT0 := HT0.out
        have hT := HT.out
        congr 1
        rw [HOR.out _ (by omega) (by omega)]
        omega
    case rest =>
      obtain ⟨rfl, rfl⟩ := hcut
      go_wp2_with (first
        | (at_builtin
           refine wpList_append_any _ rfl (.tmp 24) (.tmp 27) 22 rfl B 5 i0 (.int .u8 0) 1 1 Try.underlying22 hi hz0 hz1 hz2 rfl (by decide) vo out.length _ rfl W1.out.own (w.heap.size + 1) _ 1 1 ([token l k].map v8) rfl (rd_lit w [token l k] _ 5 (0, 0) hcell.out) (oneCell_v8 _) hm1.out hy1.out W1.out.high ?_
           intro v6 w6 hown6 hg6 hat6
           obtain ⟨A6, c6, rfl, y1, g1, fin⟩ := W1.out.wrote (l := [token l k]) rfl hown6 hg6
           clear hown6 hg6 hat6))
      refine (wlen_any p B vb _ _ l _ rfl _ fin.out.1 hl5.out ho1.out).mono ?_
      rintro e w7 ⟨rfl, v7, hW7, hF7⟩
      rw [← HXS.out] at hW7
      have x7 := hW7.c1
      have hF8 := Far.trans (Far.of_grown HW.out.high (World.grownBy_alloc _ _ none) (fun q hq => by cases hq)) (fin.out.2.trans hF7)
      have hr7 := rd_far HR.out (Nat.le_of_lt HLO.out) hF8
      have HW7 := Lib.hid hW7
      have HF8 := Lib.hid hF8
      clear hW7 hF8 hF7 fin y1 g1
      go_upto_region 7 with (first
        | (at_builtin
           refine wpList_append_any _ rfl (.tmp 39) (.tmp 40) 22 rfl B 5 i0 (.int .u8 0) 1 1 Try.underlying22 hi hz0 hz1 hz2 rfl (by decide) v7 _ _ rfl HW7.out.own p A l c (lits.map v8) rfl hr7 (oneCell_v8 _) hm2.out hy2.out HW7.out.high ?_
           intro v9 w9 hown9 hg9 hat9
           obtain ⟨A9, c9, rfl, y9, g9, fin9⟩ := HW7.out.wrote (l := lits) HLL.out hown9 hg9
           rw [← HYS.out] at fin9
           have W9 := Lib.hid (fin9.out.1.alloc (.cells #[.int .u8 ((d : Int) % 256), .int .u8 ((d : Int) / 256 % 256)] 5))
           have F9 := Lib.hid (HF8.out.trans fin9.out.2)
           have z9 := fin9.out.1.c1
           have z8 := fin9.out.1.high
           clear hown9 hg9 hat9))
      go_wp2_with (first
        | (at_builtin
           refine wpList_append_any _ rfl (.tmp 50) (.tmp 56) 22 rfl B 5 i0 (.int .u8 0) 1 1 Try.underlying22 hi hz0 hz1 hz2 rfl (by decide) _ ys.length _ rfl W9.out.own _ _ 2 2 ((back2 d).map v8) rfl (rd_new _ w9.heap.size (back2 d) _ 5 (0, 0) (World.size_setCell _ _ _) hback.out) (oneCell_v8 _) hm3.out hy3.out W9.out.high ?_
           intro v10 w10 hown10 hg10 hat10
           obtain ⟨A11, c11, rfl, y11, g11, fin11⟩ := W9.out.wrote (l := back2 d) rfl hown10 hg10
           clear hown10 hg10 hat10))
      refine (wlen_any p B vb _ _ k _ rfl _ fin11.out.1 hk5.out ho3.out).mono ?_
      rintro e w12 ⟨rfl, v12, hW12, hF12⟩
      go_wp2_with fail
      go_end0
      refine ⟨rfl, v12, ?_, (F9.out.trans (Far.of_grown z8 (World.grownBy_alloc _ _ none) (fun q hq => by cases hq))).trans (fin11.out.2.trans hF12)⟩
      have e : out ++ seqM lits d (k + 4) = ys ++ back2 d ++ lenE k := by
        rw [HYS.out, HXS.out]
        unfold seqM
        rw [HLL.out, Nat.add_sub_cancel]
        simp
      rw [e]
      exact hW12
end Go.Proofs.Ytkmcddfeadbahaa

/- The walk of LzCopies. -/
import Derived.Test.YtkmcddfeadbahaaAw6
import Derived.Test.YtkmcddfeadbahaaPlnO
import Derived.Test.YtkmcddfeadbahaaLzC
import Derived.Deep.CutRange
namespace Go.Proofs.Ytkmcddfeadbahaa
open Go.RowKit
set_option linter.unusedVariables false

/-- Behind an append of fresh cells onto an own row: the row, what was below, the bytes that came in. -/
theorem grow_own {w w0 w2 : World} {base b0 n m len0 : Nat} {a0 : Option Addr} {v v2 : Value} {xs ys bs : List B8} (hB : Below b0 w0 w) (hR : Rd w base a0 len0 bs) (ho : w.ownsRow base 5 1 v n (xs.map v8)) (hs : base ≤ w.heap.size) (cs : Array Value)
    (hown : w2.ownsRow base 5 1 v2 (n + m) (xs.map v8 ++ ys.map v8)) (hg : (w.alloc (.cells cs 5)).grownBy w2 v.ownBlock) (hb : b0 ≤ base) :
    ∃ A c, v2 = .slice A (n + m) c ∧ Hid (w2.ownsRow base 5 1 (.slice A (n + m) c) (n + m) ((xs ++ ys).map v8)) ∧ Hid (Below b0 w0 w2) ∧ Hid (Rd w2 base a0 len0 bs) ∧ base ≤ w2.heap.size := by
  obtain ⟨A, c, rfl, _⟩ := own_cap hown
  refine ⟨A, c, rfl, ?_, ?_, ?_, ?_⟩
  · show World.ownsRow _ _ _ _ _ _ _
    rw [List.map_append]; exact hown
  · exact (hB.alloc (by omega) _).grown hg (by simp; omega) (fun q hq => Nat.le_trans hb (ho.lt q hq).1)
  · exact (hR.alloc hs _).grown hg (by simp; omega) (fun q hq => (ho.lt q hq).1)
  · have := hg.size; simp at this; omega
theorem tok_or (l q t : Nat) (h : min q 15 = t) : bits .or .u8 (I8 (token l 0)) (t : Int) = I8 (token l q) := by
  have ht : t < 16 := by omega
  have key : ∀ a : Fin 16, ∀ b : Fin 16, bits .or .u8 (((a.val * 16 : Nat)) : Int) ((b.val : Nat) : Int) = ((a.val * 16 + b.val : Nat) : Int) := by decide +kernel
  have := key ⟨min l 15, by omega⟩ ⟨t, ht⟩
  unfold I8 token
  rw [BitVec.toNat_ofNat, BitVec.toNat_ofNat, show (min l 15 * 16 + min 0 15) % 2 ^ 8 = min l 15 * 16 by omega, show (min l 15 * 16 + min q 15) % 2 ^ 8 = min l 15 * 16 + t by omega]
  exact this

set_option maxRecDepth 100000 in
set_option maxHeartbeats 4000000 in
theorem walkCopies (a0 : Option Addr) (len0 cap0 : Nat) (x : Int) (hx0 : 0 ≤ x) (hx1 : x ≤ 65535) (y : Int) (hy0 : 0 ≤ y) (hy1 : y ≤ 65535) (w : World) (bs : List B8) (hr : Rd w w.heap.size a0 len0 bs) (hlc : len0 ≤ cap0) :
    Calls Try.prog 8 #[.slice a0 len0 cap0, .int .u16 x, .int .u16 y] w fun e w' => e = .returned (.bool true) ∧ Below w.heap.size w w' := by
  by_cases hlo : len0 < 1
  · go_enter Try.func8, Try.ntmps8
    go_wp2_with (go_at_call 10; refine (awake6 _).mono ?_; rintro e w1 ⟨rfl, hb1⟩)
    go_ret
    exact ⟨rfl, hb1⟩
  by_cases hhi : 300 < len0
  · go_enter Try.func8, Try.ntmps8
    go_wp2_with (go_at_call 10; refine (awake6 _).mono ?_; rintro e w1 ⟨rfl, hb1⟩)
    go_ret
    exact ⟨rfl, hb1⟩
  obtain ⟨i0, hi, hz0, hz1, hz2⟩ := info_parts info5
  obtain ⟨q, hq⟩ : ∃ q : Nat, y % 600 = (q : Int) := ⟨(y % 600).toNat, by omega⟩
  obtain ⟨d, hd⟩ : ∃ d : Nat, x % 400 = (d : Int) := ⟨(x % 400).toNat, by omega⟩
  have hq2 : q ≤ 599 := by omega
  have hd2 : d ≤ 399 := by omega
  have HR := Lib.hid hr
  have hl := hr.len
  go_enter Try.func8, Try.ntmps8
  go_upto_region 8 with (first
    | (go_at_call 10
       refine (awake6 _).mono ?_
       rintro e w1 ⟨rfl, hb1⟩
       have B1 := Lib.hid hb1
       have R1 := Lib.hid ((HR.out.below hb1).more hb1.size)
       clear hb1)
    | (go_at_call 12
       refine (plainO_any _ _ _ _ _ R1.out (by omega)).mono ?_
       rintro e w2 ⟨A2, c2, rfl, ho2, hb2, hc2⟩
       have O2 := Lib.hid ho2
       have B2 := Lib.hid (B1.out.trans (hb2.mono B1.out.size))
       have R2 := Lib.hid ((R1.out.below hb2).more hb2.size)
       have Hc2 := Lib.hid hc2
       have HR3 := Lib.hid (R1.out.below hb2)
       clear ho2 hb2 hc2)
    | fail)
  have hT : seqL bs = token len0 0 :: (lenE len0 ++ bs) := by unfold seqL; rw [hl]
  obtain ⟨g, rfl⟩ : ∃ g, A2 = some ⟨g, 0, none⟩ := by
    rcases O2.out.2 with ⟨_, h⟩ | ⟨g, _, _, e, _⟩
    · rw [hT] at h; simp at h
    · injection e with e; exact ⟨g, e⟩
  have c0 := O2.out.cellAt 0 (by rw [hT]; simp)
  have f0 := O2.out.frozenAt 0
  rw [show ((seqL bs).map v8)[0]? = some (.int .u8 (I8 (token len0 0))) by rw [hT]; rfl] at c0
  obtain ⟨K, hK⟩ : ∃ K, K = (seqL bs).length := ⟨_, rfl⟩
  have HK := Lib.hid hK
  have hK0 : 0 < K := by rw [hK, hT]; simp
  rw [← hK] at O2 ⊢
  clear hT hK
  obtain ⟨T, hTT⟩ : ∃ T, T = I8 (token len0 0) := ⟨_, rfl⟩
  obtain ⟨V, hV⟩ : ∃ V, V = I8 (token len0 q) := ⟨_, rfl⟩
  have o1 : q ≤ 15 → bits .or .u8 T (q : Int) = V := fun h => by rw [hTT, hV]; exact tok_or len0 q q (by omega)
  have o2 : 15 < q → bits .or .u8 T 15 = V := fun h => by rw [hTT, hV]; exact tok_or len0 q 15 (by omega)
  rw [← hTT] at c0
  have HV := Lib.hid hV
  have o1' := Lib.hid o1
  have o2' := Lib.hid o2
  clear hTT hV o1 o2
  go_cut [38] from 38 to 47 (fun _ wx => wx = w2.setCell ⟨g, 0, none⟩ (.int .u8 V))
  case first =>
    by_cases hle : q ≤ 15
    · have h1 : (q : Int) ≤ 15 := by omega
      have h2 := o1'.out hle
      go_wp2_with fail
      all_goals
        go_meet
        rw [show (4 + (q : Int) - 4) = (q : Int) by omega, h2]
    · have h1 : ¬ (q : Int) ≤ 15 := by omega
      have h2 := o2'.out (by omega)
      go_wp2_with fail
      all_goals
        go_meet
        first | rfl | rw [h2]
  case rest =>
  have O3 : Hid (wc.ownsRow w1.heap.size 5 1 (.slice (some ⟨g, 0, none⟩) K c2) K ((token len0 q :: (lenE len0 ++ bs)).map v8)) := by
    show World.ownsRow _ _ _ _ _ _ _
    rw [hcut, HV.out]
    have := (O2.out.stored 0 (.int .u8 (I8 (token len0 q)))).1
    rw [show ((seqL bs).map v8).set 0 (.int .u8 (I8 (token len0 q))) = (token len0 q :: (lenE len0 ++ bs)).map v8 by unfold seqL; rw [hl]; rfl] at this
    exact this
  have hgb : w1.heap.size ≤ g := by have := O2.out.lt g rfl; exact this.1
  have B3 : Hid (Below w.heap.size w wc) := by show Below _ _ _; rw [hcut]; exact B2.out.setCell (Nat.le_trans B1.out.size hgb) _
  have R3 : Hid (Rd wc w1.heap.size a0 len0 bs) := by show Rd _ _ _ _ _; rw [hcut]; exact (HR3.out).setCell hgb _
  have hs3 : w1.heap.size ≤ wc.heap.size := by rw [hcut]; simp; have := (O2.out.lt g rfl).2; omega
  have hKb : K ≤ 320 := by rw [HK.out]; unfold seqL; simp only [List.length_cons, List.length_append, hl]; have := lenE_le len0; have := lenE_255 len0; omega
  clear hcut O2 B2 R2 c0 f0 o1' o2' HV HK
  obtain ⟨X1, hX1⟩ : ∃ X, token len0 q :: (lenE len0 ++ bs) = X := ⟨_, rfl⟩
  rw [hX1] at O3
  have e1 : (d : Int) % 256 = I8 (BitVec.ofNat 8 d) := by unfold I8; rw [BitVec.toNat_ofNat]; omega
  have e2 : (d : Int) / 256 = I8 (BitVec.ofNat 8 (d / 256)) := by unfold I8; rw [BitVec.toNat_ofNat]; omega
  obtain ⟨cs, hcs⟩ : ∃ cs : Array Value, cs = #[.int .u8 (I8 (BitVec.ofNat 8 d)), .int .u8 (I8 (BitVec.ofNat 8 (d / 256)))] := ⟨_, rfl⟩
  have OA := Lib.hid (O3.out.alloc (.cells #[.int .u8 (I8 (BitVec.ofNat 8 d)), .int .u8 (I8 (BitVec.ofNat 8 (d / 256)))] 5))
  have RA : Hid (Rd (wc.alloc (.cells #[.int .u8 (I8 (BitVec.ofNat 8 d)), .int .u8 (I8 (BitVec.ofNat 8 (d / 256)))] 5)) (wc.heap.size + 1) (some ⟨wc.heap.size, 0, none⟩) 2 (back2 d)) := rd_lit wc (back2 d) _ 5 (0, 0) rfl
  have SA : Hid (w1.heap.size ≤ (wc.alloc (.cells #[.int .u8 (I8 (BitVec.ofNat 8 d)), .int .u8 (I8 (BitVec.ofNat 8 (d / 256)))] 5)).heap.size) := by show _ ≤ _; simp; omega
  have hmx : Hid (K + 2 ≤ maxLen) := by show _ ≤ _; unfold maxLen; omega
  have hby : Hid ((K + 2) * 1 ≤ 140737488355328) := by show _ ≤ _; omega
  go_upto_region 10 with (first
    | (at_builtin
       refine wpList_append_any _ rfl (.tmp 48) (.tmp 54) 22 rfl w1.heap.size 5 i0 (.int .u8 0) 1 1 Try.underlying22 hi hz0 hz1 hz2 rfl (by decide) _ K _ rfl OA.out (wc.heap.size + 1) _ 2 2 ((back2 d).map v8) rfl RA.out (oneCell_v8 _) hmx.out hby.out SA.out ?_
       intro v2 w4 hown2 hg2 hat2
       obtain ⟨A4, c4, rfl, O4, B4, R4, S4⟩ := grow_own B3.out R3.out O3.out hs3 _ hown2 hg2 B1.out.size
       clear hown2 hg2 hat2)
    | fail)
  obtain ⟨X2, hX2⟩ : ∃ X, X1 ++ back2 d = X := ⟨_, rfl⟩
  rw [hX2] at O4
  clear O3 B3 R3 OA RA SA hmx hby hgb hs3 hcs cs e1 e2
  obtain ⟨T15, hT15⟩ : ∃ t : Bool, decide ((15 : Int) ≤ (q : Int)) = t := ⟨_, rfl⟩
  have hT15' : decide ((15 : Int) ≤ 4 + (q : Int) - 4) = T15 := by rw [← hT15]; simp only [decide_eq_decide]; omega
  go_upto_if 58 with fail
  go_cut [9, 10] from 56 to 72 (fun b _ wx => ∃ (M : Nat) (A5 : Option Addr) (c5 : Nat), b = .slice A5 M c5 ∧ wx.ownsRow w1.heap.size 5 1 (.slice A5 M c5) M ((X2 ++ lenE q).map v8) ∧ Below w.heap.size w wx ∧ Rd wx w1.heap.size a0 len0 bs ∧ w1.heap.size ≤ wx.heap.size)
  case first =>
    clear hT15'
    have HT := Lib.hid hT15
    clear hT15
    cases T15 with
    | false =>
      have hlt : q < 15 := by have := of_decide_eq_false HT.out; omega
      go_wp2_with fail
      go_meet
      exact ⟨K + 2, A4, c4, rfl, by rw [show lenE q = [] by unfold lenE; rw [if_pos hlt], List.append_nil]; exact O4.out, B4.out, R4.out, S4⟩
    | true =>
      have hlt : ¬ q < 15 := by have := of_decide_eq_true HT.out; omega
      obtain ⟨r, hr15⟩ : ∃ r : Nat, q = r + 15 := ⟨q - 15, by omega⟩
      have HR15 := Lib.hid hr15
      clear hr15
      go_wp2_with fail
      go_loopw [9, 10] (fun b kk wr => ∃ (j z M : Nat) (A5 : Option Addr) (c5 : Nat), kk = .int .i64 (z : Int) ∧ z + 255 * j = r ∧ b = .slice A5 M c5 ∧ M = K + 2 + j ∧ wr.ownsRow w1.heap.size 5 1 (.slice A5 M c5) M ((X2 ++ List.replicate j 255#8).map v8) ∧ Below w.heap.size w wr ∧ Rd wr w1.heap.size a0 len0 bs ∧ w1.heap.size ≤ wr.heap.size) (fun _ kk _ => (intOf kk).toNat)
      case atStart => exact ⟨0, r, K + 2, A4, c4, congrArg (Value.int .i64) (by have := HR15.out; omega), by omega, rfl, rfl, by simpa using O4.out, B4.out, R4.out, S4⟩
      case round =>
        clear O4 B4 R4 S4
        obtain ⟨j, z, M, A5, c5, rfl, hz, rfl, hM, hown, hB, hR, hS⟩ := hrel
        have OO := Lib.hid hown
        have BB := Lib.hid hB
        have RR := Lib.hid hR
        have HM := Lib.hid hM
        have HZ := Lib.hid hz
        have hMb : M ≤ 1000 := by have := HR15.out; omega
        have hmx : Hid (M + 1 ≤ maxLen) := by show _ ≤ _; unfold maxLen; omega
        have hby : Hid ((M + 1) * 1 ≤ 140737488355328) := by show _ ≤ _; omega
        have hzb : z ≤ 600 := by have := HR15.out; omega
        by_cases hge : 255 ≤ z
        · have hgeI : (255 : Int) ≤ (z : Int) := by omega
          have OA := Lib.hid (hown.alloc (.cells #[.int .u8 255] 5))
          have RA : Hid (Rd (wr.alloc (.cells #[.int .u8 255] 5)) (wr.heap.size + 1) (some ⟨wr.heap.size, 0, none⟩) 1 [255#8]) := rd_lit wr [255#8] _ 5 (0, 0) rfl
          have SA : Hid (w1.heap.size ≤ (wr.alloc (.cells #[.int .u8 255] 5)).heap.size) := by show _ ≤ _; simp; omega
          clear hown hB hR hM hz
          go_wp2_with (first
            | (at_builtin
               refine wpList_append_any _ rfl (.tmp 65) (.tmp 66) 22 rfl w1.heap.size 5 i0 (.int .u8 0) 1 1 Try.underlying22 hi hz0 hz1 hz2 rfl (by decide) _ M _ rfl OA.out (wr.heap.size + 1) _ 1 1 ([255#8].map v8) rfl RA.out (oneCell_v8 _) hmx.out hby.out SA.out ?_
               intro v2 w4 hown2 hg2 hat2
               obtain ⟨A6, c6, rfl, O6, B6, R6, S6⟩ := grow_own BB.out RR.out OO.out hS _ hown2 hg2 B1.out.size
               clear hown2 hg2 hat2)
            | fail)
          exact ⟨⟨j + 1, z - 255, M + 1, A6, c6, by first | rfl | (congr 1; omega), by have := HZ.out; omega, rfl, by have := HM.out; omega, by rw [List.replicate_succ', ← List.append_assoc]; exact O6.out, B6.out, R6.out, S6⟩, by simp only [intOf]; omega⟩
        · have hgeI : ¬ (255 : Int) ≤ (z : Int) := by omega
          have ez : (z : Int) % 256 = I8 (BitVec.ofNat 8 z) := by unfold I8; rw [BitVec.toNat_ofNat]; omega
          have ez2 : (z : Int) = I8 (BitVec.ofNat 8 z) := by unfold I8; rw [BitVec.toNat_ofNat]; omega
          have EZ2 := Lib.hid ez2
          clear ez2
          have OA := Lib.hid (hown.alloc (.cells #[.int .u8 (I8 (BitVec.ofNat 8 z))] 5))
          have RA : Hid (Rd (wr.alloc (.cells #[.int .u8 (I8 (BitVec.ofNat 8 z))] 5)) (wr.heap.size + 1) (some ⟨wr.heap.size, 0, none⟩) 1 [BitVec.ofNat 8 z]) := rd_lit wr [BitVec.ofNat 8 z] _ 5 (0, 0) rfl
          have SA : Hid (w1.heap.size ≤ (wr.alloc (.cells #[.int .u8 (I8 (BitVec.ofNat 8 z))] 5)).heap.size) := by show _ ≤ _; simp; omega
          rw [← EZ2.out] at OA RA SA
          have hL : lenE q = List.replicate j 255#8 ++ [BitVec.ofNat 8 z] := by
            unfold lenE
            rw [if_neg hlt, show (q - 15) / 255 = j by have := HR15.out; omega, show (q - 15) % 255 = z by have := HR15.out; omega]
          clear hown hB hR hM hz ez
          go_wp2_with (first
            | (at_builtin
               refine wpList_append_any _ rfl (.tmp 68) (.tmp 71) 22 rfl w1.heap.size 5 i0 (.int .u8 0) 1 1 Try.underlying22 hi hz0 hz1 hz2 rfl (by decide) _ M _ rfl OA.out (wr.heap.size + 1) _ 1 1 ([BitVec.ofNat 8 z].map v8) rfl RA.out (oneCell_v8 _) hmx.out hby.out SA.out ?_
               intro v2 w4 hown2 hg2 hat2
               obtain ⟨A6, c6, rfl, O6, B6, R6, S6⟩ := grow_own BB.out RR.out OO.out hS _ hown2 hg2 B1.out.size
               clear hown2 hg2 hat2)
            | fail)
          go_meet
          exact ⟨M + 1, A6, c6, rfl, by rw [hL, ← List.append_assoc]; exact O6.out, B6.out, R6.out, S6⟩
  case rest =>
  obtain ⟨M, A5, c5, rfl, ho5, hb5, hr5, hs5⟩ := hcut
  have O5 := Lib.hid ho5
  have B5 := Lib.hid hb5
  have R5 := Lib.hid hr5
  have hM : M = (X2 ++ lenE q).length := by have := ho5.1; simpa using this.symm
  have hMb : M ≤ 1400 := by
    have h1 : X2.length = K + 2 := by have := O4.out.1; simpa using this
    have h2 := lenE_le q
    rw [hM, List.length_append, h1]; omega
  clear ho5 hb5 hr5 O4 B4 R4 S4 hM
  obtain ⟨X3, hX3⟩ : ∃ X, X2 ++ lenE q = X := ⟨_, rfl⟩
  rw [hX3] at O5
  have OA := Lib.hid (O5.out.alloc (.cells #[.int .u8 0] 5))
  have RA : Hid (Rd (wc.alloc (.cells #[.int .u8 0] 5)) (wc.heap.size + 1) (some ⟨wc.heap.size, 0, none⟩) 1 [0#8]) := rd_lit wc [0#8] _ 5 (0, 0) rfl
  have SA : Hid (w1.heap.size ≤ (wc.alloc (.cells #[.int .u8 0] 5)).heap.size) := by show _ ≤ _; simp; omega
  have hmx : Hid (M + 1 ≤ maxLen) := by show _ ≤ _; unfold maxLen; omega
  have hby : Hid ((M + 1) * 1 ≤ 140737488355328) := by show _ ≤ _; omega
  apply_assumption
  go_wp2_with (first
    | (at_builtin
       refine wpList_append_any _ rfl (.tmp 73) (.tmp 74) 22 rfl w1.heap.size 5 i0 (.int .u8 0) 1 1 Try.underlying22 hi hz0 hz1 hz2 rfl (by decide) _ M _ rfl OA.out (wc.heap.size + 1) _ 1 1 ([0#8].map v8) rfl RA.out (oneCell_v8 _) hmx.out hby.out SA.out ?_
       intro v2 w6 hown2 hg2 hat2
       obtain ⟨A6, c6, rfl, O6, B6, R6, S6⟩ := grow_own B5.out R5.out O5.out hs5 _ hown2 hg2 B1.out.size
       have hc6 : M + 1 ≤ c6 := by obtain ⟨_, _, e6, h6⟩ := own_cap O6.out; injection e6 with _ _ e6; omega
       clear hown2 hg2 hat2)
    | fail)
  have hX4 : X3 ++ [0#8] = seqM bs d (q + 4) ++ [0#8] := by
    rw [← hX3, ← hX2, ← hX1]
    unfold seqM
    rw [hl, show q + 4 - 4 = q by omega]
    simp
  obtain ⟨X4, hX5⟩ : ∃ X, seqM bs d (q + 4) ++ [0#8] = X := ⟨_, rfl⟩
  have SY : ∀ N : Nat, N ≤ 4096 → says X4 (N : Int) = if N < len0 then .bad 3 else if d = 0 ∨ len0 < d then .bad 4 else if N < len0 + (q + 4) then .bad 3 else if len0 + (q + 4) = N then .good (copyN bs d (q + 4)) else .bad 2 := fun N hN => by
    rw [← hX5, says_copies bs d (q + 4) N (by omega) (by omega) hN, hl]
  rw [hX4, hX5] at O6
  have HSY := Lib.hid SY
  have P6 := Lib.hid (Rd.of_own O6.out)
  have hM6 : M + 1 ≤ 1000000 := by omega
  have R6' := Lib.hid (R6.out.more S6)
  clear hX4 hX5 hX3 hX2 hX1 SY OA RA SA hmx hby O5 B5 R5 O6 R6
  by_cases hbad : d = 0 ∨ len0 < d
  · have u1 : says X4 ((len0 : Int) + (4 + (q : Int))) = .bad 4 := by
      have := HSY.out (len0 + (q + 4)) (by omega)
      rw [if_neg (by omega), if_pos hbad] at this
      rw [← this]; congr 1; omega
    have u2 : says X4 ((len0 : Int) + (4 + (q : Int)) - 1) = .bad 4 := by
      have := HSY.out (len0 + (q + 3)) (by omega)
      rw [if_neg (by omega), if_pos hbad] at this
      rw [← this]; congr 1; omega
    have u3 : says X4 ((len0 : Int) + (4 + (q : Int)) + 1) = .bad 4 := by
      have := HSY.out (len0 + (q + 5)) (by omega)
      rw [if_neg (by omega), if_pos hbad] at this
      rw [← this]; congr 1; omega
    have V1 := fun (A : Option Addr) (c : Nat) (W : World) (h : Rd W W.heap.size A (M + 1) X4) (hc : M + 1 ≤ c) => Lib.hid (unpack_any A (M + 1) c X4 W h hc hM6 ((len0 : Int) + (4 + (q : Int))))
    have V2 := fun (A : Option Addr) (c : Nat) (W : World) (h : Rd W W.heap.size A (M + 1) X4) (hc : M + 1 ≤ c) => Lib.hid (unpack_any A (M + 1) c X4 W h hc hM6 ((len0 : Int) + (4 + (q : Int)) - 1))
    have V3 := fun (A : Option Addr) (c : Nat) (W : World) (h : Rd W W.heap.size A (M + 1) X4) (hc : M + 1 ≤ c) => Lib.hid (unpack_any A (M + 1) c X4 W h hc hM6 ((len0 : Int) + (4 + (q : Int)) + 1))
    refine (V1 _ _ _ P6.out hc6).out.mono fun e w7 h => ?_
    obtain ⟨A7, c7, rfl, _, hb7⟩ := unpacked_bad u1 h
    have P7 := Lib.hid ((P6.out.below hb7).more hb7.size)
    have B7 := Lib.hid (B6.out.trans (hb7.mono (Nat.le_trans B1.out.size S6)))
    have z7 := hb7.size
    clear h
    go_wp2_with fail
    refine (V2 _ _ _ P7.out hc6).out.mono fun e w8 h => ?_
    obtain ⟨A8, c8, rfl, _, hb8⟩ := unpacked_bad u2 h
    have P8 := Lib.hid ((P7.out.below hb8).more hb8.size)
    have B8' := Lib.hid (B7.out.trans (hb8.mono (Nat.le_trans B1.out.size (Nat.le_trans S6 z7))))
    have z8 := hb8.size
    clear h
    go_wp2_with fail
    refine (V3 _ _ _ P8.out hc6).out.mono fun e w9 h => ?_
    obtain ⟨A9, c9, rfl, _, hb9⟩ := unpacked_bad u3 h
    have B9 := Lib.hid (B8'.out.trans (hb9.mono (Nat.le_trans B1.out.size (Nat.le_trans S6 (Nat.le_trans z7 z8)))))
    clear h
    rcases hbad with h | h
    · subst h
      go_wp2_with fail
      go_ret
      exact ⟨rfl, B9.out⟩
    · have h1 : (len0 : Int) < (d : Int) := by omega
      have h2 : ((d : Int) == 0) = false := by rw [beq_eq_false_iff_ne]; omega
      go_wp2_with fail
      go_ret
      exact ⟨rfl, B9.out⟩
  · obtain ⟨CP, hCP⟩ : ∃ CP, copyN bs d (q + 4) = CP := ⟨_, rfl⟩
    have hCL : CP.length = len0 + (q + 4) := by rw [← hCP, copyN_length, hl]
    have u1 : says X4 ((len0 : Int) + (4 + (q : Int))) = .good CP := by
      have := HSY.out (len0 + (q + 4)) (by omega)
      rw [if_neg (by omega), if_neg hbad, if_neg (by omega), if_pos rfl, hCP] at this
      rw [← this]; congr 1; omega
    have u2 : says X4 ((len0 : Int) + (4 + (q : Int)) - 1) = .bad 3 := by
      have := HSY.out (len0 + (q + 3)) (by omega)
      rw [if_neg (by omega), if_neg hbad, if_pos (by omega)] at this
      rw [← this]; congr 1; omega
    have u3 : says X4 ((len0 : Int) + (4 + (q : Int)) + 1) = .bad 2 := by
      have := HSY.out (len0 + (q + 5)) (by omega)
      rw [if_neg (by omega), if_neg hbad, if_neg (by omega), if_neg (by omega)] at this
      rw [← this]; congr 1; omega
    have V1 := fun (A : Option Addr) (c : Nat) (W : World) (h : Rd W W.heap.size A (M + 1) X4) (hc : M + 1 ≤ c) => Lib.hid (unpack_any A (M + 1) c X4 W h hc hM6 ((len0 : Int) + (4 + (q : Int))))
    have V2 := fun (A : Option Addr) (c : Nat) (W : World) (h : Rd W W.heap.size A (M + 1) X4) (hc : M + 1 ≤ c) => Lib.hid (unpack_any A (M + 1) c X4 W h hc hM6 ((len0 : Int) + (4 + (q : Int)) - 1))
    have V3 := fun (A : Option Addr) (c : Nat) (W : World) (h : Rd W W.heap.size A (M + 1) X4) (hc : M + 1 ≤ c) => Lib.hid (unpack_any A (M + 1) c X4 W h hc hM6 ((len0 : Int) + (4 + (q : Int)) + 1))
    have HCP := Lib.hid hCP
    clear hCP hCL
    refine (V1 _ _ _ P6.out hc6).out.mono fun e w7 h => ?_
    obtain ⟨A7, c7, rfl, hc7, hr7, hb7⟩ := unpacked_good u1 h
    have P7 := Lib.hid ((P6.out.below hb7).more hb7.size)
    have B7 := Lib.hid (B6.out.trans (hb7.mono (Nat.le_trans B1.out.size S6)))
    have X7 := Lib.hid hr7
    have R7 := Lib.hid ((R6'.out.below hb7).more hb7.size)
    have z7 := hb7.size
    clear h hr7
    go_wp2_with fail
    refine (V2 _ _ _ P7.out hc6).out.mono fun e w8 h => ?_
    obtain ⟨A8, c8, rfl, _, hb8⟩ := unpacked_bad u2 h
    have P8 := Lib.hid ((P7.out.below hb8).more hb8.size)
    have B8' := Lib.hid (B7.out.trans (hb8.mono (Nat.le_trans B1.out.size (Nat.le_trans S6 z7))))
    have X8 := Lib.hid ((X7.out.below hb8).more hb8.size)
    have R8 := Lib.hid ((R7.out.below hb8).more hb8.size)
    have z8 := hb8.size
    clear h
    go_wp2_with fail
    refine (V3 _ _ _ P8.out hc6).out.mono fun e w9 h => ?_
    obtain ⟨A9, c9, rfl, _, hb9⟩ := unpacked_bad u3 h
    have B9 := Lib.hid (B8'.out.trans (hb9.mono (Nat.le_trans B1.out.size (Nat.le_trans S6 (Nat.le_trans z7 z8)))))
    have X9 := Lib.hid ((X8.out.below hb9).more hb9.size)
    have R9 := Lib.hid ((R8.out.below hb9).more hb9.size)
    have z9 : w.heap.size ≤ w9.heap.size := B9.out.size
    clear h P6 P7 P8 X7 X8 R7 R8 B7 B8' V1 V2 V3 u1 u2 u3 HSY B6 R6' hb7 hb8 hb9
    have h1 : ¬ (len0 : Int) < (d : Int) := by omega
    have h2 : ((d : Int) == 0) = false := by rw [beq_eq_false_iff_ne]; omega
    have O9 := Lib.hid (World.ownsRow_lit (base := w9.heap.size) (e := 5) (size := 1) w9 #[] 0 (Nat.le_refl _) (by unfold maxLen; omega) rfl)
    have RA := Lib.hid (R9.out.alloc (Nat.le_refl _) (.cells #[] 5))
    have hmx : Hid (0 + len0 ≤ maxLen) := by show _ ≤ _; unfold maxLen; omega
    have hby : Hid ((0 + len0) * 1 ≤ 140737488355328) := by show _ ≤ _; omega
    have SA : Hid (w9.heap.size ≤ (w9.alloc (.cells #[] 5)).heap.size) := by show _ ≤ _; simp
    go_wp2_with (first
      | (at_builtin
         refine wpList_append_any _ rfl (.tmp 120) (.tmp 121) 22 rfl w9.heap.size 5 i0 (.int .u8 0) 1 1 Try.underlying22 hi hz0 hz1 hz2 rfl (by decide) _ 0 [] rfl O9.out w9.heap.size a0 len0 cap0 (bs.map v8) rfl RA.out (oneCell_v8 _) hmx.out hby.out SA.out ?_
         intro v2 w10 hown2 hg2 hat2
         simp only [Nat.zero_add, List.nil_append] at hown2
         obtain ⟨A10, c10, rfl, hc10⟩ := own_cap hown2
         have hb10 : Below w9.heap.size w9 w10 := ((Below.refl _ _).alloc (Nat.le_refl _) _).grown hg2 (by simp) (fun q hq => by injection (show some w9.heap.size = some q from hq) with hq; rw [← hq]; exact Nat.le_refl _)
         have O10 := Lib.hid hown2
         have B10 := Lib.hid (B9.out.trans (hb10.mono z9))
         have X10 := Lib.hid (X9.out.below hb10)
         have z10 := hb10.size
         clear hown2 hg2 hat2 hb10)
      | fail)
    have hdl : d ≤ len0 := by omega
    have hd0 : 0 < d := by omega
    go_loopw [17, 18] (fun b i wr => ∃ (j M : Nat) (Ao : Option Addr) (co : Nat), i = .int .i64 (j : Int) ∧ b = .slice Ao M co ∧ j ≤ q + 4 ∧ M = len0 + j ∧ wr.ownsRow w9.heap.size 5 1 (.slice Ao M co) M ((copyN bs d j).map v8) ∧ Below w.heap.size w wr ∧ Rd wr w9.heap.size A7 CP.length CP ∧ w9.heap.size ≤ wr.heap.size) (fun _ i _ => q + 4 - (intOf i).toNat)
    case atStart => exact ⟨0, len0, A10, c10, rfl, rfl, by omega, rfl, O10.out, B10.out, X10.out, z10⟩
    case round =>
      clear O10 B10 X10 RA hmx hby SA O9
      obtain ⟨j, M', Ao, co, rfl, rfl, hj, hM', hown, hB, hX, hS⟩ := hrel
      have OO := Lib.hid hown
      have BB := Lib.hid hB
      have XX := Lib.hid hX
      have HM' := Lib.hid hM'
      have hM'b : M' ≤ 1000 := by omega
      by_cases hlt : j < q + 4
      · have hltI : (j : Int) < 4 + (q : Int) := by omega
        obtain ⟨t, ht⟩ : ∃ t : Nat, M' - d = t := ⟨_, rfl⟩
        have htI : (M' : Int) - (d : Int) = (t : Int) := by omega
        have htl : t < M' := by omega
        have hlen : (copyN bs d j).length = M' := by rw [copyN_length, hl, hM']
        obtain ⟨g2, rfl⟩ : ∃ g2, Ao = some ⟨g2, 0, none⟩ := by
          rcases hown.2 with ⟨_, h⟩ | ⟨g2, _, _, e, _⟩
          · omega
          · injection e with e; exact ⟨g2, e⟩
        have hc := hown.cellAt t (by omega)
        rw [List.getElem?_map, bt_at (by omega : t < (copyN bs d j).length)] at hc
        obtain ⟨z, hz⟩ : ∃ z, bt (copyN bs d j) t = z := ⟨_, rfl⟩
        rw [hz] at hc
        replace hc : _ = some (Value.int .u8 (I8 z)) := hc
        have HN : Hid (copyN bs d (j + 1) = copyN bs d j ++ [z]) := by show copyN bs d (j + 1) = _; rw [copyN, hlen, ht, hz]
        have OA := Lib.hid (hown.alloc (.cells #[.int .u8 (I8 z)] 5))
        have RA : Hid (Rd (wr.alloc (.cells #[.int .u8 (I8 z)] 5)) (wr.heap.size + 1) (some ⟨wr.heap.size, 0, none⟩) 1 [z]) := rd_lit wr [z] _ 5 (0, 0) rfl
        have SA : Hid (w9.heap.size ≤ (wr.alloc (.cells #[.int .u8 (I8 z)] 5)).heap.size) := by show _ ≤ _; simp; omega
        have hmx : Hid (M' + 1 ≤ maxLen) := by show _ ≤ _; unfold maxLen; omega
        have hby : Hid ((M' + 1) * 1 ≤ 140737488355328) := by show _ ≤ _; omega
        have htlI : (t : Int) < (M' : Int) := by omega
        clear hown hB hX hM' hlen ht hz
        go_wp2_with (first
          | (at_builtin
             refine wpList_append_any _ rfl (.tmp 128) (.tmp 136) 22 rfl w9.heap.size 5 i0 (.int .u8 0) 1 1 Try.underlying22 hi hz0 hz1 hz2 rfl (by decide) _ M' _ rfl OA.out (wr.heap.size + 1) _ 1 1 ([z].map v8) rfl RA.out (oneCell_v8 _) hmx.out hby.out SA.out ?_
             intro v2 w4 hown2 hg2 hat2
             obtain ⟨A6, c6', rfl, O6, B6, R6, S6'⟩ := grow_own BB.out XX.out OO.out hS _ hown2 hg2 z9
             clear hown2 hg2 hat2)
          | fail)
        exact ⟨⟨j + 1, M' + 1, A6, c6', rfl, rfl, by omega, by have := HM'.out; omega, by rw [HN.out]; exact O6.out, B6.out, R6.out, S6'⟩, by simp only [intOf]; omega⟩
      · have hltI : ¬ (j : Int) < 4 + (q : Int) := by omega
        obtain rfl : j = q + 4 := by omega
        have k1 := conv_str (P := Try.prog) 22 9 5 (c := c7) Try.underlying22 Try.underlying5 Try.underlying9 XX.out
        have k2 := conv_str (P := Try.prog) 22 9 5 (c := co) Try.underlying22 Try.underlying5 Try.underlying9 (Rd.of_own OO.out)
        rw [HCP.out] at k2
        generalize hD : strOf CP = D at *
        clear hown hB hX hM' hD
        go_wp2_with fail
        go_ret
        exact ⟨rfl, BB.out⟩
end Go.Proofs.Ytkmcddfeadbahaa

/- The walk of LzFar. -/
import Derived.Test.YtkmcddfeadbahaaAw6
namespace Go.Proofs.Ytkmcddfeadbahaa
open Go.RowKit
set_option linter.unusedVariables false

set_option maxRecDepth 100000 in
set_option maxHeartbeats 1000000 in
theorem walkFar (a0 : Option Addr) (len0 cap0 : Nat) (x : Int) (hx0 : 0 ≤ x) (hx1 : x ≤ 65535) (y : Int) (hy0 : 0 ≤ y) (hy1 : y ≤ 255) (w : World) (bs : List B8) (hr : Rd w w.heap.size a0 len0 bs) :
    Calls Try.prog 4 #[.slice a0 len0 cap0, .int .u16 x, .int .u8 y] w fun e w' => e = .returned (.bool true) ∧ Below w.heap.size w w' := by
  by_cases hhi : 200 < len0
  · go_enter Try.func4, Try.ntmps4
    go_wp2_with (go_at_call 10; refine (awake6 _).mono ?_; rintro e w1 ⟨rfl, hb1⟩)
    go_ret
    exact ⟨rfl, hb1⟩
  obtain ⟨i0, hi, hz0, hz1, hz2⟩ := info_parts info5
  obtain ⟨N, hN⟩ : ∃ N : Nat, N = (x % 3696).toNat := ⟨_, rfl⟩
  have hNI : x % 3696 = (N : Int) := by omega
  have hN2 : N ≤ 3695 := by omega
  have HR := Lib.hid hr
  have HN2 := Lib.hid hN2
  have hm0 : Hid (0 + len0 ≤ maxLen) := by show _ ≤ _; unfold maxLen; omega
  have hb0 : Hid ((0 + len0) * 1 ≤ 140737488355328) := by show _ ≤ _; omega
  clear hr hN hN2
  go_enter Try.func4, Try.ntmps4
  go_wp2_with (first
    | (go_at_call 10; refine (awake6 _).mono ?_; rintro e w1 ⟨rfl, hb1⟩; have HB1 := Lib.hid hb1; have R1 := Lib.hid ((HR.out.below hb1).alloc hb1.size (.cells #[] 5)); have S1 := Lib.hid hb1.size; clear hb1)
    | (at_builtin
       refine wpList_append_any _ rfl (.tmp 19) (.tmp 20) 22 rfl w.heap.size 5 i0 (.int .u8 0) 1 1 Try.underlying22 hi hz0 hz1 hz2 rfl (by decide) _ 0 [] rfl (World.ownsRow_lit _ #[] 0 S1.out (by unfold maxLen; omega) rfl) w.heap.size a0 len0 cap0 (bs.map v8) rfl R1.out (oneCell_v8 _) hm0.out hb0.out (by have := S1.out; simp; omega) ?_
       intro v2 w2 hown2 hg2 hat2
       simp only [Nat.zero_add, List.nil_append] at hown2
       obtain ⟨A2, c2, rfl, hc2⟩ := own_cap hown2
       have hb2 : Below w.heap.size w w2 := (HB1.out.alloc S1.out _).grown hg2 (by have := S1.out; simp; omega) (fun q hq => by injection (show some w1.heap.size = some q from hq) with hq; rw [← hq]; exact S1.out)
       have O2 := Lib.hid hown2
       have B2 := Lib.hid hb2
       clear hown2 hg2 hat2 hb2 hc2))
  go_loopw [7, 8] (fun o i wr => ∃ (k n : Nat) (xs : List B8) (Ao : Option Addr) (co : Nat), i = .int .i64 (k : Int) ∧ o = .slice Ao n co ∧ k ≤ N ∧ n = len0 + k ∧ wr.ownsRow w.heap.size 5 1 (.slice Ao n co) n (xs.map v8) ∧ xs.length = n ∧ Below w.heap.size w wr) (fun _ i _ => N - (intOf i).toNat)
  case atStart => exact ⟨0, len0, bs, A2, c2, rfl, rfl, Nat.zero_le _, rfl, O2.out, HR.out.len, B2.out⟩
  case round =>
    obtain ⟨k, n, xs, Ao, co, rfl, rfl, hk, hn, hown, hxl, hb⟩ := hrel
    have HO := Lib.hid hown
    have HB := Lib.hid hb
    have HK := Lib.hid hk
    have HN := Lib.hid hn
    have hn2 := HN2.out
    have hkb : k ≤ 3695 := by omega
    have hnb : n ≤ 3895 := by omega
    by_cases hlt : k < N
    · have hltI : (k : Int) < (N : Int) := by omega
      obtain ⟨Q, hQ⟩ : ∃ Q, Q = wrap64 ((k : Int) * (k : Int)) := ⟨_, rfl⟩
      obtain ⟨z, hz⟩ : ∃ z, (y + Q.tmod 7) % 256 = I8 z := I8.of (Int.emod_nonneg (y + Q.tmod 7) (by decide : (256 : Int) ≠ 0)) (Int.le_of_lt_add_one (Int.emod_lt_of_pos (y + Q.tmod 7) (by decide : (0 : Int) < 256)))
      have hwr : wrap64 ((k : Int) * (k : Int)) = Q := hQ.symm
      have hmx : Hid (n + 1 ≤ maxLen) := by show _ ≤ _; unfold maxLen; omega
      have hby : Hid ((n + 1) * 1 ≤ 140737488355328) := by show _ ≤ _; omega
      have hA : Hid (w.heap.size ≤ (wr.alloc (.cells #[.int .u8 (I8 z)] 5)).heap.size) := by show _ ≤ _; have := hb.size; simp; omega
      clear hown hb hk hn hn2 hQ
      go_wp2_with (first
        | (at_builtin
           refine wpList_append_any _ rfl (.tmp 29) (.tmp 37) 22 rfl w.heap.size 5 i0 (.int .u8 0) 1 1 Try.underlying22 hi hz0 hz1 hz2 rfl (by decide) _ n _ rfl (HO.out.alloc _) (wr.heap.size + 1) _ 1 1 ([z].map v8) rfl (rd_lit wr [z] _ 5 (0, 0) rfl) (oneCell_v8 _) hmx.out hby.out hA.out ?_
           intro v2 w2 hown2 hg2 hat2
           obtain ⟨A3, c3, rfl, O3, B3⟩ := grown_own (HB.out.alloc HB.out.size _) hA.out (HO.out.alloc _) hown2 hg2
           clear hown2 hg2 hat2))
      refine ⟨⟨k + 1, n + 1, xs ++ [z], A3, c3, by congr 1, rfl, hlt, by have := HN.out; omega, O3.out, ?_, B3.out⟩, ?_⟩
      · rw [List.length_append, hxl]; rfl
      · simp only [intOf]; omega
    · obtain rfl : k = N := by omega
      have R3 := Lib.hid (HR.out.below hb)
      have S3 := Lib.hid hb.size
      obtain ⟨T, hT⟩ : ∃ T, T = n + len0 := ⟨_, rfl⟩
      have hmx : Hid (n + len0 ≤ maxLen) := by show _ ≤ _; unfold maxLen; omega
      have hby : Hid ((n + len0) * 1 ≤ 140737488355328) := by show _ ≤ _; omega
      have hTb : T ≤ 4096 := by omega
      have HT := Lib.hid hT
      have HTB := Lib.hid hTb
      obtain ⟨X, hX⟩ : ∃ X, X = xs ++ bs := ⟨_, rfl⟩
      have hXl : X.length = T := by rw [hX, List.length_append, hxl, HR.out.len, hT]
      have HX := Lib.hid hX
      have HXL := Lib.hid hXl
      have SP := Lib.hid (says_pack X (T : Int) (by omega) (by rw [hXl]))
      have PL := Lib.hid (pack_length X (by omega))
      generalize hL : (pack X).length = L at *
      rw [hXl] at PL
      have HL := Lib.hid hL
      obtain ⟨M, hM⟩ : ∃ M : Nat, M = T + T / 255 + 16 := ⟨_, rfl⟩
      have MO : ∀ w, Hid (Calls Try.prog 15 #[.int .i64 (T : Int)] w fun e w' => e = .returned (.int .i64 (M : Int)) ∧ w = w') := fun w => by rw [hM]; exact most_any T w hTb
      have hLM : (L : Int) ≤ (M : Int) := by have := PL.out; omega
      clear hown hb hk hn hn2 hT hTb hX hXl hL hM
      go_wp2_with (first
        | (at_builtin
           refine wpList_append_any _ rfl (.tmp 39) (.tmp 40) 22 rfl w.heap.size 5 i0 (.int .u8 0) 1 1 Try.underlying22 hi hz0 hz1 hz2 rfl (by decide) _ n _ rfl HO.out w.heap.size a0 len0 cap0 (bs.map v8) rfl R3.out (oneCell_v8 _) hmx.out hby.out S3.out ?_
           intro v2 w2 hown2 hg2 hat2
           obtain ⟨A3, c3, rfl, O3, B3⟩ := grown_own HB.out S3.out HO.out hown2 hg2
           rw [← HX.out, ← HT.out] at O3
           rw [← HT.out]
           clear hown2 hg2 hat2))
      have hcap : T ≤ c3 := by
        obtain ⟨_, _, e, h⟩ := own_cap O3.out
        injection e with _ _ e
        omega
      have hrd := Rd.of_own O3.out
      have P := Lib.hid (pack_in A3 T c3 X w2 hrd hcap HTB.out)
      rw [HL.out] at P
      have RX := Lib.hid hrd
      clear hcap hrd
      with_reducible refine P.out.mono ?_
      rintro e w3 ⟨A4, c4, rfl, hr3, hb3, hc3⟩
      have hL2 : L ≤ 1000000 := by have := PL.out; have := HTB.out; omega
      have U := Lib.hid (unpack_any A4 L c4 (pack X) w3 hr3 hc3 hL2 (T : Int))
      have RX3 := Lib.hid ((RX.out.below hb3).more hb3.size)
      have RP3 := Lib.hid hr3
      have HB3 := Lib.hid (B3.out.trans (hb3.mono B3.out.size))
      have HL2 := Lib.hid hL2
      have HC3 := Lib.hid hc3
      clear hr3 hb3 hL2 hc3
      go_wp2_with fail
      with_reducible refine U.out.mono fun e w4 h => ?_
      obtain ⟨A5, c5, rfl, hc5, hr4, hb4⟩ := unpacked_good SP.out h
      rw [HXL.out] at hr4 ⊢
      have RX4 := Lib.hid ((RX3.out.below hb4).more hb4.size)
      have RP4 := Lib.hid ((RP3.out.below hb4).more hb4.size)
      have RU4 := Lib.hid hr4
      have HB4 := Lib.hid (HB3.out.trans (hb4.mono HB3.out.size))
      have U4 := Lib.hid (ref_any A4 L c4 (pack X) w4 RP4.out HC3.out HL2.out (T : Int))
      clear h hr4 hb4
      go_wp2_with fail
      with_reducible refine U4.out.mono fun e w5 h => ?_
      obtain ⟨A6, c6, rfl, hc6, hr5, hb5⟩ := unpacked_good SP.out h
      rw [HXL.out] at hr5 ⊢
      have HB5 := Lib.hid (HB4.out.trans (hb5.mono HB4.out.size))
      have s5 := conv_str (P := Try.prog) 22 9 5 (c := c6) Try.underlying22 Try.underlying5 Try.underlying9 hr5
      have s4 := conv_str (P := Try.prog) 22 9 5 (c := c5) Try.underlying22 Try.underlying5 Try.underlying9 (RU4.out.below hb5)
      have s0 := conv_str (P := Try.prog) 22 9 5 (c := c3) Try.underlying22 Try.underlying5 Try.underlying9 (RX4.out.below hb5)
      generalize hD : strOf X = D at *
      clear h hr5 hb5 hD
      go_wp2_with (go_at_call 15; with_reducible refine (MO _).out.mono ?_; rintro e w' ⟨rfl, rfl⟩)
      go_ret
      exact ⟨rfl, HB5.out⟩
end Go.Proofs.Ytkmcddfeadbahaa

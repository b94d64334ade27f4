/- Contract of the document's Plain. -/
import Derived.Test.YtkmcddfeadbahaaWrB
import Derived.Test.YtkmcddfeadbahaaRfB
import Derived.Deep.CutRange
namespace Go.Proofs.Ytkmcddfeadbahaa
open Go.RowKit
set_option linter.unusedVariables false

set_option maxRecDepth 100000 in
theorem plainO_small (A : Option Addr) (n c : Nat) (bs : List B8) (w : World) (hr : Rd w w.heap.size A n bs) (hn : n < 15) :
    Calls Try.prog 12 #[.slice A n c] w fun e w' => ∃ A' c', e = .returned (.slice A' (seqL bs).length c') ∧ w'.ownsRow w.heap.size 5 1 (.slice A' (seqL bs).length c') (seqL bs).length ((seqL bs).map v8) ∧ Below w.heap.size w w' ∧ (seqL bs).length ≤ c' := by
  obtain ⟨i0, hi, hz0, hz1, hz2⟩ := info_parts info5
  have hl := hr.len
  have hnI : (n : Int) < 15 := by omega
  have hcell : (#[Value.int .u8 ((n : Int) * 16)] : Array Value) = ([token n 0].map v8).toArray := by
    have := tok_cell n 0 (n * 16) (by omega)
    rw [← this]; congr 1
  have O1 : Hid ((w.alloc (.cells #[.int .u8 ((n : Int) * 16)] 5)).ownsRow w.heap.size 5 1 (.slice (some ⟨w.heap.size, 0, none⟩) 1 1) 1 ([token n 0].map v8)) := by
    show World.ownsRow _ _ _ _ _ _ _
    rw [hcell]
    exact World.ownsRow_lit w _ 1 (Nat.le_refl _) (by unfold maxLen; omega) rfl
  have R1 := Lib.hid (hr.alloc (Nat.le_refl _) (.cells #[.int .u8 ((n : Int) * 16)] 5))
  have hmx : Hid (1 + n ≤ maxLen) := by show _ ≤ _; unfold maxLen; omega
  have hby : Hid ((1 + n) * 1 ≤ 140737488355328) := by show _ ≤ _; omega
  have hseq : seqL bs = [token n 0] ++ bs := by unfold seqL lenE; rw [hl, if_pos hn]; rfl
  have hsl : (seqL bs).length = 1 + n := by rw [hseq, List.length_append, hl]; rfl
  rw [hsl]
  have HSQ := Lib.hid hseq
  clear hcell hr hl hseq hsl hn
  go_enter Try.func12, Try.ntmps12
  go_wp2_with (first
    | (at_builtin
       refine wpList_append_any _ rfl (.tmp 28) (.tmp 29) 22 rfl w.heap.size 5 i0 (.int .u8 0) 1 1 Try.underlying22 hi hz0 hz1 hz2 rfl (by decide) _ 1 _ rfl O1.out w.heap.size A n c (bs.map v8) rfl R1.out (oneCell_v8 _) hmx.out hby.out (by simp) ?_
       intro v2 w2 hown2 hg2 hat2
       obtain ⟨A2, c2, rfl, O2, B2⟩ := grown_own ((Below.refl w.heap.size w).alloc (Nat.le_refl _) _) (by simp) O1.out hown2 hg2
       clear hown2 hg2 hat2))
  go_ret
  rw [HSQ.out]
  obtain ⟨_, _, e, hcap⟩ := own_cap O2.out
  injection e with _ _ e
  exact ⟨A2, c2, rfl, O2.out, B2.out, by omega⟩

set_option maxRecDepth 100000 in
theorem plainO_big (A : Option Addr) (k c : Nat) (bs : List B8) (w : World) (hr : Rd w w.heap.size A (k + 15) bs) (hn : k ≤ 5000) :
    Calls Try.prog 12 #[.slice A (k + 15) c] w fun e w' => ∃ A' c', e = .returned (.slice A' (seqL bs).length c') ∧ w'.ownsRow w.heap.size 5 1 (.slice A' (seqL bs).length c') (seqL bs).length ((seqL bs).map v8) ∧ Below w.heap.size w w' ∧ (seqL bs).length ≤ c' := by
  obtain ⟨i0, hi, hz0, hz1, hz2⟩ := info_parts info5
  have hl := hr.len
  have hnI : (15 : Int) ≤ (k : Int) + 15 := by omega
  have O1 : Hid ((w.alloc (.cells #[.int .u8 240] 5)).ownsRow w.heap.size 5 1 (.slice (some ⟨w.heap.size, 0, none⟩) 1 1) 1 ([240#8].map v8)) :=
    World.ownsRow_lit w _ 1 (Nat.le_refl _) (by unfold maxLen; omega) rfl
  have B1 : Hid (Below w.heap.size w (w.alloc (.cells #[.int .u8 240] 5))) := (Below.refl w.heap.size w).alloc (Nat.le_refl _) _
  have HR := Lib.hid hr
  have HLL := Lib.hid hl
  clear hr hl
  go_enter Try.func12, Try.ntmps12
  go_upto_region 2 with fail
  go_cut [4] from 7 to 11 (fun o wx => o = .slice (some ⟨w.heap.size, 0, none⟩) 1 1 ∧ w.alloc (.cells #[.int .u8 240] 5) = wx)
  case first =>
    go_wp2_with fail
    all_goals
      go_meet
      refine ⟨rfl, ?_⟩
      first
        | rfl
        | (obtain rfl : k = 0 := by omega
           rfl)
  case rest =>
  obtain ⟨rfl, rfl⟩ := hcut
  go_wp2_with fail
  go_loopw [3, 4] (fun m o wr => ∃ (z q : Nat) (Ao : Option Addr) (co : Nat), m = .int .i64 (z : Int) ∧ o = .slice Ao (1 + q) co ∧ z + 255 * q = k ∧ wr.ownsRow w.heap.size 5 1 (.slice Ao (1 + q) co) (1 + q) ((240#8 :: List.replicate q 255#8).map v8) ∧ Below w.heap.size w wr) (fun m _ _ => (intOf m).toNat)
  case atStart => exact ⟨k, 0, some ⟨w.heap.size, 0, none⟩, 1, by first | rfl | (congr 1; omega), rfl, rfl, O1.out, B1.out⟩
  case round =>
    obtain ⟨z, q, Ao, co, rfl, rfl, hzq, hown, hbl⟩ := hrel
    have HO := Lib.hid hown
    have HB := Lib.hid hbl
    have hmx : Hid (1 + q + 1 ≤ maxLen) := by show _ ≤ _; unfold maxLen; omega
    have hby : Hid ((1 + q + 1) * 1 ≤ 140737488355328) := by show _ ≤ _; omega
    have hzk : z ≤ 5000 := by omega
    have HZ := Lib.hid hzq
    by_cases hge : 255 ≤ z
    · have hgI : (255 : Int) ≤ (z : Int) := by omega
      have hA : Hid (w.heap.size ≤ (wr.alloc (.cells #[.int .u8 255] 5)).heap.size) := by show _ ≤ _; have := hbl.size; simp; omega
      have hzI : Hid (wrap64 ((z : Int) - 255) = ((z - 255 : Nat) : Int)) := by show _ = _; rw [IntWalk.wrap64_in _ (by omega)]; omega
      clear hown hbl hzq hge
      go_wp2_with (first
        | (at_builtin
           refine wpList_append_any _ rfl (.tmp 20) (.tmp 21) 22 rfl w.heap.size 5 i0 (.int .u8 0) 1 1 Try.underlying22 hi hz0 hz1 hz2 rfl (by decide) _ (1 + q) _ rfl (HO.out.alloc _) (wr.heap.size + 1) _ 1 1 ([255#8].map v8) rfl (rd_lit wr [255#8] _ 5 (0, 0) rfl) (oneCell_v8 _) hmx.out hby.out hA.out ?_
           intro v2 w2 hown2 hg2 hat2
           obtain ⟨A2, c2, rfl, O2, B2⟩ := grown_own (HB.out.alloc HB.out.size _) hA.out (HO.out.alloc _) hown2 hg2
           clear hown2 hg2 hat2))
      have hzq := HZ.out
      first
        | rw [hzI.out]
        | skip
      refine ⟨⟨z - 255, q + 1, A2, c2, ?_, rfl, by omega, ?_, B2.out⟩, ?_⟩
      · congr 1; omega
      · rw [List.replicate_succ', ← List.cons_append]
        exact O2.out
      · simp only [intOf]; omega
    · have hgI : (z : Int) < 255 := by omega
      have hzz : z = k % 255 ∧ q = k / 255 := by omega
      have HZZ := Lib.hid hzz
      have hcell : Hid ((#[Value.int .u8 (z : Int)] : Array Value) = ([BitVec.ofNat 8 z].map v8).toArray) := by show _ = _; rw [show (z : Int) = I8 (BitVec.ofNat 8 z) from by have := low8 z (by omega); omega]; rfl
      have hA : Hid (w.heap.size ≤ (wr.alloc (.cells #[.int .u8 (z : Int)] 5)).heap.size) := by show _ ≤ _; have := hbl.size; simp; omega
      obtain ⟨zb, hzb⟩ : ∃ zb, zb = BitVec.ofNat 8 z := ⟨_, rfl⟩
      rw [← hzb] at hcell
      have HZB := Lib.hid hzb
      have hm2 : Hid (1 + q + 1 + (k + 15) ≤ maxLen) := by show _ ≤ _; unfold maxLen; omega
      have hy2 : Hid ((1 + q + 1 + (k + 15)) * 1 ≤ 140737488355328) := by show _ ≤ _; omega
      clear hown hbl hzq hge hzz hzb
      go_wp2_with (first
        | (at_builtin
           refine wpList_append_any _ rfl (.tmp 23) (.tmp 26) 22 rfl w.heap.size 5 i0 (.int .u8 0) 1 1 Try.underlying22 hi hz0 hz1 hz2 rfl (by decide) _ (1 + q) _ rfl (HO.out.alloc _) (wr.heap.size + 1) _ 1 1 ([zb].map v8) rfl (rd_lit wr [zb] _ 5 (0, 0) hcell.out) (oneCell_v8 _) hmx.out hby.out hA.out ?_
           intro v2 w2 hown2 hg2 hat2
           obtain ⟨A2, c2, rfl, O2, B2⟩ := grown_own (HB.out.alloc HB.out.size _) hA.out (HO.out.alloc _) hown2 hg2
           have R2 := Lib.hid (HR.out.below B2.out)
           have S2 := Lib.hid B2.out.size
           clear hown2 hg2 hat2)
        | (at_builtin
           refine wpList_append_any _ rfl (.tmp 28) (.tmp 29) 22 rfl w.heap.size 5 i0 (.int .u8 0) 1 1 Try.underlying22 hi hz0 hz1 hz2 rfl (by decide) _ (1 + q + 1) _ rfl O2.out w.heap.size A (k + 15) c (bs.map v8) rfl R2.out (oneCell_v8 _) hm2.out hy2.out S2.out ?_
           intro v3 w3 hown3 hg3 hat3
           obtain ⟨A3, c3, rfl, O3, B3⟩ := grown_own B2.out S2.out O2.out hown3 hg3
           clear hown3 hg3 hat3))
      go_ret
      obtain ⟨e1, e2⟩ := HZZ.out
      have hseq : seqL bs = (240#8 :: List.replicate q 255#8) ++ [zb] ++ bs := by
        unfold seqL lenE token
        rw [HLL.out, if_neg (by omega), Nat.min_eq_right (by omega), show k + 15 - 15 = k by omega, ← e2, ← e1, ← HZB.out]
        rfl
      have hsl : (seqL bs).length = 1 + q + 1 + (k + 15) := by rw [hseq]; have := HLL.out; simp; omega
      rw [hsl, hseq]
      obtain ⟨_, _, e, hcap⟩ := own_cap O3.out
      injection e with _ _ e
      exact ⟨A3, c3, rfl, O3.out, B3.out, by omega⟩

/-- What Plain returns. -/
theorem plainO_any (A : Option Addr) (n c : Nat) (bs : List B8) (w : World) (hr : Rd w w.heap.size A n bs) (hn : n ≤ 5000) :
    Calls Try.prog 12 #[.slice A n c] w fun e w' => ∃ A' c', e = .returned (.slice A' (seqL bs).length c') ∧ w'.ownsRow w.heap.size 5 1 (.slice A' (seqL bs).length c') (seqL bs).length ((seqL bs).map v8) ∧ Below w.heap.size w w' ∧ (seqL bs).length ≤ c' := by
  by_cases h : n < 15
  · exact plainO_small A n c bs w hr h
  · obtain ⟨k, rfl⟩ : ∃ k, n = k + 15 := ⟨n - 15, by omega⟩
    exact plainO_big A k c bs w hr (by omega)
end Go.Proofs.Ytkmcddfeadbahaa

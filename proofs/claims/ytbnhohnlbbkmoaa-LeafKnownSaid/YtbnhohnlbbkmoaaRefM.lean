/- Contract of the document's Make. -/
import Derived.Test.YtbnhohnlbbkmoaaLeafW
import Derived.WalkSpells
import Derived.Outline
namespace Go.Proofs.Ytbnhohnlbbkmoaa
open Go.RowKit
set_option linter.unusedVariables false

theorem refMake_gen (kind : B8) (gen : Int) (A : Option Addr) (n c : Nat) (w : World) (hg : gen < 0 ∨ 2147483647 < gen) :
    Calls Try.prog 24 #[.int .u8 (I8 kind), .int .i64 gen, .slice A n c] w fun e w' => e = .returned (.tuple #[.slice none 0 0, .int .i64 1]) ∧ w = w' := by
  by_cases h0 : gen < 0
  · clear hg
    go_enter Try.func24, Try.ntmps24
    go_wp2
    go_ret2
    exact ⟨rfl, rfl⟩
  · have h1 : 2147483647 < gen := by omega
    have h2 : 0 ≤ gen := by omega
    clear hg h0
    go_enter Try.func24, Try.ntmps24
    go_wp2
    go_ret2
    exact ⟨rfl, rfl⟩
theorem refMake_long (kind : B8) (gen : Int) (A : Option Addr) (n c : Nat) (w : World) (hg : ¬ (gen < 0 ∨ 2147483647 < gen)) (hn : 4096 < n) (hm : n ≤ 1000000) :
    Calls Try.prog 24 #[.int .u8 (I8 kind), .int .i64 gen, .slice A n c] w fun e w' => e = .returned (.tuple #[.slice none 0 0, .int .i64 3]) ∧ w = w' := by
  have h1 : gen ≤ 2147483647 := by omega
  have h2 : 0 ≤ gen := by omega
  clear hg
  go_enter Try.func24, Try.ntmps24
  go_wp2
  go_ret2
  exact ⟨rfl, rfl⟩

set_option maxHeartbeats 2000000 in
theorem refMake_ok (kind : B8) (gen : B32) (A : Option Addr) (n c : Nat) (ds : List B8) (w : World) (hr : Rd w w.heap.size A n ds) (hn : n ≤ 4096) (hg : I32 gen ≤ 2147483647) :
    Calls Try.prog 24 #[.int .u8 (I8 kind), .int .i64 (I32 gen), .slice A n c] w fun e w' =>
      ∃ A' c', e = .returned (.tuple #[.slice A' (64 * blocksN n) c', .int .i64 0]) ∧ Rd w' w'.heap.size A' (64 * blocksN n) (frame kind gen ds) ∧ Below w.heap.size w w' := by
  obtain ⟨i0, hi, hz0, hz1, hz2⟩ := info_parts info5
  have hg0 := (I32.bd gen).1
  have hk := I8.bd kind
  have hlen := len32_eq (n := n) (by omega)
  have hlen2 := Lib.hid hr.len
  have L1 := fun W => Lib.hid (le_any (I32 gen) gen W rfl)
  have L2 := fun W => Lib.hid (le_any (n : Int) (len32 n) W hlen)
  clear hlen
  go_enter Try.func24, Try.ntmps24
  go_wp2_with fail
  refine (L1 _).out.mono ?_
  rintro e w' ⟨rfl, rfl⟩
  have o1 := World.ownsRow_lit (base := w.heap.size) (e := 5) (size := 1) w (([0xc5#8, 0x7e#8, kind, 0#8].map v8).toArray) 4 (Nat.le_refl _) (by unfold maxLen; omega) rfl
  have O1 := Lib.hid (o1.alloc (.cells (leCells gen) 5))
  have Rg := Lib.hid (rd_new (w.alloc (.cells (([0xc5#8, 0x7e#8, kind, 0#8].map v8).toArray) 5)) (w.heap.size + 1) (leB gen) (leCells gen) 5 (0, 0) (by simp) rfl)
  clear o1
  go_wp2_with (first
    | (at_builtin
       refine wpList_append_any _ rfl (.tmp 20) (.tmp 22) 22 rfl w.heap.size 5 i0 (.int .u8 0) 1 1 Try.underlying22 hi hz0 hz1 hz2 rfl (by decide) _ 4 _ rfl O1.out (w.heap.size + 1 + 1) _ 4 4 ((leB gen).map v8) rfl Rg.out (oneCell_v8 _) (by unfold maxLen; omega) (by omega) (by simp; omega) ?_
       intro v2 w2 hown2 hg2 hat2))
  have hs2 : w.heap.size + 1 + 1 ≤ w2.heap.size := by have := hg2.size; simp at this; omega
  have hb2 : Below w.heap.size w w2 := (((Below.refl _ _).alloc (Nat.le_refl _) _).alloc (by simp) _).grown hg2 (by simp; omega) (fun q hq => by injection (show some w.heap.size = some q from hq) with hq; omega)
  have hl2 := fun q hq => (hown2.lt q hq).1
  have O2 := Lib.hid (hown2.alloc (.cells (leCells (len32 n)) 5))
  have Rn := Lib.hid (rd_new w2 w2.heap.size (leB (len32 n)) (leCells (len32 n)) 5 (0, 0) rfl rfl)
  clear hat2 hg2 hown2 O1 Rg
  refine (L2 _).out.mono ?_
  rintro e w' ⟨rfl, rfl⟩
  go_wp2_with (first
    | (at_builtin
       refine wpList_append_any _ rfl (.tmp 23) (.tmp 26) 22 rfl w.heap.size 5 i0 (.int .u8 0) 1 1 Try.underlying22 hi hz0 hz1 hz2 rfl (by decide) _ 8 _ rfl O2.out (w2.heap.size + 1) _ 4 4 ((leB (len32 n)).map v8) rfl Rn.out (oneCell_v8 _) (by unfold maxLen; omega) (by omega) (by simp; omega) ?_
       intro v3 w3 hown3 hg3 hat3))
  have hs3 : w2.heap.size + 1 ≤ w3.heap.size := by have := hg3.size; simp at this; omega
  have hb3 : Below w.heap.size w w3 := (hb2.alloc (by omega) _).grown hg3 (by simp; omega) (fun q hq => hl2 q hq)
  have e3 : (([0xc5#8, 0x7e#8, kind, 0#8].map v8).toArray.toList ++ (leB gen).map v8) ++ (leB (len32 n)).map v8 = (head12 kind gen (len32 n)).map v8 := rfl
  rw [e3] at hown3
  obtain ⟨A3, c3, rfl⟩ := own_slice hown3
  have r3 := Rd.of_own hown3
  have SU := Lib.hid (refSum_any A3 12 c3 _ _ w3 r3 (by omega))
  have MO := Lib.hid (refMore_any (sum (head12 kind gen (len32 n))) A n c ds _ w3 (hr.below hb3) (by omega))
  have O3 := Lib.hid hown3
  clear hat3 hg3 hown3 r3 O2 Rn
  go_wp2_with (first
    | (go_at_call 18; refine SU.out.mono ?_; rintro e w' ⟨rfl, rfl⟩)
    | (go_at_call 19; refine MO.out.mono ?_; rintro e w' ⟨rfl, rfl⟩))
  obtain ⟨s, hsu⟩ : ∃ s, s = more (sum (head12 kind gen (len32 n))) ds := ⟨_, rfl⟩
  rw [← hsu]
  have HSU := Lib.hid hsu
  clear hsu
  have LS := Lib.hid (le_any (wrap64 (I32 s)) s w3 (by have := I32.bd s; exact IntWalk.wrap64_in _ (by omega)))
  refine LS.out.mono ?_
  rintro e w' ⟨rfl, rfl⟩
  have O4 := Lib.hid (O3.out.alloc (.cells (leCells s) 5))
  have Rs := Lib.hid (rd_new w3 w3.heap.size (leB s) (leCells s) 5 (0, 0) rfl rfl)
  clear SU MO LS
  go_wp2_with (first
    | (at_builtin
       refine wpList_append_any _ rfl (.tmp 32) (.tmp 35) 22 rfl w.heap.size 5 i0 (.int .u8 0) 1 1 Try.underlying22 hi hz0 hz1 hz2 rfl (by decide) _ 12 _ rfl O4.out (w3.heap.size + 1) _ 4 4 ((leB s).map v8) rfl Rs.out (oneCell_v8 _) (by unfold maxLen; omega) (by omega) (by simp; omega) ?_
       intro v4 w4 hown4 hg4 hat4
       have hb4 : Below w.heap.size w w4 := (hb3.alloc (by omega) _).grown hg4 (by simp; omega) (fun q hq => (O3.out.lt q hq).1)
       have hs4 : w3.heap.size + 1 ≤ w4.heap.size := by have := hg4.size; simp at this; omega
       have O5 := Lib.hid hown4
       clear hat4 hg4 hown4)
    | (at_builtin
       refine wpList_append_any _ rfl (.tmp 36) (.tmp 37) 22 rfl w.heap.size 5 i0 (.int .u8 0) 1 1 Try.underlying22 hi hz0 hz1 hz2 rfl (by decide) _ 16 _ rfl O5.out w.heap.size A n c (ds.map v8) rfl (hr.below hb4) (oneCell_v8 _) (by unfold maxLen; omega) (by omega) (by omega) ?_
       intro v5 w5 hown5 hg5 hat5))
  obtain ⟨A5, c5, rfl⟩ := own_slice hown5
  have hb5 : Below w.heap.size w w5 := hb4.grown hg5 hb4.size (fun q hq => (O5.out.lt q hq).1)
  obtain ⟨H, hH⟩ : ∃ H, H = head12 kind gen (len32 n) ++ leB s ++ ds := ⟨_, rfl⟩
  have e5 : (head12 kind gen (len32 n)).map v8 ++ (leB s).map v8 ++ ds.map v8 = H.map v8 := by rw [hH, List.map_append, List.map_append]
  rw [e5] at hown5
  obtain ⟨S, hS⟩ : ∃ S, S = 64 * blocksN n := ⟨_, rfl⟩
  have hS2 : 16 + n ≤ S ∧ S < 16 + n + 64 ∧ S % 64 = 0 ∧ S ≤ 4160 := by rw [hS]; unfold blocksN; omega
  have OW := Lib.hid hown5
  have BW := Lib.hid hb5
  have HH := Lib.hid hH
  have HS := Lib.hid hS
  have HS2 := Lib.hid hS2
  clear hown5 hb5 hH hS hS2 hg5 hat5 e5 hb4 hs4 hs3 hs2 hb2 hl2 O3 O4 O5 Rs
  go_loopw [8] (fun v wr => ∃ (j : Nat) (Ax : Option Addr) (cx : Nat), v = .slice Ax (16 + n + j) cx ∧ 16 + n + j ≤ S ∧ wr.ownsRow w.heap.size 5 1 (.slice Ax (16 + n + j) cx) (16 + n + j) ((H ++ List.replicate j 0#8).map v8) ∧ Below w.heap.size w wr) (fun v _ => S - (match v with | .slice _ k _ => k | _ => 0))
  case atStart => exact ⟨0, A5, c5, rfl, HS2.out.1, by rw [List.replicate_zero, List.append_nil]; exact OW.out, BW.out⟩
  case round =>
    obtain ⟨j, Ax, cx, rfl, hj, hown, hbl⟩ := hrel
    by_cases hlt : 16 + n + j < S
    · have hs := HS2.out
      have hmx : Hid (16 + n + j + 1 ≤ maxLen) := by show _ ≤ _; unfold maxLen; omega
      have hby : Hid ((16 + n + j + 1) * 1 ≤ 140737488355328) := by show _ ≤ _; omega
      have hba : w.heap.size ≤ (wr.alloc (.cells #[.int .u8 0] 5)).heap.size := by have := hbl.size; simp; omega
      have hrem : ((16 + (n : Int) + (j : Int)) % 64 != 0) = true := by rw [bne_iff_ne]; omega
      have OWN := Lib.hid hown
      have HJ := Lib.hid hj
      have HBL := Lib.hid hbl
      clear hs hj
      go_wp2_with (first
        | (at_builtin
           refine wpList_append_any _ rfl (.tmp 43) (.tmp 44) 22 rfl w.heap.size 5 i0 (.int .u8 0) 1 1 Try.underlying22 hi hz0 hz1 hz2 rfl (by decide) _ (16 + n + j) _ rfl (hown.alloc _) (wr.heap.size + 1) _ 1 1 ([0#8].map v8) rfl (rd_lit wr [0#8] _ 5 (0, 0) rfl) (oneCell_v8 _) hmx.out hby.out hba ?_
           intro v6 w6 hown6 hg6 hat6
           obtain ⟨A6, c6, rfl⟩ := own_slice hown6
           have OW6 := Lib.hid hown6
           have HG6 := Lib.hid hg6
           clear hown6 hg6 hat6 hown hbl))
      have hs := HS2.out
      have hj := HJ.out
      refine ⟨⟨j + 1, A6, c6, rfl, by omega, ?_, (HBL.out.alloc HBL.out.size _).grown HG6.out hba (fun q hq => (OWN.out.lt q hq).1)⟩, ?_⟩
      · rw [List.replicate_succ', ← List.append_assoc, List.map_append]
        exact OW6.out
      · show S - (16 + n + j + 1) < S - (16 + n + j)
        omega
    · have hs := HS2.out
      have hjS : 16 + n + j = S := by omega
      have hrem : ((16 + (n : Int) + (j : Int)) % 64 != 0) = false := by rw [bne_eq_false_iff_eq]; omega
      have HJ := Lib.hid hjS
      have OWN := Lib.hid hown
      have HBL := Lib.hid hbl
      clear hs hj hjS hlt hown hbl
      go_wp2_with fail
      go_ret2
      have hj := HJ.out
      have hS := HS.out
      refine ⟨Ax, cx, by rw [← hS, ← hj]; rfl, ?_, HBL.out⟩
      have e : H ++ List.replicate j 0#8 = frame kind gen ds := by
        rw [HH.out, HSU.out]
        unfold frame frameSum
        rw [hlen2.out, ← hS]
        congr 2
        omega
      rw [← hS, ← hj, ← e]
      exact Rd.of_own OWN.out
end Go.Proofs.Ytbnhohnlbbkmoaa

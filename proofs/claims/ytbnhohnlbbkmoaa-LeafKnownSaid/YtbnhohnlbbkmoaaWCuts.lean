/- The walk of LeafCuts. -/
import Derived.Test.YtbnhohnlbbkmoaaAw5
import Derived.WalkSpells
import Derived.Outline
namespace Go.Proofs.Ytbnhohnlbbkmoaa
open Go.RowKit
set_option linter.unusedVariables false

theorem bt_pre {a b : List B8} {i : Nat} (h : i < a.length) : bt (a ++ b) i = bt a i := by
  unfold bt
  rw [List.getD_eq_getElem?_getD, List.getD_eq_getElem?_getD, List.getElem?_append_left h]
theorem bt_take {a : List B8} {k i : Nat} (h : i < k) : bt (a.take k) i = bt a i := by
  unfold bt
  rw [List.getD_eq_getElem?_getD, List.getD_eq_getElem?_getD, List.getElem?_take, if_pos h]
theorem numAt_same {a b : List B8} {o : Nat} (h : ∀ i, i < o + 4 → bt a i = bt b i) : numAt a o = numAt b o := by
  unfold numAt
  rw [h o (by omega), h (o + 1) (by omega), h (o + 2) (by omega), h (o + 3) (by omega)]
theorem head_same {a b : List B8} (ha : 16 ≤ a.length) (hb : 16 ≤ b.length) (h : ∀ i, i < 12 → bt a i = bt b i) : headE a = headE b ∧ manyN a = manyN b := by
  unfold headE manyN
  rw [if_neg (show ¬ a.length < 16 by omega), if_neg (show ¬ b.length < 16 by omega), h 0 (by omega), h 1 (by omega), h 3 (by omega), numAt_same (a := a) (b := b) (o := 8) (fun i hi => h i (by omega)), numAt_same (a := a) (b := b) (o := 4) (fun i hi => h i (by omega))]
  exact ⟨rfl, rfl⟩

theorem cut_short (kind kind' : B8) (gen : B32) (ds : List B8) (k : Nat) (h : ds.length ≤ 4096) (hg : I32 gen ≤ 2147483647) (hk : k < 64 * blocksN ds.length) : openE ((frame kind gen ds).take k) kind' = 2 := by
  have hl := frame_length kind gen ds
  have ht : ((frame kind gen ds).take k).length = k := by rw [List.length_take]; omega
  by_cases h16 : k < 16
  · have e : headE ((frame kind gen ds).take k) = 2 := by unfold headE; rw [if_pos (by omega)]
    unfold openE
    rw [if_pos (by rw [e]; decide), e]
  · obtain ⟨e1, e2⟩ := head_same (a := (frame kind gen ds).take k) (b := frame kind gen ds) (by omega) (by omega) (fun i hi => bt_take (by omega))
    unfold openE
    rw [e1, e2, frame_head _ _ _ h hg, frame_many _ _ _ h, ht, if_neg (by decide), if_neg (by omega), if_pos hk]
theorem cut_long (kind kind' : B8) (gen : B32) (ds xs : List B8) (h : ds.length ≤ 4096) (hg : I32 gen ≤ 2147483647) (hx : 0 < xs.length) : openE (frame kind gen ds ++ xs) kind' = 3 := by
  have hl := frame_length kind gen ds
  have hb : 16 ≤ 64 * blocksN ds.length := by unfold blocksN; omega
  have ht : (frame kind gen ds ++ xs).length = 64 * blocksN ds.length + xs.length := by rw [List.length_append]; omega
  obtain ⟨e1, e2⟩ := head_same (a := frame kind gen ds ++ xs) (b := frame kind gen ds) (by omega) (by omega) (fun i hi => bt_pre (by omega))
  unfold openE
  rw [e1, e2, frame_head _ _ _ h hg, frame_many _ _ _ h, ht, if_neg (by decide), if_pos (by omega)]

/-- Make a frame in a world that still knows the data. -/
theorem make_frame (kind : B8) (gen : B32) (g : Int) (A : Option Addr) (n c : Nat) (ds : List B8) (B : Nat) (w w1 : World) (hr : Rd w w.heap.size A n ds) (hb : Below w.heap.size w w1) (hn : n ≤ 4096) (hg : I32 gen ≤ 2147483647) (hge : g = I32 gen) :
    Calls Try.prog 21 #[.int .u8 (I8 kind), .int .i64 g, .slice A n c] w1 fun e w' =>
      e = .returned (.tuple #[.slice (some ⟨w1.heap.size, 0, none⟩) (64 * blocksN n) (64 * blocksN n), .int .i64 0]) ∧ w'.heap[w1.heap.size]? = some (.cells ((frame kind gen ds).map v8).toArray 5 (0, 0)) ∧ Below w1.heap.size w1 w' := by
  subst hge
  exact make_ok kind gen A n c ds w1 ((hr.below hb).more hb.size) hn hg
theorem own_cap {w : World} {base e n : Nat} {v : Value} {xs : List Value} (h : w.ownsRow base e 1 v n xs) : ∃ A c, v = .slice A n c ∧ n ≤ c := by
  rcases h.2 with ⟨rfl, h0⟩ | ⟨g, cap, cur, rfl, _, _, hc, _⟩
  · exact ⟨none, 0, by rw [h0], by omega⟩
  · exact ⟨_, _, rfl, hc⟩
theorem kind_bit (k : B8) : k ≠ k ^^^ 1#8 := by
  intro h
  have : k ^^^ k = k ^^^ (k ^^^ 1#8) := congrArg (k ^^^ ·) h
  rw [BitVec.xor_self, ← BitVec.xor_assoc, BitVec.xor_self, BitVec.zero_xor] at this
  exact absurd this (by decide)

theorem walkCuts (kind : B8) (a0 : Option Addr) (len0 cap0 : Nat) (a2 : Int) (w : World) (bs : List B8) (hlc : len0 ≤ cap0) (hr : Rd w w.heap.size a0 len0 bs) (ha2 : 0 ≤ a2 ∧ a2 ≤ 65535) :
    Calls Try.prog 10 #[.int .u8 (I8 kind), .slice a0 len0 cap0, .int .u16 a2] w fun e w' => e = .returned (.bool true) ∧ Below w.heap.size w w' := by
  by_cases hhi : 2000 < len0
  · go_enter Try.func10, Try.ntmps10
    go_wp2_with (go_at_call 20; refine (awake5 _).mono ?_; rintro e w1 ⟨rfl, hb1⟩)
    go_ret
    exact ⟨rfl, hb1⟩
  obtain ⟨i0, hi, hz0, hz1, hz2⟩ := info_parts info5
  have hl := hr.len
  have hkb := I8.bd kind
  have MK := fun w1 hb => Lib.hid (make_frame kind 9#32 9 a0 len0 cap0 bs 0 w w1 hr hb (by omega) (by decide) (by decide))
  have hFl := frame_length kind 9#32 bs
  rw [hl] at hFl
  have HS : Hid (∀ k, k < 64 * blocksN len0 → openE ((frame kind 9#32 bs).take k) kind = 2) := fun k hk => cut_short kind kind 9#32 bs k (by omega) (by decide) (by rw [hl]; exact hk)
  have HL : Hid (openE (frame kind 9#32 bs ++ [0#8]) kind = 3) := cut_long kind kind 9#32 bs [0#8] (by omega) (by decide) (by decide)
  have HF : Hid (openE (frame kind 9#32 bs) (kind ^^^ 1#8) = 4) := by
    show openE _ _ = 4
    rw [frame_openE _ _ _ _ (by omega) (by decide), if_neg (kind_bit kind)]
  obtain ⟨N, hN⟩ : ∃ N, N = 64 * blocksN len0 := ⟨_, rfl⟩
  have hN64 : 64 ≤ N ∧ N ≤ 2080 := by rw [hN]; unfold blocksN; omega
  rw [← hN] at MK hFl HS
  generalize frame kind 9#32 bs = F at *
  obtain ⟨K, hK⟩ : ∃ K : Nat, a2 % (N : Int) = (K : Int) := Int.eq_ofNat_of_zero_le (Int.emod_nonneg _ (by omega))
  have hKN : K < N := by have := Int.emod_lt_of_pos a2 (show (0 : Int) < (N : Int) by omega); omega
  have XK : bits .xor .u8 (I8 kind) 1 = I8 (kind ^^^ 1#8) := xor8 kind 1#8
  clear hN hl
  have HR := Lib.hid hr
  have HX := Lib.hid XK
  clear hr XK
  go_enter Try.func10, Try.ntmps10
  go_wp2_with (first
    | (go_at_call 20; refine (awake5 _).mono ?_; rintro e w1 ⟨rfl, hb1⟩)
    | (go_at_call 21; refine (MK _ hb1).out.mono ?_; rintro e w2 ⟨rfl, hf, hb2⟩))
  have hrf := block_rd hf hFl (by omega)
  have HF2 := Lib.hid hf
  have HO := Lib.hid (open_bad _ K N (F.take K) kind w2 (hrf.take (by omega)) (by omega) (by omega) 2 (HS.out K hKN) (by decide))
  clear hf hrf
  refine HO.out.mono ?_
  rintro e w3 ⟨A', c', rfl, hb3⟩
  have hs2 : w1.heap.size < w2.heap.size := by have := Array.getElem?_eq_some_iff.1 HF2.out; exact this.1
  have hf3 : w3.heap[w1.heap.size]? = some (.cells (F.map v8).toArray 5 (0, 0)) := (hb3.block _ hs2).trans HF2.out
  have hrf3 := block_rd hf3 hFl (by omega)
  have hB3 : Below w.heap.size w w3 := hb1.trans ((hb2.mono hb1.size).trans (hb3.mono (by have := hb1.size; omega)))
  have hs3 : w1.heap.size < w3.heap.size := by have := hb3.size; omega
  have HF3 := Lib.hid hf3
  have HRF3 := Lib.hid hrf3
  clear hf3 hrf3 HF2 HO hb1 hb2 hb3 hs2
  go_wp2_with (first
    | (at_builtin
       refine wpList_append_any _ rfl (.tmp 50) (.tmp 51) 22 rfl w3.heap.size 5 i0 (.int .u8 0) 1 1 Try.underlying22 hi hz0 hz1 hz2 rfl (by decide) _ 0 [] rfl (World.ownsRow_lit _ #[] 0 (Nat.le_refl _) (by unfold maxLen; omega) rfl) w3.heap.size _ N N (F.map v8) rfl (HRF3.out.alloc (Nat.le_refl _) _) (oneCell_v8 F) (by unfold maxLen; omega) (by omega) (by simp) ?_
       intro v4 w4 hown4 hg4 hat4
       simp only [Nat.zero_add, List.nil_append] at hown4
       have hb4 : Below w3.heap.size w3 w4 := ((Below.refl _ _).alloc (Nat.le_refl _) _).grown hg4 (by simp) (fun q hq => by injection (show some w3.heap.size = some q from hq) with hq; omega)
       clear hat4 hg4)
    | (at_builtin
       refine wpList_append_any _ rfl (.tmp 52) (.tmp 53) 22 rfl w3.heap.size 5 i0 (.int .u8 0) 1 1 Try.underlying22 hi hz0 hz1 hz2 rfl (by decide) _ N (F.map v8) rfl (hown4.alloc _) (w4.heap.size + 1) _ 1 1 ([0#8].map v8) rfl (rd_lit w4 [0#8] _ 5 (0, 0) rfl) (oneCell_v8 [0#8]) (by unfold maxLen; omega) (by omega) (by have := hb4.size; simp; omega) ?_
       intro v5 w5 hown5 hg5 hat5
       rw [← List.map_append] at hown5
       have hb5 : Below w3.heap.size w3 w5 := (hb4.alloc hb4.size _).grown hg5 (by have := hb4.size; simp; omega) (fun q hq => (hown4.lt q hq).1)
       clear hat5 hg5))
  obtain ⟨A5, c5, rfl, hc5⟩ := own_cap hown5
  have hrf5 := Rd.of_own hown5
  have HO5 := Lib.hid (open_bad A5 (N + 1) c5 (F ++ [0#8]) kind w5 hrf5 hc5 (by omega) 3 HL.out (by decide))
  clear hown4 hown5 hrf5 hb4
  refine HO5.out.mono ?_
  rintro e w6 ⟨A6, c6, rfl, hb6⟩
  have hB6 : Below w3.heap.size w3 w6 := hb5.trans (hb6.mono hb5.size)
  have hf6 : w6.heap[w1.heap.size]? = some (.cells (F.map v8).toArray 5 (0, 0)) := (hB6.block _ hs3).trans HF3.out
  have hrf6 := block_rd hf6 hFl (by omega)
  have HO6 := Lib.hid (open_bad _ N N F (kind ^^^ 1#8) w6 hrf6 (Nat.le_refl _) (by omega) 4 HF.out (by decide))
  have hB7 : Below w.heap.size w w6 := hB3.trans (hB6.mono hB3.size)
  clear hf6 hrf6 hb5 hb6 HF3 HRF3 HO5
  have hx := HX.out
  go_wp2_with fail
  clear hx
  refine HO6.out.mono ?_
  rintro e w7 ⟨A7, c7, rfl, hb7⟩
  go_wp2_with fail
  go_ret
  exact ⟨rfl, hB7.trans (hb7.mono hB7.size)⟩
end Go.Proofs.Ytbnhohnlbbkmoaa

/- The contract of Encode. -/
import Derived.Test.YthhgmanoifpoiaaCrP
import Derived.Deep.RegionWith
import Derived.Deep.Cut
namespace Go.Proofs.Ythhgmanoifpoiaa
open Go.RowKit
set_option linter.unusedVariables false

theorem own_block {w : World} {base g N : Nat} {xs : List Value} (h : w.ownsRow base 5 1 (.slice (some ⟨g, 0, none⟩) N N) N xs) : w.heap[g]? = some (.cells xs.toArray 5 (0, 0)) := by
  rcases h.2 with ⟨h', _⟩ | ⟨g', cap', cur, h', _, hg, _, _, hs, htake⟩
  · simp at h'
  · simp only [Value.slice.injEq, Option.some.injEq, Addr.mk.injEq, and_true, true_and] at h'
    obtain ⟨rfl, rfl⟩ := h'
    rw [hg, ← htake, List.take_of_length_le (by rw [Array.length_toList, hs]; exact Nat.le_refl _)]
theorem block_own {w : World} {base g N : Nat} {xs : List Value} (h : w.heap[g]? = some (.cells xs.toArray 5 (0, 0))) (hb : base ≤ g) (hl : xs.length = N) (hN : N ≤ 1000000) : w.ownsRow base 5 1 (.slice (some ⟨g, 0, none⟩) N N) N xs :=
  ⟨by omega, .inr ⟨g, N, xs.toArray, rfl, hb, h, Nat.le_refl _, by unfold maxLen; omega, by simp [hl], by simp; exact List.take_of_length_le (by omega)⟩⟩

theorem made {w w1 : World} {N : Nat} (hown1 : w1.ownsRow w.heap.size 5 1 (.slice (some ⟨w.heap.size, 0, none⟩) N N) N (madeCells (Value.int .u8 0).cells (N * 1)).toList) (hgr1 : w.grownBy w1 none) (hN : 64 ≤ N) :
    Below w.heap.size w w1 ∧ w1.ownsRow w.heap.size 5 1 (.slice (some ⟨w.heap.size, 0, none⟩) N N) N ((List.replicate N 0#8).map v8) ∧
      (∃ v, w1.cell? ⟨w.heap.size, 0, none⟩ = some v) ∧ (∃ v, w1.cell? ⟨w.heap.size, 1, none⟩ = some v) ∧ (∃ v, w1.cell? ⟨w.heap.size, 2, none⟩ = some v) ∧
      w1.frozen? ⟨w.heap.size, 0, none⟩ = false ∧ w1.frozen? ⟨w.heap.size, 1, none⟩ = false ∧ w1.frozen? ⟨w.heap.size, 2, none⟩ = false := by
  have e : (madeCells (Value.int .u8 0).cells (N * 1)).toList = (List.replicate N 0#8).map v8 := by
    rw [Nat.mul_one]
    show (madeCells #[Value.int .u8 0] N).toList = _
    rw [zeros_made]; simp [zeros]
  rw [e] at hown1
  have cc (j : Nat) (hj : j < 64) : ∃ v, w1.cell? ⟨w.heap.size, j, none⟩ = some v := by
    have := hown1.cellAt j (by omega)
    rw [List.getElem?_eq_getElem (by simp; omega)] at this
    exact ⟨_, this⟩
  exact ⟨(Below.refl _ _).grown hgr1 (Nat.le_refl _) (fun q hq => by cases hq), hown1, cc 0 (by omega), cc 1 (by omega), cc 2 (by omega), hown1.frozenAt 0, hown1.frozenAt 1, hown1.frozenAt 2⟩

theorem own_base {w : World} {base base' e size n : Nat} {v : Value} {xs : List Value} (h : w.ownsRow base e size v n xs) (hb : base' ≤ base) : w.ownsRow base' e size v n xs :=
  ⟨h.1, h.2.imp id fun ⟨g, cap, cur, h1, h2, h3⟩ => ⟨g, cap, cur, h1, Nat.le_trans hb h2, h3⟩⟩
theorem may_bounds {g b s f a n k h : Nat} (hm : mayB g b s f a n k h = true) : (g : Int) ≤ 268435455 ∧ (b : Int) ≤ 8192 ∧ (s : Int) ≤ 512 ∧ (h : Int) ≤ 5 ∧ (k : Int) ≤ 268435455 ∧ (n : Int) ≤ 128 ∧ (a : Int) ≤ 8192 := by
  unfold mayB at hm
  simp only [Bool.and_eq_true, inB, decide_eq_true_eq] at hm
  omega
theorem enc_no (g b s : Int) (f : Nat) (a n k h : Int) (w : World) (hf : f < 18446744073709551616) (hm : mayB g b s f a n k h = false) :
    Calls Try.prog 27 #[.agg #[.int .i64 g, .int .i64 b, .int .i64 s, .float .f64 f, .int .i64 a, .int .i64 n, .int .i64 k, .int .i64 h]] w fun e w' => e = .returned (.tuple #[.slice none 0 0, .int .i64 1]) ∧ Below w.heap.size w w' := by
  go_enter Try.func27, Try.ntmps27
  go_wp2_with (go_at_call 30; refine (may_any _ _ _ _ _ _ _ _ _ hf).mono ?_; rintro e w1 ⟨rfl, hb1⟩; have HB1 := Lib.hid hb1; clear hb1)
  go_ret2
  exact ⟨rfl, ((Below.refl _ _).alloc (Nat.le_refl _) _).trans (HB1.out.mono (by simp))⟩

set_option maxHeartbeats 4000000 in
theorem enc_ok (g b s f a n k h : Nat) (w : World) (hf : f < 18446744073709551616) (hm : mayB g b s f a n k h = true) :
    Calls Try.prog 27 #[.agg #[.int .i64 g, .int .i64 b, .int .i64 s, .float .f64 f, .int .i64 a, .int .i64 n, .int .i64 k, .int .i64 h]] w fun e w' =>
      ∃ A c, e = .returned (.tuple #[.slice A 64 c, .int .i64 0]) ∧ 64 ≤ c ∧ w'.ownsRow w.heap.size 5 1 (.slice A 64 c) 64 ((crownL g b s a n k h f).map v8) ∧ Below w.heap.size w w' := by
  obtain ⟨i0, hi, hz0, hz1, hz2⟩ := info_parts info5
  obtain ⟨bg, bb, bs, bh, bk, bn, ba⟩ := may_bounds hm
  go_enter Try.func27, Try.ntmps27
  go_upto_region 6 with (first
    | (go_at_call 30
       refine (may_any _ _ _ _ _ _ _ _ _ hf).mono ?_
       rintro e w1 ⟨rfl, hb1⟩
       have hs1 := hb1.size
       simp only [World.size_alloc] at hs1
       have C1 := Lib.hid ((Blk.new w 51 _).below hb1 (by simp))
       have HB1 := Lib.hid (((Below.refl w.heap.size w).alloc (Nat.le_refl _) _).trans (hb1.mono (by simp)))
       clear hb1)
    | (at_make
       refine wpList_make_full _ rfl (.const (.int .i64 64)) (.const (.int .i64 64)) 43 rfl w1.heap.size 5 i0 (.int .u8 0) 1 Try.underlying43 hi hz0 hz1 .i64 .i64 _ _ 64 rfl rfl rfl rfl (by rw [hz2]; omega) (by unfold maxLen; omega) (Nat.le_refl _) ?_
       intro w2 hown1 hgr1
       obtain ⟨hb2, hown2, ⟨v0, hc0⟩, ⟨v1, hc1⟩, ⟨v2, hc2⟩, hf0, hf1, hf2⟩ := made hown1 hgr1 (by omega)
       have C2 := Lib.hid (C1.out.below hb2 (by omega))
       have HB2 := Lib.hid (HB1.out.trans (hb2.mono (by omega)))
       have HO := Lib.hid hown2
       have k4 := C2.out.cell 4
       have k5 := C2.out.cell 5
       have k6 := C2.out.cell 6
       simp at k4 k5 k6
       have hs2 := hb2.size
       have n1 : ¬ w.heap.size = w1.heap.size := by omega
       have n2 : ¬ w1.heap.size = w.heap.size := by omega
       have n3 : ¬ w.heap.size = w2.heap.size := by omega
       have n4 : ¬ w2.heap.size = w.heap.size := by omega
       clear hown1 hgr1 hb2 hown2 hc2 hf2))
  generalize hW : ((w2.setCell ⟨w1.heap.size, 0, none⟩ (.int .u8 192)).setCell ⟨w1.heap.size, 1, none⟩ (.int .u8 158)).alloc (.cells #[.int .i64 a, .int .i64 n, .int .i64 k] 47) = w3
  have O3 : Hid (w3.ownsRow w1.heap.size 5 1 (.slice (some ⟨w1.heap.size, 0, none⟩) 64 64) 64 (L0.map v8)) := by
    show World.ownsRow _ _ _ _ _ _ _
    rw [← hW]
    unfold L0
    rw [List.map_set, List.map_set]
    exact ((HO.out.stored 0 _).1.stored 1 _).1.alloc _
  have C3 := Lib.hid (((C2.out.far (p := ⟨w1.heap.size, 0, none⟩) n1 (.int .u8 192)).far (p := ⟨w1.heap.size, 1, none⟩) n1 (.int .u8 158)).alloc (.cells #[.int .i64 a, .int .i64 n, .int .i64 k] 47))
  rw [hW] at C3
  have K3 := Lib.hid (Blk.new ((w2.setCell ⟨w1.heap.size, 0, none⟩ (.int .u8 192)).setCell ⟨w1.heap.size, 1, none⟩ (.int .u8 158)) 47 #[.int .i64 a, .int .i64 n, .int .i64 k])
  simp only [World.size_setCell] at K3
  rw [hW] at K3
  have HB3 : Hid (Below w.heap.size w w3) := hW ▸ ((HB2.out.setCell (by show _ ≤ _; simp only; omega) _).setCell (by show _ ≤ _; simp only; omega) _).alloc (by simp only [World.size_setCell]; omega) _
  have hs3 : w3.heap.size = w2.heap.size + 1 := by rw [← hW]; simp
  have k0 := C3.out.cell 0
  have k1 := C3.out.cell 1
  have k2 := C3.out.cell 2
  have k7 := C3.out.cell 7
  have q0 := K3.out.cell 0
  have q1 := K3.out.cell 1
  have q2 := K3.out.cell 2
  simp at k0 k1 k2 k7 q0 q1 q2
  clear hW hc0 hc1 hf0 hf1 C2 HO HB2 C1 HB1 n1 n2 n3 n4
  have C4 := Lib.hid (C3.out.alloc (.cells #[.int .i64 g, .int .i64 b, .int .i64 s, .int .i64 a, .int .i64 n, .int .i64 k, .int .i64 h] 3))
  have X4 := Lib.hid (Blk.new w3 3 #[.int .i64 g, .int .i64 b, .int .i64 s, .int .i64 a, .int .i64 n, .int .i64 k, .int .i64 h])
  rw [hs3] at X4
  have O4 := Lib.hid (O3.out.alloc (.cells #[.int .i64 g, .int .i64 b, .int .i64 s, .int .i64 a, .int .i64 n, .int .i64 k, .int .i64 h] 3))
  have HB4 := Lib.hid (HB3.out.alloc (by omega) (.cells #[.int .i64 g, .int .i64 b, .int .i64 s, .int .i64 a, .int .i64 n, .int .i64 k, .int .i64 h] 3))
  clear O3 C3 K3 HB3
  go_wp2
  go_loopw [37] (fun i wr => ∃ j : Nat, j ≤ 7 ∧ i = .int .i64 (j : Int) ∧ wr.ownsRow w1.heap.size 5 1 (.slice (some ⟨w1.heap.size, 0, none⟩) 64 64) 64 ((layK L0 [g, b, s, a, n, k, h] j).map v8) ∧ Blk wr (w2.heap.size + 1) 3 #[.int .i64 g, .int .i64 b, .int .i64 s, .int .i64 a, .int .i64 n, .int .i64 k, .int .i64 h] ∧ Blk wr w.heap.size 51 #[.int .i64 g, .int .i64 b, .int .i64 s, .float .f64 f, .int .i64 a, .int .i64 n, .int .i64 k, .int .i64 h] ∧ Below w.heap.size w wr) (fun i _ => 7 - (intOf i).toNat)
  case atStart => exact ⟨0, by omega, rfl, O4.out, X4.out, C4.out, HB4.out⟩
  case round =>
    clear O4 X4 C4 HB4 k0 k1 k2 k7 q0 q1 q2 k4 k5 k6
    obtain ⟨j, hj, rfl, hown, hX, hC, hB⟩ := hrel
    have OO := Lib.hid hown
    have XX := Lib.hid hX
    have CC := Lib.hid hC
    have BB := Lib.hid hB
    clear hown hX hC hB
    rcases (by omega : j = 0 ∨ j = 1 ∨ j = 2 ∨ j = 3 ∨ j = 4 ∨ j = 5 ∨ j = 6 ∨ j = 7) with rfl | rfl | rfl | rfl | rfl | rfl | rfl | rfl
    · have x := XX.out.cell 0
      simp at x
      go_wp2_with fail
      refine (lay_any w1.heap.size 2 4 _ 64 64 w1.heap.size (layK L0 [g, b, s, a, n, k, h] 0) g _ (by omega) OO.out (by decide) (by decide)).mono ?_
      rintro e wz ⟨rfl, p1, p2⟩
      have P1 := Lib.hid p1
      have P2 := Lib.hid p2
      clear p1 p2 x
      go_wp2_with fail
      exact ⟨⟨1, by omega, rfl, P1.out, XX.out.grown P2.out (by simp; omega), CC.out.grown P2.out (by simp; omega), BB.out.grown P2.out (by have := BB.out.size; omega) (fun q hq => by injection hq with hq; omega)⟩, by simp only [intOf]; omega⟩
    · have x := XX.out.cell 1
      simp at x
      go_wp2_with fail
      refine (lay_any w1.heap.size 6 4 _ 64 64 w1.heap.size (layK L0 [g, b, s, a, n, k, h] 1) b _ (by omega) OO.out (by decide) (by decide)).mono ?_
      rintro e wz ⟨rfl, p1, p2⟩
      have P1 := Lib.hid p1
      have P2 := Lib.hid p2
      clear p1 p2 x
      go_wp2_with fail
      exact ⟨⟨2, by omega, rfl, P1.out, XX.out.grown P2.out (by simp; omega), CC.out.grown P2.out (by simp; omega), BB.out.grown P2.out (by have := BB.out.size; omega) (fun q hq => by injection hq with hq; omega)⟩, by simp only [intOf]; omega⟩
    · have x := XX.out.cell 2
      simp at x
      go_wp2_with fail
      refine (lay_any w1.heap.size 10 4 _ 64 64 w1.heap.size (layK L0 [g, b, s, a, n, k, h] 2) s _ (by omega) OO.out (by decide) (by decide)).mono ?_
      rintro e wz ⟨rfl, p1, p2⟩
      have P1 := Lib.hid p1
      have P2 := Lib.hid p2
      clear p1 p2 x
      go_wp2_with fail
      exact ⟨⟨3, by omega, rfl, P1.out, XX.out.grown P2.out (by simp; omega), CC.out.grown P2.out (by simp; omega), BB.out.grown P2.out (by have := BB.out.size; omega) (fun q hq => by injection hq with hq; omega)⟩, by simp only [intOf]; omega⟩
    · have x := XX.out.cell 3
      simp at x
      go_wp2_with fail
      refine (lay_any w1.heap.size 14 4 _ 64 64 w1.heap.size (layK L0 [g, b, s, a, n, k, h] 3) a _ (by omega) OO.out (by decide) (by decide)).mono ?_
      rintro e wz ⟨rfl, p1, p2⟩
      have P1 := Lib.hid p1
      have P2 := Lib.hid p2
      clear p1 p2 x
      go_wp2_with fail
      exact ⟨⟨4, by omega, rfl, P1.out, XX.out.grown P2.out (by simp; omega), CC.out.grown P2.out (by simp; omega), BB.out.grown P2.out (by have := BB.out.size; omega) (fun q hq => by injection hq with hq; omega)⟩, by simp only [intOf]; omega⟩
    · have x := XX.out.cell 4
      simp at x
      go_wp2_with fail
      refine (lay_any w1.heap.size 18 4 _ 64 64 w1.heap.size (layK L0 [g, b, s, a, n, k, h] 4) n _ (by omega) OO.out (by decide) (by decide)).mono ?_
      rintro e wz ⟨rfl, p1, p2⟩
      have P1 := Lib.hid p1
      have P2 := Lib.hid p2
      clear p1 p2 x
      go_wp2_with fail
      exact ⟨⟨5, by omega, rfl, P1.out, XX.out.grown P2.out (by simp; omega), CC.out.grown P2.out (by simp; omega), BB.out.grown P2.out (by have := BB.out.size; omega) (fun q hq => by injection hq with hq; omega)⟩, by simp only [intOf]; omega⟩
    · have x := XX.out.cell 5
      simp at x
      go_wp2_with fail
      refine (lay_any w1.heap.size 22 4 _ 64 64 w1.heap.size (layK L0 [g, b, s, a, n, k, h] 5) k _ (by omega) OO.out (by decide) (by decide)).mono ?_
      rintro e wz ⟨rfl, p1, p2⟩
      have P1 := Lib.hid p1
      have P2 := Lib.hid p2
      clear p1 p2 x
      go_wp2_with fail
      exact ⟨⟨6, by omega, rfl, P1.out, XX.out.grown P2.out (by simp; omega), CC.out.grown P2.out (by simp; omega), BB.out.grown P2.out (by have := BB.out.size; omega) (fun q hq => by injection hq with hq; omega)⟩, by simp only [intOf]; omega⟩
    · have x := XX.out.cell 6
      simp at x
      go_wp2_with fail
      refine (lay_any w1.heap.size 26 4 _ 64 64 w1.heap.size (layK L0 [g, b, s, a, n, k, h] 6) h _ (by omega) OO.out (by decide) (by decide)).mono ?_
      rintro e wz ⟨rfl, p1, p2⟩
      have P1 := Lib.hid p1
      have P2 := Lib.hid p2
      clear p1 p2 x
      go_wp2_with fail
      exact ⟨⟨7, by omega, rfl, P1.out, XX.out.grown P2.out (by simp; omega), CC.out.grown P2.out (by simp; omega), BB.out.grown P2.out (by have := BB.out.size; omega) (fun q hq => by injection hq with hq; omega)⟩, by simp only [intOf]; omega⟩
    · go_wp2_with fail
      have x := CC.out.drew.cell 3
      simp at x
      have hbits := fun w => run_bits f w
      have OD := Lib.hid (OO.out.drew)
      go_region_with (first
        | (go_at_call 43
           refine (lay_any w1.heap.size 30 8 _ 64 64 w1.heap.size (layK L0 [g, b, s, a, n, k, h] 7) f _ hf OD.out (by decide) (by decide)).mono ?_
           rintro e wz ⟨rfl, p1, p2⟩
           rw [lay_all] at p1
           have P1 := Lib.hid p1
           have P2 := Lib.hid p2
           clear p1 p2))
      have B2 := Lib.hid ((below_drewN BB.out 1).grown P2.out BB.out.size (fun q hq => by injection hq with hq; omega))
      go_wp2_with fail
      have RR := Lib.hid ((Rd.of_own P1.out).drew.take (k := 60) (by decide))
      have PD := Lib.hid P1.out.drew
      clear x hbits OD P1 P2 BB CC XX OO
      obtain ⟨S, hS⟩ : ∃ S : Nat, S = (sum (body g b s a n k h f)).toNat := ⟨_, rfl⟩
      have hSI : I32 (sum (body g b s a n k h f)) = (S : Int) := by rw [hS]; rfl
      have hSb : (S : Int) ≤ 4294967295 := by rw [← hSI]; exact (I32.bd _).2
      have hwr : IntKind.u64.wrap (S : Int) = (S : Int) := by rw [IntKind.wrap_u64]; omega
      rw [take_body] at RR
      generalize hBD : body g b s a n k h f = BD at *
      have HS := Lib.hid hS
      clear hS
      have LY := Lib.hid (lay_any w1.heap.size 60 4 4 64 64 w1.heap.size (BD ++ List.replicate 4 0#8) S _ (by omega) PD.out (by decide) (by decide))
      go_region_with (first
        | (go_at_call 44; with_reducible refine (sum_any _ _ _ _ _ _ RR.out (by decide)).mono ?_; rw [hSI]; rintro e w' ⟨rfl, rfl⟩)
        | (go_at_call 43
           with_reducible refine LY.out.mono ?_
           rintro e wz ⟨rfl, p1, p2⟩
           have P1 := Lib.hid p1
           have P2 := Lib.hid p2
           clear p1 p2))
      have B3 := Lib.hid ((below_drewN B2.out 1).grown P2.out B2.out.size (fun q hq => by injection hq with hq; omega))
      go_wp2_with fail
      go_ret2
      have P3 := P1.out
      rw [← hBD, lay_sum, HS.out, ← hBD] at P3
      exact ⟨_, _, rfl, by decide, own_base P3 (by omega), B3.out⟩
end Go.Proofs.Ythhgmanoifpoiaa

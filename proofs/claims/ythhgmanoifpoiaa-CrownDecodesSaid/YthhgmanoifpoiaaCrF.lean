/- The contract of the document's EncodeCrown. -/
import Derived.Test.YthhgmanoifpoiaaCrE
namespace Go.Proofs.Ythhgmanoifpoiaa
open Go.RowKit
set_option linter.unusedVariables false

/-- The first bytes of a crown: the head and so many numbers. -/
def preK (xs : List Nat) (j : Nat) : List B8 := [0xc0#8, 0x9e#8] ++ (xs.take j).flatMap le4
theorem preK_succ {xs : List Nat} {j x : Nat} (h : xs[j]? = some x) : preK xs (j + 1) = preK xs j ++ le4 x := by
  unfold preK
  rw [List.take_add_one, h, List.flatMap_append]
  simp
theorem nums_bd {g b s a n k h x j : Nat} (hx : [g, b, s, a, n, k, h][j]? = some x) (h1 : g < 4294967296) (h2 : b < 4294967296) (h3 : s < 4294967296) (h4 : a < 4294967296) (h5 : n < 4294967296) (h6 : k < 4294967296) (h7 : h < 4294967296) : x < 4294967296 := by
  have := List.mem_of_getElem? hx
  simp only [List.mem_cons, List.not_mem_nil, or_false] at this
  rcases this with rfl | rfl | rfl | rfl | rfl | rfl | rfl <;> assumption
/-- Behind an append of fresh cells onto an own row. -/
theorem app_own {w w0 w2 : World} {base n m : Nat} {v v2 : Value} {xs ys : List B8} (hB : Below base w0 w) (ho : w.ownsRow base 5 1 v n (xs.map v8)) (cs : Array Value)
    (hown : w2.ownsRow base 5 1 v2 (n + m) (xs.map v8 ++ ys.map v8)) (hg : (w.alloc (.cells cs 5)).grownBy w2 v.ownBlock) (hs : base ≤ w.heap.size) :
    ∃ A c, v2 = .slice A (n + m) c ∧ Hid (w2.ownsRow base 5 1 (.slice A (n + m) c) (n + m) ((xs ++ ys).map v8)) ∧ Hid (Below base w0 w2) := by
  obtain ⟨A, c, rfl⟩ := own_slice hown
  exact ⟨A, c, rfl, by show World.ownsRow _ _ _ _ _ _ _; rw [List.map_append]; exact hown, (hB.alloc hs _).grown hg (by simp; omega) (fun q hq => (ho.lt q hq).1)⟩
theorem app_ne {w : World} {base e g t n : Nat} {v : Value} {xs : List Value} {cs : Array Value} (ho : w.ownsRow base e 1 v n xs) (hg : Blk w g t cs) (hne : e ≠ t) : some g ≠ v.ownBlock := fun h => own_blk_ne ho hg hne h.symm
def lenOf : Value → Nat
  | .slice _ n _ => n
  | _ => 0
theorem own_cap {w : World} {base e n : Nat} {v : Value} {xs : List Value} (h : w.ownsRow base e 1 v n xs) : ∃ A c, v = .slice A n c ∧ n ≤ c := by
  rcases h.2 with ⟨rfl, h0⟩ | ⟨g, cap, cur, rfl, _, _, hc, _⟩
  · exact ⟨none, 0, by rw [h0], by omega⟩
  · exact ⟨_, _, rfl, hc⟩
theorem refEnc_no (g b s : Int) (f : Nat) (a n k h : Int) (w : World) (hf : f < 18446744073709551616) (hm : mayB g b s f a n k h = false) :
    Calls Try.prog 29 #[.agg #[.int .i64 g, .int .i64 b, .int .i64 s, .float .f64 f, .int .i64 a, .int .i64 n, .int .i64 k, .int .i64 h]] w fun e w' => e = .returned (.tuple #[.slice none 0 0, .int .i64 1]) ∧ Below w.heap.size w w' := by
  go_enter Try.func29, Try.ntmps29
  go_wp2_with (go_at_call 31; refine (refMay_any _ _ _ _ _ _ _ _ _ hf).mono ?_; rintro e w1 ⟨rfl, hb1⟩; have HB1 := Lib.hid hb1; clear hb1)
  go_ret2
  exact ⟨rfl, ((Below.refl _ _).alloc (Nat.le_refl _) _).trans (HB1.out.mono (by simp))⟩

set_option maxHeartbeats 4000000 in
theorem refEnc_ok (g b s f a n k h : Nat) (w : World) (hf : f < 18446744073709551616) (hm : mayB g b s f a n k h = true) :
    Calls Try.prog 29 #[.agg #[.int .i64 g, .int .i64 b, .int .i64 s, .float .f64 f, .int .i64 a, .int .i64 n, .int .i64 k, .int .i64 h]] w fun e w' =>
      ∃ A c, e = .returned (.tuple #[.slice A 64 c, .int .i64 0]) ∧ 64 ≤ c ∧ Rd w' w'.heap.size A 64 (crownL g b s a n k h f) ∧ Below w.heap.size w w' := by
  obtain ⟨i0, hi, hz0, hz1, hz2⟩ := info_parts info5
  obtain ⟨bg, bb, bs, bh, bk, bn, ba⟩ := may_bounds hm
  go_enter Try.func29, Try.ntmps29
  go_upto_region 4 with (first
    | (go_at_call 31
       refine (refMay_any _ _ _ _ _ _ _ _ _ hf).mono ?_
       rintro e w1 ⟨rfl, hb1⟩
       have hs1 := hb1.size
       simp only [World.size_alloc] at hs1
       have C1 := Lib.hid ((Blk.new w 42 _).below hb1 (by simp))
       have HB1 := Lib.hid (((Below.refl w.heap.size w).alloc (Nat.le_refl _) _).trans (hb1.mono (by simp)))
       clear hb1))
  obtain ⟨w2, hW⟩ : ∃ w2, w1.alloc (.cells #[.int .u8 192, .int .u8 158] 5) = w2 := ⟨_, rfl⟩
  have O2 := World.ownsRow_lit (base := w.heap.size) (e := 5) (size := 1) w1 #[.int .u8 192, .int .u8 158] 2 (by omega) (by unfold maxLen; omega) rfl
  have C2 := Lib.hid (C1.out.alloc (.cells #[.int .u8 192, .int .u8 158] 5))
  have HB2 := Lib.hid (HB1.out.alloc (by omega) (.cells #[.int .u8 192, .int .u8 158] 5))
  have hs2 : w1.heap.size + 1 = w2.heap.size := by rw [← hW]; simp
  rw [hW] at O2 C2 HB2 ⊢
  obtain ⟨g1, hg1⟩ : ∃ g1, w1.heap.size = g1 := ⟨_, rfl⟩
  rw [hg1] at O2 hs2 hs1 ⊢
  have k0 := C2.out.cell 0
  have k1 := C2.out.cell 1
  have k2 := C2.out.cell 2
  have k4 := C2.out.cell 4
  have k5 := C2.out.cell 5
  have k6 := C2.out.cell 6
  have k7 := C2.out.cell 7
  simp at k0 k1 k2 k4 k5 k6 k7
  have O3 := Lib.hid (O2.alloc (.cells #[.int .i64 g, .int .i64 b, .int .i64 s, .int .i64 a, .int .i64 n, .int .i64 k, .int .i64 h] 3))
  have C3 := Lib.hid (C2.out.alloc (.cells #[.int .i64 g, .int .i64 b, .int .i64 s, .int .i64 a, .int .i64 n, .int .i64 k, .int .i64 h] 3))
  have X3 := Lib.hid (Blk.new w2 3 #[.int .i64 g, .int .i64 b, .int .i64 s, .int .i64 a, .int .i64 n, .int .i64 k, .int .i64 h])
  have HB3 := Lib.hid (HB2.out.alloc (by omega) (.cells #[.int .i64 g, .int .i64 b, .int .i64 s, .int .i64 a, .int .i64 n, .int .i64 k, .int .i64 h] 3))
  clear hW O2 C2 HB2 C1 HB1 hg1
  go_wp2
  go_loopw [4, 6] (fun o i wr => ∃ (j n0 : Nat) (xs : List B8) (Ao : Option Addr) (co : Nat), i = .int .i64 (j : Int) ∧ o = .slice Ao n0 co ∧ j ≤ 7 ∧ n0 = 2 + 4 * j ∧ xs = preK [g, b, s, a, n, k, h] j ∧ wr.ownsRow w.heap.size 5 1 (.slice Ao n0 co) n0 (xs.map v8) ∧ Blk wr w2.heap.size 3 #[.int .i64 g, .int .i64 b, .int .i64 s, .int .i64 a, .int .i64 n, .int .i64 k, .int .i64 h] ∧ Blk wr w.heap.size 42 #[.int .i64 g, .int .i64 b, .int .i64 s, .float .f64 f, .int .i64 a, .int .i64 n, .int .i64 k, .int .i64 h] ∧ Below w.heap.size w wr ∧ w2.heap.size + 1 ≤ wr.heap.size) (fun _ i _ => 7 - (intOf i).toNat)
  case atStart => exact ⟨0, 2, _, _, _, rfl, rfl, by omega, rfl, rfl, O3.out, X3.out, C3.out, HB3.out, by simp⟩
  case round =>
    clear O3 X3 C3 HB3 k0 k1 k2 k7 k4 k5 k6
    obtain ⟨j, n0, xs, Ao, co, rfl, rfl, hj, hn0, hxs, hown, hX, hC, hB, hs⟩ := hrel
    have OO := Lib.hid hown
    have XX := Lib.hid hX
    have CC := Lib.hid hC
    have BB := Lib.hid hB
    have HXS := Lib.hid hxs
    have HS := Lib.hid hs
    have HN0 := Lib.hid hn0
    have hb30 : n0 ≤ 30 := by omega
    by_cases hlt : j < 7
    · have hltI : (j : Int) < 7 := by omega
      obtain ⟨x, hx⟩ : ∃ x, [g, b, s, a, n, k, h][j]? = some x := ⟨_, List.getElem?_eq_getElem (by simp; omega)⟩
      have hxb : x < 4294967296 := nums_bd hx (by omega) (by omega) (by omega) (by omega) (by omega) (by omega) (by omega)
      have hc : wr.cell? ⟨w2.heap.size, j, none⟩ = some (.int .i64 (x : Int)) := by
        rw [hX.cell j]
        show (([g, b, s, a, n, k, h] : List Nat).map (fun x : Nat => Value.int .i64 (x : Int))).toArray[j]? = _
        rw [List.getElem?_toArray, List.getElem?_map, hx]; rfl
      have hmx : Hid (n0 + 4 ≤ maxLen) := by show _ ≤ _; unfold maxLen; omega
      have hby : Hid ((n0 + 4) * 1 ≤ 140737488355328) := by show _ ≤ _; omega
      have HX2 := Lib.hid hx
      have OA := Lib.hid (hown.alloc (.cells (leCells x) 5))
      have RA : Hid (Rd (wr.alloc (.cells (leCells x) 5)) (wr.heap.size + 1) (some ⟨wr.heap.size, 0, none⟩) 4 (le4 x)) := rd_lit wr (le4 x) _ 5 (0, 0) rfl
      have SA : Hid (w.heap.size ≤ (wr.alloc (.cells (leCells x) 5)).heap.size) := by show _ ≤ _; have := hB.size; simp; omega
      clear hown hX hC hB hxs hs hx hn0
      go_wp2_with (first
        | (go_at_call 45; refine (le_any _ x _ rfl hxb).mono ?_; rintro e wl ⟨rfl, rfl⟩)
        | (at_builtin
           refine wpList_append_any _ rfl (.tmp 37) (.tmp 42) 43 rfl w.heap.size 5 i0 (.int .u8 0) 1 1 Try.underlying43 hi hz0 hz1 hz2 rfl (by decide) _ n0 _ rfl OA.out (wr.heap.size + 1) _ 4 4 ((le4 x).map v8) rfl RA.out (oneCell_v8 _) hmx.out hby.out SA.out ?_
           intro v2 w3 hown2 hg2 hat2
           obtain ⟨A3, c3, rfl, O3, B3⟩ := app_own BB.out OO.out (leCells x) hown2 hg2 BB.out.size
           have X3 := Lib.hid ((XX.out.alloc (.cells (leCells x) 5)).grown hg2 (app_ne OO.out XX.out (by decide)))
           have C3 := Lib.hid ((CC.out.alloc (.cells (leCells x) 5)).grown hg2 (app_ne OO.out CC.out (by decide)))
           have S3 := Lib.hid hg2.size
           clear hown2 hg2 hat2))
      refine ⟨⟨j + 1, n0 + 4, xs ++ le4 x, A3, c3, rfl, rfl, by omega, by have := HN0.out; omega, ?_, O3.out, X3.out, C3.out, B3.out, ?_⟩, by simp only [intOf]; omega⟩
      · rw [HXS.out, preK_succ HX2.out]
      · have := S3.out; have := HS.out; simp at *; omega
    · have x3 := CC.out.cell 3
      simp at x3
      have hbits := fun w => run_bits f w
      obtain rfl : j = 7 := by omega
      have hn30 : n0 = 30 := by omega
      subst hn30
      go_wp2_with fail
      have HP := Lib.hid hxs
      have S0 := Lib.hid hB.size
      clear hown hX hC hB hxs x3 hbits XX CC HXS HN0 hn0 hb30
      go_loopw [4, 8] (fun o i wr => ∃ (j n1 : Nat) (ys : List B8) (Ao : Option Addr) (co : Nat), i = .int .i64 (j : Int) ∧ o = .slice Ao n1 co ∧ j ≤ 8 ∧ n1 = 30 + j ∧ ys = preK [g, b, s, a, n, k, h] 7 ++ (le8 f).take j ∧ wr.ownsRow w.heap.size 5 1 (.slice Ao n1 co) n1 (ys.map v8) ∧ Below w.heap.size w wr) (fun _ i _ => 8 - (intOf i).toNat)
      case atStart => exact ⟨0, 30, xs, _, _, rfl, rfl, by omega, rfl, by rw [HP.out]; simp, OO.out, BB.out⟩
      case round =>
        clear OO BB HP
        obtain ⟨j, n1, ys, Ap, cp, rfl, rfl, hj, hn1, hys, hown, hB⟩ := hrel
        have OO := Lib.hid hown
        have BB := Lib.hid hB
        have HYS := Lib.hid hys
        have HN1 := Lib.hid hn1
        have hb38 : n1 ≤ 38 := by omega
        by_cases hlt : j < 8
        · have hmx : Hid (n1 + 1 ≤ maxLen) := by show _ ≤ _; unfold maxLen; omega
          have hby : Hid ((n1 + 1) * 1 ≤ 140737488355328) := by show _ ≤ _; omega
          have OA := Lib.hid (hown.alloc (.cells #[.int .u8 (I8 (nb f j))] 5))
          have RA : Hid (Rd (wr.alloc (.cells #[.int .u8 (I8 (nb f j))] 5)) (wr.heap.size + 1) (some ⟨wr.heap.size, 0, none⟩) 1 [nb f j]) := rd_lit wr [nb f j] _ 5 (0, 0) rfl
          have SA : Hid (w.heap.size ≤ (wr.alloc (.cells #[.int .u8 (I8 (nb f j))] 5)).heap.size) := by show _ ≤ _; have := hB.size; simp; omega
          clear hown hB hys hn1
          rcases (by omega : j = 0 ∨ j = 1 ∨ j = 2 ∨ j = 3 ∨ j = 4 ∨ j = 5 ∨ j = 6 ∨ j = 7) with rfl | rfl | rfl | rfl | rfl | rfl | rfl | rfl
          · have hv : (f : Int) % 256 = I8 (nb f 0) := by rw [nb_val]; simp only [Nat.reducePow]; omega
            go_wp2_with (first
              | (at_builtin
                 refine wpList_append_any _ rfl (.tmp 51) (.tmp 58) 43 rfl w.heap.size 5 i0 (.int .u8 0) 1 1 Try.underlying43 hi hz0 hz1 hz2 rfl (by decide) _ n1 _ rfl OA.out (wr.heap.size + 1) _ 1 1 ([nb f 0].map v8) rfl RA.out (oneCell_v8 _) hmx.out hby.out SA.out ?_
                 intro v2 w3 hown2 hg2 hat2
                 obtain ⟨A3, c3, rfl, O3, B3⟩ := app_own BB.out OO.out #[.int .u8 (I8 (nb f 0))] hown2 hg2 BB.out.size
                 clear hown2 hg2 hat2))
            exact ⟨⟨1, n1 + 1, ys ++ [nb f 0], A3, c3, rfl, rfl, by omega, by have := HN1.out; omega, by rw [HYS.out, List.append_assoc]; rfl, O3.out, B3.out⟩, by simp only [intOf]; omega⟩
          · have hv : (f : Int) / 256 % 256 = I8 (nb f 1) := by rw [nb_val]; simp only [Nat.reducePow]; omega
            go_wp2_with (first
              | (at_builtin
                 refine wpList_append_any _ rfl (.tmp 51) (.tmp 58) 43 rfl w.heap.size 5 i0 (.int .u8 0) 1 1 Try.underlying43 hi hz0 hz1 hz2 rfl (by decide) _ n1 _ rfl OA.out (wr.heap.size + 1) _ 1 1 ([nb f 1].map v8) rfl RA.out (oneCell_v8 _) hmx.out hby.out SA.out ?_
                 intro v2 w3 hown2 hg2 hat2
                 obtain ⟨A3, c3, rfl, O3, B3⟩ := app_own BB.out OO.out #[.int .u8 (I8 (nb f 1))] hown2 hg2 BB.out.size
                 clear hown2 hg2 hat2))
            exact ⟨⟨2, n1 + 1, ys ++ [nb f 1], A3, c3, rfl, rfl, by omega, by have := HN1.out; omega, by rw [HYS.out, List.append_assoc]; rfl, O3.out, B3.out⟩, by simp only [intOf]; omega⟩
          · have hv : (f : Int) / 65536 % 256 = I8 (nb f 2) := by rw [nb_val]; simp only [Nat.reducePow]; omega
            go_wp2_with (first
              | (at_builtin
                 refine wpList_append_any _ rfl (.tmp 51) (.tmp 58) 43 rfl w.heap.size 5 i0 (.int .u8 0) 1 1 Try.underlying43 hi hz0 hz1 hz2 rfl (by decide) _ n1 _ rfl OA.out (wr.heap.size + 1) _ 1 1 ([nb f 2].map v8) rfl RA.out (oneCell_v8 _) hmx.out hby.out SA.out ?_
                 intro v2 w3 hown2 hg2 hat2
                 obtain ⟨A3, c3, rfl, O3, B3⟩ := app_own BB.out OO.out #[.int .u8 (I8 (nb f 2))] hown2 hg2 BB.out.size
                 clear hown2 hg2 hat2))
            exact ⟨⟨3, n1 + 1, ys ++ [nb f 2], A3, c3, rfl, rfl, by omega, by have := HN1.out; omega, by rw [HYS.out, List.append_assoc]; rfl, O3.out, B3.out⟩, by simp only [intOf]; omega⟩
          · have hv : (f : Int) / 16777216 % 256 = I8 (nb f 3) := by rw [nb_val]; simp only [Nat.reducePow]; omega
            go_wp2_with (first
              | (at_builtin
                 refine wpList_append_any _ rfl (.tmp 51) (.tmp 58) 43 rfl w.heap.size 5 i0 (.int .u8 0) 1 1 Try.underlying43 hi hz0 hz1 hz2 rfl (by decide) _ n1 _ rfl OA.out (wr.heap.size + 1) _ 1 1 ([nb f 3].map v8) rfl RA.out (oneCell_v8 _) hmx.out hby.out SA.out ?_
                 intro v2 w3 hown2 hg2 hat2
                 obtain ⟨A3, c3, rfl, O3, B3⟩ := app_own BB.out OO.out #[.int .u8 (I8 (nb f 3))] hown2 hg2 BB.out.size
                 clear hown2 hg2 hat2))
            exact ⟨⟨4, n1 + 1, ys ++ [nb f 3], A3, c3, rfl, rfl, by omega, by have := HN1.out; omega, by rw [HYS.out, List.append_assoc]; rfl, O3.out, B3.out⟩, by simp only [intOf]; omega⟩
          · have hv : (f : Int) / 4294967296 % 256 = I8 (nb f 4) := by rw [nb_val]; simp only [Nat.reducePow]; omega
            go_wp2_with (first
              | (at_builtin
                 refine wpList_append_any _ rfl (.tmp 51) (.tmp 58) 43 rfl w.heap.size 5 i0 (.int .u8 0) 1 1 Try.underlying43 hi hz0 hz1 hz2 rfl (by decide) _ n1 _ rfl OA.out (wr.heap.size + 1) _ 1 1 ([nb f 4].map v8) rfl RA.out (oneCell_v8 _) hmx.out hby.out SA.out ?_
                 intro v2 w3 hown2 hg2 hat2
                 obtain ⟨A3, c3, rfl, O3, B3⟩ := app_own BB.out OO.out #[.int .u8 (I8 (nb f 4))] hown2 hg2 BB.out.size
                 clear hown2 hg2 hat2))
            exact ⟨⟨5, n1 + 1, ys ++ [nb f 4], A3, c3, rfl, rfl, by omega, by have := HN1.out; omega, by rw [HYS.out, List.append_assoc]; rfl, O3.out, B3.out⟩, by simp only [intOf]; omega⟩
          · have hv : (f : Int) / 1099511627776 % 256 = I8 (nb f 5) := by rw [nb_val]; simp only [Nat.reducePow]; omega
            go_wp2_with (first
              | (at_builtin
                 refine wpList_append_any _ rfl (.tmp 51) (.tmp 58) 43 rfl w.heap.size 5 i0 (.int .u8 0) 1 1 Try.underlying43 hi hz0 hz1 hz2 rfl (by decide) _ n1 _ rfl OA.out (wr.heap.size + 1) _ 1 1 ([nb f 5].map v8) rfl RA.out (oneCell_v8 _) hmx.out hby.out SA.out ?_
                 intro v2 w3 hown2 hg2 hat2
                 obtain ⟨A3, c3, rfl, O3, B3⟩ := app_own BB.out OO.out #[.int .u8 (I8 (nb f 5))] hown2 hg2 BB.out.size
                 clear hown2 hg2 hat2))
            exact ⟨⟨6, n1 + 1, ys ++ [nb f 5], A3, c3, rfl, rfl, by omega, by have := HN1.out; omega, by rw [HYS.out, List.append_assoc]; rfl, O3.out, B3.out⟩, by simp only [intOf]; omega⟩
          · have hv : (f : Int) / 281474976710656 % 256 = I8 (nb f 6) := by rw [nb_val]; simp only [Nat.reducePow]; omega
            go_wp2_with (first
              | (at_builtin
                 refine wpList_append_any _ rfl (.tmp 51) (.tmp 58) 43 rfl w.heap.size 5 i0 (.int .u8 0) 1 1 Try.underlying43 hi hz0 hz1 hz2 rfl (by decide) _ n1 _ rfl OA.out (wr.heap.size + 1) _ 1 1 ([nb f 6].map v8) rfl RA.out (oneCell_v8 _) hmx.out hby.out SA.out ?_
                 intro v2 w3 hown2 hg2 hat2
                 obtain ⟨A3, c3, rfl, O3, B3⟩ := app_own BB.out OO.out #[.int .u8 (I8 (nb f 6))] hown2 hg2 BB.out.size
                 clear hown2 hg2 hat2))
            exact ⟨⟨7, n1 + 1, ys ++ [nb f 6], A3, c3, rfl, rfl, by omega, by have := HN1.out; omega, by rw [HYS.out, List.append_assoc]; rfl, O3.out, B3.out⟩, by simp only [intOf]; omega⟩
          · have hv : (f : Int) / 72057594037927936 % 256 = I8 (nb f 7) := by rw [nb_val]; simp only [Nat.reducePow]; omega
            have hv2 : (f : Int) / 72057594037927936 = I8 (nb f 7) := by rw [nb_val]; simp only [Nat.reducePow]; omega
            go_wp2_with (first
              | (at_builtin
                 refine wpList_append_any _ rfl (.tmp 51) (.tmp 58) 43 rfl w.heap.size 5 i0 (.int .u8 0) 1 1 Try.underlying43 hi hz0 hz1 hz2 rfl (by decide) _ n1 _ rfl OA.out (wr.heap.size + 1) _ 1 1 ([nb f 7].map v8) rfl RA.out (oneCell_v8 _) hmx.out hby.out SA.out ?_
                 intro v2 w3 hown2 hg2 hat2
                 obtain ⟨A3, c3, rfl, O3, B3⟩ := app_own BB.out OO.out #[.int .u8 (I8 (nb f 7))] hown2 hg2 BB.out.size
                 clear hown2 hg2 hat2))
            exact ⟨⟨8, n1 + 1, ys ++ [nb f 7], A3, c3, rfl, rfl, by omega, by have := HN1.out; omega, by rw [HYS.out, List.append_assoc]; rfl, O3.out, B3.out⟩, by simp only [intOf]; omega⟩
        · obtain rfl : j = 8 := by omega
          go_wp2_with fail
          have HP := Lib.hid hys
          have hn38 : n1 = 38 := by omega
          subst hn38
          clear hown hB hys HYS HN1 hn1 hb38
          have h8 : ((8 : Nat) : Int) = 8 := rfl
          simp only [h8]
          go_loopw [4] (fun o wr => ∃ (j n1 : Nat) (ys : List B8) (Ao : Option Addr) (co : Nat), o = .slice Ao n1 co ∧ j ≤ 22 ∧ n1 = 38 + j ∧ ys = preK [g, b, s, a, n, k, h] 7 ++ (le8 f).take 8 ++ List.replicate j 0#8 ∧ wr.ownsRow w.heap.size 5 1 (.slice Ao n1 co) n1 (ys.map v8) ∧ Below w.heap.size w wr) (fun o _ => 60 - lenOf o)
          case atStart => exact ⟨0, 38, ys, _, _, rfl, by omega, rfl, by rw [HP.out]; simp, OO.out, BB.out⟩
          case round =>
            clear OO BB HP
            obtain ⟨j, n1, ys, Ap, cp, rfl, hj, hn1, hys, hown, hB⟩ := hrel
            have OO := Lib.hid hown
            have BB := Lib.hid hB
            have HYS := Lib.hid hys
            have HN1 := Lib.hid hn1
            have hb60 : n1 ≤ 60 := by omega
            by_cases hlt : n1 < 60
            · have hltI : (n1 : Int) < 60 := by omega
              have hmx : Hid (n1 + 1 ≤ maxLen) := by show _ ≤ _; unfold maxLen; omega
              have hby : Hid ((n1 + 1) * 1 ≤ 140737488355328) := by show _ ≤ _; omega
              have OA := Lib.hid (hown.alloc (.cells #[.int .u8 0] 5))
              have RA : Hid (Rd (wr.alloc (.cells #[.int .u8 0] 5)) (wr.heap.size + 1) (some ⟨wr.heap.size, 0, none⟩) 1 [0#8]) := rd_lit wr [0#8] _ 5 (0, 0) rfl
              have SA : Hid (w.heap.size ≤ (wr.alloc (.cells #[.int .u8 0] 5)).heap.size) := by show _ ≤ _; have := hB.size; simp; omega
              clear hown hB hys hn1
              go_wp2_with (first
                | (at_builtin
                   refine wpList_append_any _ rfl (.tmp 63) (.tmp 64) 43 rfl w.heap.size 5 i0 (.int .u8 0) 1 1 Try.underlying43 hi hz0 hz1 hz2 rfl (by decide) _ n1 _ rfl OA.out (wr.heap.size + 1) _ 1 1 ([0#8].map v8) rfl RA.out (oneCell_v8 _) hmx.out hby.out SA.out ?_
                   intro v2 w3 hown2 hg2 hat2
                   obtain ⟨A3, c3, rfl, O3, B3⟩ := app_own BB.out OO.out #[.int .u8 0] hown2 hg2 BB.out.size
                   clear hown2 hg2 hat2))
              exact ⟨⟨j + 1, n1 + 1, ys ++ [0#8], A3, c3, rfl, by have := HN1.out; omega, by have := HN1.out; omega, by rw [HYS.out, List.append_assoc, List.replicate_succ'], O3.out, B3.out⟩, by simp only [lenOf]; omega⟩
            · have hltI : ¬ (n1 : Int) < 60 := by omega
              obtain rfl : n1 = 60 := by omega
              have hj22 : j = 22 := by omega
              subst hj22
              have hbody : ys = body g b s a n k h f := by rw [hys]; kernel_rfl
              obtain ⟨S, hS⟩ : ∃ S : Nat, S = (sum (body g b s a n k h f)).toNat := ⟨_, rfl⟩
              have hSI : I32 (sum (body g b s a n k h f)) = (S : Int) := by rw [hS]; rfl
              have hSb : (S : Int) ≤ 4294967295 := by rw [← hSI]; exact (I32.bd _).2
              have hSb2 : S < 4294967296 := by omega
              have hcr : crownL g b s a n k h f = body g b s a n k h f ++ le4 S := by rw [hS]; rfl
              rw [← hbody] at hSI hcr
              have HCR := Lib.hid hcr
              clear hcr hS
              have HSI := Lib.hid hSI
              have RR := Lib.hid (Rd.of_own hown)
              have OA := Lib.hid (hown.alloc (.cells (leCells S) 5))
              have RA : Hid (Rd (wr.alloc (.cells (leCells S) 5)) (wr.heap.size + 1) (some ⟨wr.heap.size, 0, none⟩) 4 (le4 S)) := rd_lit wr (le4 S) _ 5 (0, 0) rfl
              have SA : Hid (w.heap.size ≤ (wr.alloc (.cells (leCells S) 5)).heap.size) := by show _ ≤ _; have := hB.size; simp; omega
              clear hown hB hys hn1 hbody hSI HYS HN1
              go_wp2_with (first
                | (go_at_call 46; with_reducible refine (refSum_any _ _ _ _ _ _ RR.out (by decide)).mono ?_; rw [HSI.out]; rintro e w' ⟨rfl, rfl⟩)
                | (go_at_call 45; with_reducible refine (le_any _ S _ rfl hSb2).mono ?_; rintro e wl ⟨rfl, rfl⟩)
                | (at_builtin
                   refine wpList_append_any _ rfl (.tmp 66) (.tmp 70) 43 rfl w.heap.size 5 i0 (.int .u8 0) 1 1 Try.underlying43 hi hz0 hz1 hz2 rfl (by decide) _ 60 _ rfl OA.out (wr.heap.size + 1) _ 4 4 ((le4 S).map v8) rfl RA.out (oneCell_v8 _) (by unfold maxLen; omega) (by omega) SA.out ?_
                   intro v2 w3 hown2 hg2 hat2
                   obtain ⟨A3, c3, rfl, O3, B3⟩ := app_own BB.out OO.out (leCells S) hown2 hg2 BB.out.size
                   clear hown2 hg2 hat2))
              go_ret2
              obtain ⟨_, _, e, hc3⟩ := own_cap O3.out
              injection e with _ _ e
              exact ⟨_, _, rfl, by omega, by rw [HCR.out]; exact Rd.of_own O3.out, B3.out⟩
end Go.Proofs.Ythhgmanoifpoiaa

/- The walk of CrownTells. -/
import Derived.Test.YthhgmanoifpoiaaCrM
import Derived.Deep.CutRange
import Derived.BigRegion
namespace Go.Proofs.Ythhgmanoifpoiaa
open Go.RowKit
set_option linter.unusedVariables false

theorem mixFacts {bs : List B8} {k len cap g : Nat} {m : B32} {z : Int} {wr : World} {base : Nat} (hk : k + 4 ≤ len)
    (hown : wr.ownsRow base 5 1 (.slice (some ⟨g, 0, none⟩) len cap) len ((mixN bs k m z.toNat).map v8)) (hz : z.toNat < 4) :
    ∃ x, wr.cell? ⟨g, k + z.toNat, none⟩ = some (.int .u8 (I8 x)) ∧ wr.frozen? ⟨g, k + z.toNat, none⟩ = false ∧ Hid (mixN bs k m (z.toNat + 1) = (mixN bs k m z.toNat).set (k + z.toNat) (x ^^^ mb m z.toNat)) := by
  have hl : (mixN bs k m z.toNat).length = len := by have := hown.1; simpa using this
  obtain ⟨x, hx⟩ : ∃ x, (mixN bs k m z.toNat)[k + z.toNat]? = some x := ⟨_, List.getElem?_eq_getElem (by omega)⟩
  have hc := hown.cellAt (k + z.toNat) (by omega)
  rw [List.getElem?_map, hx] at hc
  exact ⟨x, hc, hown.frozenAt _, mixN_at bs k m z.toNat x hx⟩

theorem mb_val (m : B32) (j : Nat) : I8 (mb m j) = ((m.toNat / 2 ^ (8 * j) % 256 : Nat) : Int) := by
  unfold I8 mb
  rw [BitVec.toNat_setWidth, BitVec.toNat_ushiftRight, Nat.shiftRight_eq_div_pow]
theorem mb_0 (m : B32) : I32 m % 256 = I8 (mb m 0) := by rw [mb_val]; unfold I32; simp
theorem mb_1 (m : B32) : I32 m / 256 % 256 = I8 (mb m 1) := by rw [mb_val]; unfold I32; omega
theorem mb_2 (m : B32) : I32 m / 65536 % 256 = I8 (mb m 2) := by rw [mb_val]; unfold I32; omega
theorem mb_3 (m : B32) : I32 m / 16777216 % 256 = I8 (mb m 3) := by rw [mb_val]; unfold I32; omega
theorem mb_3b (m : B32) : I32 m / 16777216 = I8 (mb m 3) := by rw [← mb_3]; have := I32.bd m; omega

theorem mixStored {bs : List B8} {k len cap g j : Nat} {m : B32} {x : B8} {y : Int} {wr : World} {base : Nat}
    (hown : wr.ownsRow base 5 1 (.slice (some ⟨g, 0, none⟩) len cap) len ((mixN bs k m j).map v8)) (HX : Hid (mixN bs k m (j + 1) = (mixN bs k m j).set (k + j) (x ^^^ mb m j))) (hy : y = I8 (mb m j)) :
    (wr.setCell ⟨g, k + j, none⟩ (.int .u8 (bits .xor .u8 (I8 x) y))).ownsRow base 5 1 (.slice (some ⟨g, 0, none⟩) len cap) len ((mixN bs k m (j + 1)).map v8) := by
  subst hy
  rw [HX.out, List.map_set, xor8]
  exact (hown.stored (k + j) _).1


set_option maxHeartbeats 4000000 in
theorem walkTellNo (g b s : Int) (f : Nat) (a n k h : Int) (x : Int) (m : B32) (w : World) (hf : f < 18446744073709551616) (hm : mayB g b s f a n k h = false) :
    Calls Try.prog 9 #[.agg #[.int .i64 g, .int .i64 b, .int .i64 s, .float .f64 f, .int .i64 a, .int .i64 n, .int .i64 k, .int .i64 h], .agg #[.int .u32 x, .int .u32 (I32 m)]] w fun e w' => e = .returned (.bool true) ∧ Below w.heap.size w w' := by
  go_enter Try.func9, Try.ntmps9
  go_wp2_with fail
  have C0 := Lib.hid ((Blk.new w 42 #[.int .i64 g, .int .i64 b, .int .i64 s, .float .f64 f, .int .i64 a, .int .i64 n, .int .i64 k, .int .i64 h]).alloc (.cells #[.int .u32 x, .int .u32 (I32 m)] 64))
  have N0 := Lib.hid (Blk.new (w.alloc (.cells #[.int .i64 g, .int .i64 b, .int .i64 s, .float .f64 f, .int .i64 a, .int .i64 n, .int .i64 k, .int .i64 h] 42)) 64 #[.int .u32 x, .int .u32 (I32 m)])
  simp only [World.size_alloc] at N0
  have B0 := Lib.hid (((Below.refl w.heap.size w).alloc (Nat.le_refl _) (.cells #[.int .i64 g, .int .i64 b, .int .i64 s, .float .f64 f, .int .i64 a, .int .i64 n, .int .i64 k, .int .i64 h] 42)).alloc (by simp) (.cells #[.int .u32 x, .int .u32 (I32 m)] 64))
  refine (awake16 _).mono ?_
  rintro e w1 ⟨rfl, hb1⟩
  have s1 := hb1.size
  simp only [World.size_alloc] at s1
  have C1 := Lib.hid (C0.out.below hb1 (by simp; omega))
  have N1 := Lib.hid (N0.out.below hb1 (by simp))
  have B1 := Lib.hid (B0.out.trans (hb1.mono (by simp; omega)))
  clear C0 N0 B0 hb1
  have k0 := C1.out.cell 0
  have k1 := C1.out.cell 1
  have k2 := C1.out.cell 2
  have k3 := C1.out.cell 3
  have k4 := C1.out.cell 4
  have k5 := C1.out.cell 5
  have k6 := C1.out.cell 6
  have k7 := C1.out.cell 7
  simp at k0 k1 k2 k3 k4 k5 k6 k7
  have m1 := N1.out.cell 1
  simp at m1
  go_wp2_with fail
  refine (refMay_any _ _ _ _ _ _ _ _ _ hf).mono ?_
  rw [hm]
  rintro e w2 ⟨rfl, hb2⟩
  have s2 := hb2.size
  have C2 := Lib.hid (C1.out.below hb2 (by omega))
  have N2 := Lib.hid (N1.out.below hb2 (by omega))
  have B2 := Lib.hid (B1.out.trans (hb2.mono (by omega)))
  clear C1 N1 B1 hb2 k0 k1 k2 k3 k4 k5 k6 k7 m1
  go_wp2_with fail
  go_ret
  exact ⟨rfl, B2.out⟩
set_option maxHeartbeats 4000000 in
theorem walkTellZero (g b s : Int) (f : Nat) (a n k h : Int) (x : Int) (m : B32) (w : World) (hf : f < 18446744073709551616) (hm : mayB g b s f a n k h = true) (hz : (I32 m == 0) = true) :
    Calls Try.prog 9 #[.agg #[.int .i64 g, .int .i64 b, .int .i64 s, .float .f64 f, .int .i64 a, .int .i64 n, .int .i64 k, .int .i64 h], .agg #[.int .u32 x, .int .u32 (I32 m)]] w fun e w' => e = .returned (.bool true) ∧ Below w.heap.size w w' := by
  go_enter Try.func9, Try.ntmps9
  go_wp2_with fail
  have C0 := Lib.hid ((Blk.new w 42 #[.int .i64 g, .int .i64 b, .int .i64 s, .float .f64 f, .int .i64 a, .int .i64 n, .int .i64 k, .int .i64 h]).alloc (.cells #[.int .u32 x, .int .u32 (I32 m)] 64))
  have N0 := Lib.hid (Blk.new (w.alloc (.cells #[.int .i64 g, .int .i64 b, .int .i64 s, .float .f64 f, .int .i64 a, .int .i64 n, .int .i64 k, .int .i64 h] 42)) 64 #[.int .u32 x, .int .u32 (I32 m)])
  simp only [World.size_alloc] at N0
  have B0 := Lib.hid (((Below.refl w.heap.size w).alloc (Nat.le_refl _) (.cells #[.int .i64 g, .int .i64 b, .int .i64 s, .float .f64 f, .int .i64 a, .int .i64 n, .int .i64 k, .int .i64 h] 42)).alloc (by simp) (.cells #[.int .u32 x, .int .u32 (I32 m)] 64))
  refine (awake16 _).mono ?_
  rintro e w1 ⟨rfl, hb1⟩
  have s1 := hb1.size
  simp only [World.size_alloc] at s1
  have C1 := Lib.hid (C0.out.below hb1 (by simp; omega))
  have N1 := Lib.hid (N0.out.below hb1 (by simp))
  have B1 := Lib.hid (B0.out.trans (hb1.mono (by simp; omega)))
  clear C0 N0 B0 hb1
  have k0 := C1.out.cell 0
  have k1 := C1.out.cell 1
  have k2 := C1.out.cell 2
  have k3 := C1.out.cell 3
  have k4 := C1.out.cell 4
  have k5 := C1.out.cell 5
  have k6 := C1.out.cell 6
  have k7 := C1.out.cell 7
  simp at k0 k1 k2 k3 k4 k5 k6 k7
  have m1 := N1.out.cell 1
  simp at m1
  go_wp2_with fail
  refine (refMay_any _ _ _ _ _ _ _ _ _ hf).mono ?_
  rw [hm]
  rintro e w2 ⟨rfl, hb2⟩
  have s2 := hb2.size
  have C2 := Lib.hid (C1.out.below hb2 (by omega))
  have N2 := Lib.hid (N1.out.below hb2 (by omega))
  have B2 := Lib.hid (B1.out.trans (hb2.mono (by omega)))
  clear C1 N1 B1 hb2 k0 k1 k2 k3 k4 k5 k6 k7 m1
  have m1 := N2.out.cell 1
  simp at m1
  go_wp2_with fail
  go_ret
  exact ⟨rfl, B2.out⟩
set_option maxHeartbeats 8000000 in
theorem walkTellOk (g b s f a n k h : Nat) (x : Int) (m : B32) (w : World) (hf : f < 18446744073709551616) (hm : mayB g b s f a n k h = true) (hz : (I32 m == 0) = false) (hx0 : 0 ≤ x) (hx1 : x ≤ 4294967295) :
    Calls Try.prog 9 #[.agg #[.int .i64 g, .int .i64 b, .int .i64 s, .float .f64 f, .int .i64 a, .int .i64 n, .int .i64 k, .int .i64 h], .agg #[.int .u32 x, .int .u32 (I32 m)]] w fun e w' => e = .returned (.bool true) ∧ Below w.heap.size w w' := by
  have EN := fun W : World => Lib.hid (enc_ok g b s f a n k h W hf hm)
  go_enter Try.func9, Try.ntmps9
  go_wp2_with fail
  have C0 := Lib.hid ((Blk.new w 42 #[.int .i64 g, .int .i64 b, .int .i64 s, .float .f64 f, .int .i64 a, .int .i64 n, .int .i64 k, .int .i64 h]).alloc (.cells #[.int .u32 x, .int .u32 (I32 m)] 64))
  have N0 := Lib.hid (Blk.new (w.alloc (.cells #[.int .i64 g, .int .i64 b, .int .i64 s, .float .f64 f, .int .i64 a, .int .i64 n, .int .i64 k, .int .i64 h] 42)) 64 #[.int .u32 x, .int .u32 (I32 m)])
  simp only [World.size_alloc] at N0
  have B0 := Lib.hid (((Below.refl w.heap.size w).alloc (Nat.le_refl _) (.cells #[.int .i64 g, .int .i64 b, .int .i64 s, .float .f64 f, .int .i64 a, .int .i64 n, .int .i64 k, .int .i64 h] 42)).alloc (by simp) (.cells #[.int .u32 x, .int .u32 (I32 m)] 64))
  refine (awake16 _).mono ?_
  rintro e w1 ⟨rfl, hb1⟩
  have s1 := hb1.size
  simp only [World.size_alloc] at s1
  have C1 := Lib.hid (C0.out.below hb1 (by simp; omega))
  have N1 := Lib.hid (N0.out.below hb1 (by simp))
  have B1 := Lib.hid (B0.out.trans (hb1.mono (by simp; omega)))
  clear C0 N0 B0 hb1
  have k0 := C1.out.cell 0
  have k1 := C1.out.cell 1
  have k2 := C1.out.cell 2
  have k3 := C1.out.cell 3
  have k4 := C1.out.cell 4
  have k5 := C1.out.cell 5
  have k6 := C1.out.cell 6
  have k7 := C1.out.cell 7
  simp at k0 k1 k2 k3 k4 k5 k6 k7
  have m1 := N1.out.cell 1
  simp at m1
  go_wp2_with fail
  refine (refMay_any _ _ _ _ _ _ _ _ _ hf).mono ?_
  rw [hm]
  rintro e w2 ⟨rfl, hb2⟩
  have s2 := hb2.size
  have C2 := Lib.hid (C1.out.below hb2 (by omega))
  have N2 := Lib.hid (N1.out.below hb2 (by omega))
  have B2 := Lib.hid (B1.out.trans (hb2.mono (by omega)))
  clear C1 N1 B1 hb2 k0 k1 k2 k3 k4 k5 k6 k7 m1
  have m1 := N2.out.cell 1
  simp at m1
  have k0 := C2.out.cell 0
  have k1 := C2.out.cell 1
  have k2 := C2.out.cell 2
  have k3 := C2.out.cell 3
  have k4 := C2.out.cell 4
  have k5 := C2.out.cell 5
  have k6 := C2.out.cell 6
  have k7 := C2.out.cell 7
  simp at k0 k1 k2 k3 k4 k5 k6 k7
  go_wp2_with fail
  refine (crown_any _ _ _ _ _ _ _ _ _).mono ?_
  rintro e w3 ⟨rfl, hb3⟩
  have s3 := hb3.size
  have N3 := Lib.hid (N2.out.below hb3 (by omega))
  have B3 := Lib.hid (B2.out.trans (hb3.mono (by omega)))
  clear C2 N2 B2 hb3 k0 k1 k2 k3 k4 k5 k6 k7 m1
  go_wp2_with fail
  refine (EN _).out.mono ?_
  rintro e w4 ⟨A1, c1, rfl, hc1, ho4, hb4⟩
  have s4 := hb4.size
  obtain ⟨gb, rfl, hgb, hgl⟩ : ∃ gb, A1 = some ⟨gb, 0, none⟩ ∧ w3.heap.size ≤ gb ∧ gb < w4.heap.size := by
    rcases ho4.2 with ⟨_, h⟩ | ⟨gb, _, _, e, _⟩
    · omega
    · injection e with e
      subst e
      have := ho4.lt gb rfl
      exact ⟨gb, rfl, this.1, this.2⟩
  have N4 := Lib.hid (N3.out.below hb4 (by omega))
  have B4 := Lib.hid (B3.out.trans (hb4.mono (by omega)))
  have O4 := Lib.hid ho4
  clear N3 B3 hb4 ho4 EN
  obtain ⟨L, hL⟩ : ∃ L, crownL g b s a n k h f = L := ⟨_, rfl⟩
  rw [hL] at O4
  have n0 := N4.out.cell 0
  simp at n0
  obtain ⟨u, hu⟩ : ∃ u : Nat, x % 61 = (u : Int) := ⟨(x % 61).toNat, by omega⟩
  have hu2 : u ≤ 60 := by omega
  obtain ⟨T, hT⟩ : ∃ t : Bool, decide (56 < (u : Int)) = t := ⟨_, rfl⟩
  go_upto_if 41 with fail
  have HT := Lib.hid hT
  have HX := Lib.hid hu
  clear hT hu
  go_cut [7] from 42 to 43 (fun q wx => (∃ o : Nat, q = .int .i64 (o : Int) ∧ (o ≤ 56 ∨ o = 60)) ∧ wx = w4)
  case first =>
    cases T with
    | true =>
      go_wp2_with fail
      go_meet
      exact ⟨⟨60, rfl, .inr rfl⟩, rfl⟩
    | false =>
      have := of_decide_eq_false HT.out
      go_wp2_with fail
      go_meet
      exact ⟨⟨u, rfl, .inl (by omega)⟩, rfl⟩
  case rest =>
  obtain ⟨⟨o, rfl, ho⟩, rfl⟩ := hcut
  clear HX HT
  apply_assumption
  go_wp2_with fail
  have ho60 : o + 4 ≤ 64 := by omega
  have hoI : (o : Int) ≤ 60 := by omega
  have hmd := I32.bd m
  have hLl : L.length = 64 := by rw [← hL]; exact crownL_length _ _ _ _ _ _ _ _
  have hm0 : m ≠ 0#32 := by intro e; subst e; simp [I32] at hz
  have HD := Lib.hid (tells_dec g b s a n k h f o m hm0 ho)
  rw [hL] at HD
  have HO := Lib.hid ho
  clear hL ho hm0 n0
  go_loopw [8] (fun i wr => ∃ z : Int, 0 ≤ z ∧ z ≤ 4 ∧ i = .int .i64 z ∧ wr.ownsRow w3.heap.size 5 1 (.slice (some ⟨gb, 0, none⟩) 64 c1) 64 ((mixN L o m z.toNat).map v8) ∧ Blk wr (w.heap.size + 1) 64 #[.int .u32 x, .int .u32 (I32 m)] ∧ Below w.heap.size w wr) (fun i _ => 4 - (intOf i).toNat)
  case atStart => exact ⟨0, by omega, by omega, rfl, O4.out, N4.out, B4.out⟩
  case round =>
    clear O4 N4 B4
    obtain ⟨z, hz1, hz2, rfl, hown, hN, hb⟩ := hrel
    have NN := Lib.hid hN
    have OO := Lib.hid hown
    have BB := Lib.hid hb
    have m1 := hN.cell 1
    simp at m1
    have ngb : ¬ gb = w.heap.size + 1 := by omega
    have F := mixFacts (bs := L) (k := o) (m := m) ho60 hown
    clear hown hN hb
    by_cases hlt : z < 4
    · rcases (by omega : z = 0 ∨ z = 1 ∨ z = 2 ∨ z = 3) with rfl | rfl | rfl | rfl
      · obtain ⟨xx, hc0, hf0, HX⟩ := F (by decide)
        have hc : wr.cell? ⟨gb, o, none⟩ = some (.int .u8 (I8 xx)) := hc0
        have hfz : wr.frozen? ⟨gb, o, none⟩ = false := hf0
        clear F hc0 hf0
        have hbd := I8.bd xx
        go_wp2
        go_big_region
        go_wp2_with fail
        exact ⟨⟨1, by omega, by omega, rfl, (mixStored (j := 0) OO.out HX (by first | exact mb_0 m | exact mb_3b m)).drew, (NN.out.far (fun e => ngb e.symm) _).drew, below_drewN (BB.out.setCell (by show _ ≤ gb; omega) _) 1⟩, by simp [intOf]⟩
      · obtain ⟨xx, hc0, hf0, HX⟩ := F (by decide)
        have hc : wr.cell? ⟨gb, o + 1, none⟩ = some (.int .u8 (I8 xx)) := hc0
        have hfz : wr.frozen? ⟨gb, o + 1, none⟩ = false := hf0
        clear F hc0 hf0
        have hbd := I8.bd xx
        go_wp2
        go_big_region
        go_wp2_with fail
        exact ⟨⟨2, by omega, by omega, rfl, (mixStored (j := 1) OO.out HX (by first | exact mb_1 m | exact mb_3b m)).drew, (NN.out.far (fun e => ngb e.symm) _).drew, below_drewN (BB.out.setCell (by show _ ≤ gb; omega) _) 1⟩, by simp [intOf]⟩
      · obtain ⟨xx, hc0, hf0, HX⟩ := F (by decide)
        have hc : wr.cell? ⟨gb, o + 2, none⟩ = some (.int .u8 (I8 xx)) := hc0
        have hfz : wr.frozen? ⟨gb, o + 2, none⟩ = false := hf0
        clear F hc0 hf0
        have hbd := I8.bd xx
        go_wp2
        go_big_region
        go_wp2_with fail
        exact ⟨⟨3, by omega, by omega, rfl, (mixStored (j := 2) OO.out HX (by first | exact mb_2 m | exact mb_3b m)).drew, (NN.out.far (fun e => ngb e.symm) _).drew, below_drewN (BB.out.setCell (by show _ ≤ gb; omega) _) 1⟩, by simp [intOf]⟩
      · obtain ⟨xx, hc0, hf0, HX⟩ := F (by decide)
        have hc : wr.cell? ⟨gb, o + 3, none⟩ = some (.int .u8 (I8 xx)) := hc0
        have hfz : wr.frozen? ⟨gb, o + 3, none⟩ = false := hf0
        clear F hc0 hf0
        have hbd := I8.bd xx
        go_wp2
        go_big_region
        go_wp2_with fail
        exact ⟨⟨4, by omega, by omega, rfl, (mixStored (j := 3) OO.out HX (by first | exact mb_3 m | exact mb_3b m)).drew, (NN.out.far (fun e => ngb e.symm) _).drew, below_drewN (BB.out.setCell (by show _ ≤ gb; omega) _) 1⟩, by simp [intOf]⟩
    · obtain rfl : z = 4 := by omega
      clear F
      have RR := Lib.hid (Rd.of_own OO.out)
      have DD := Lib.hid (dec_any (some ⟨gb, 0, none⟩) 64 c1 _ wr RR.out hc1)
      rw [show (4 : Int).toNat = 4 from rfl, HD.out.1, HD.out.2] at DD
      have sw : w.heap.size ≤ wr.heap.size := BB.out.size
      unfold zeroV at DD
      have D2 := fun W : World => Lib.hid (dec_arg (some ⟨gb, 0, none⟩) 63 c1 W (by decide))
      unfold zeroV at D2
      have hst := storeFloat
      go_wp2_with fail
      refine DD.out.mono ?_
      rintro e w5 ⟨rfl, hb5⟩
      have B5 := Lib.hid (BB.out.trans (hb5.mono sw))
      have s5 := hb5.size
      clear hb5 DD RR
      go_wp2_with fail
      refine (D2 _).out.mono ?_
      rintro e w6 ⟨rfl, hb6⟩
      have h6 : Below w.heap.size w w6 := by
        first
          | exact B5.out.trans (hb6.mono (by omega))
          | exact (B5.out.alloc (by omega) _).trans (hb6.mono (by simp; omega))
      have s6 : w.heap.size ≤ w6.heap.size := h6.size
      have H6 := Lib.hid h6
      clear hb6 h6
      go_wp2_with fail
      go_ret
      first
        | exact ⟨rfl, H6.out⟩
        | exact ⟨rfl, H6.out.alloc s6 _⟩
theorem walkTell (g b s : Int) (f : Nat) (a n k h : Int) (x y : Int) (w : World) (hf : f < 18446744073709551616) (hx : 0 ≤ x ∧ x ≤ 4294967295) (hy : 0 ≤ y ∧ y ≤ 4294967295) :
    Calls Try.prog 9 #[.agg #[.int .i64 g, .int .i64 b, .int .i64 s, .float .f64 f, .int .i64 a, .int .i64 n, .int .i64 k, .int .i64 h], .agg #[.int .u32 x, .int .u32 y]] w fun e w' => e = .returned (.bool true) ∧ Below w.heap.size w w' := by
  obtain ⟨m, rfl⟩ := I32.of hy.1 hy.2
  rcases tf (mayB g b s f a n k h) with hm | hm
  · rcases tf (I32 m == 0) with hz | hz
    · exact walkTellZero g b s f a n k h x m w hf hm hz
    · obtain ⟨_, _, _, _, _, _, _, rfl, rfl, rfl, rfl, rfl, rfl, rfl⟩ := enc_nat hm
      exact walkTellOk _ _ _ f _ _ _ _ x m w hf hm hz hx.1 hx.2
  · exact walkTellNo g b s f a n k h x m w hf hm
end Go.Proofs.Ythhgmanoifpoiaa

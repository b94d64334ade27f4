/- The walk of LeafTells. -/
import Derived.Test.YtbnhohnlbbkmoaaTellsP
import Derived.Test.YtbnhohnlbbkmoaaAw5
import Derived.WalkSpells
import Derived.Outline
namespace Go.Proofs.Ytbnhohnlbbkmoaa
open Go.RowKit
set_option linter.unusedVariables false

theorem mixFacts5 {bs : List B8} {k len cap g : Nat} {m : B32} {z : Int} {wr : World} {base : Nat} (hk : k + 4 ≤ len)
    (hown : wr.ownsRow base 5 1 (.slice (some ⟨g, 0, none⟩) len cap) len ((mixN bs k m z.toNat).map v8)) (hz : z.toNat < 4) :
    ∃ x, wr.cell? ⟨g, k + z.toNat, none⟩ = some (.int .u8 (I8 x)) ∧ wr.frozen? ⟨g, k + z.toNat, none⟩ = false ∧ Hid (mixN bs k m (z.toNat + 1) = (mixN bs k m z.toNat).set (k + z.toNat) (x ^^^ mb m z.toNat)) := by
  have hl : (mixN bs k m z.toNat).length = len := by have := hown.1; simpa using this
  obtain ⟨x, hx⟩ : ∃ x, (mixN bs k m z.toNat)[k + z.toNat]? = some x := ⟨_, List.getElem?_eq_getElem (by omega)⟩
  have hc := hown.cellAt (k + z.toNat) (by omega)
  rw [List.getElem?_map, hx] at hc
  exact ⟨x, hc, hown.frozenAt _, mixN_at bs k m z.toNat x hx⟩
theorem mixStored5 {bs : List B8} {k len cap g j : Nat} {m : B32} {x : B8} {y : Int} {wr : World} {base : Nat}
    (hown : wr.ownsRow base 5 1 (.slice (some ⟨g, 0, none⟩) len cap) len ((mixN bs k m j).map v8)) (HX : Hid (mixN bs k m (j + 1) = (mixN bs k m j).set (k + j) (x ^^^ mb m j))) (hy : y = I8 (mb m j)) :
    (wr.setCell ⟨g, k + j, none⟩ (.int .u8 (bits .xor .u8 (I8 x) y))).ownsRow base 5 1 (.slice (some ⟨g, 0, none⟩) len cap) len ((mixN bs k m (j + 1)).map v8) := by
  subst hy
  rw [HX.out, List.map_set, xor8]
  exact (hown.stored (k + j) _).1

theorem make_frame5 (kind : B8) (gen : B32) (g : Int) (A : Option Addr) (n c : Nat) (ds : List B8) (w w1 : World) (hr : Rd w w.heap.size A n ds) (hb : Below w.heap.size w w1) (hn : n ≤ 4096) (hg : I32 gen ≤ 2147483647) (hge : g = I32 gen) :
    Calls Try.prog 21 #[.int .u8 (I8 kind), .int .i64 g, .slice A n c] w1 fun e w' =>
      e = .returned (.tuple #[.slice (some ⟨w1.heap.size, 0, none⟩) (64 * blocksN n) (64 * blocksN n), .int .i64 0]) ∧ w'.heap[w1.heap.size]? = some (.cells ((frame kind gen ds).map v8).toArray 5 (0, 0)) ∧ Below w1.heap.size w1 w' := by
  subst hge
  exact make_ok kind gen A n c ds w1 ((hr.below hb).more hb.size) hn hg

theorem walkLTells0 (kind : B8) (a0 : Option Addr) (len0 cap0 : Nat) (q m1 : Int) (w : World) (h : 4096 < len0 ∨ m1 = 0) :
    Calls Try.prog 8 #[.int .u8 (I8 kind), .slice a0 len0 cap0, .agg #[.int .u32 q, .int .u32 m1]] w fun e w' => e = .returned (.bool true) ∧ Below w.heap.size w w' := by
  by_cases hhi : 4096 < len0
  · clear h
    go_enter Try.func8, Try.ntmps8
    go_wp2_with (first
      | (go_at_call 20
         refine (awake5 _).mono ?_
         rintro e w1 ⟨rfl, hb1⟩
         have hs1 : w.heap.size < w1.heap.size := by have := hb1.size; simp at this; omega
         have hc0 : w1.cell? ⟨w.heap.size, 0, none⟩ = some (.int .u32 q) := by rw [hb1.cell (by simp)]; simp
         have hc1 : w1.cell? ⟨w.heap.size, 1, none⟩ = some (.int .u32 (m1)) := by rw [hb1.cell (by simp)]; simp
         have hbw : Below w.heap.size w w1 := ((Below.refl _ _).alloc (Nat.le_refl _) _).trans (hb1.mono (by simp))
         clear hb1))
    go_ret
    exact ⟨rfl, hbw⟩
  · obtain rfl : m1 = 0 := by omega
    clear h
    go_enter Try.func8, Try.ntmps8
    go_wp2_with (first
      | (go_at_call 20
         refine (awake5 _).mono ?_
         rintro e w1 ⟨rfl, hb1⟩
         have hs1 : w.heap.size < w1.heap.size := by have := hb1.size; simp at this; omega
         have hc0 : w1.cell? ⟨w.heap.size, 0, none⟩ = some (.int .u32 q) := by rw [hb1.cell (by simp)]; simp
         have hc1 : w1.cell? ⟨w.heap.size, 1, none⟩ = some (.int .u32 0) := by rw [hb1.cell (by simp)]; simp
         have hbw : Below w.heap.size w w1 := ((Below.refl _ _).alloc (Nat.le_refl _) _).trans (hb1.mono (by simp))
         clear hb1))
    go_ret
    exact ⟨rfl, hbw⟩

set_option maxHeartbeats 2000000 in
theorem walkLTellsC1 (kind : B8) (a0 : Option Addr) (len0 cap0 N : Nat) (q : Int) (p0 : Nat) (m : B32) (w : World) (bs : List B8) (F : List B8) (hlen : ¬ 4096 < len0) (hm0 : (I32 m == 0) = false) (hq : 0 ≤ q ∧ q ≤ 4294967295)
    (hN64 : 64 ≤ N ∧ N ≤ 4160) (hp0 : q % ((N : Int) - 3) = (p0 : Int)) (hpN : p0 + 4 ≤ N) (k : Nat) (hk : p0 = k) (hkk : k ≤ 4) (hFl : F.length = N)
    (MK : ∀ w1, Below w.heap.size w w1 → Hid (Calls Try.prog 21 #[.int .u8 (I8 kind), .int .i64 5, .slice a0 len0 cap0] w1 fun e w' =>
      e = .returned (.tuple #[.slice (some ⟨w1.heap.size, 0, none⟩) N N, .int .i64 0]) ∧ w'.heap[w1.heap.size]? = some (.cells (F.map v8).toArray 5 (0, 0)) ∧ Below w1.heap.size w1 w'))
    (HT : Hid (openE (mixN F k m 4) kind ≠ 0)) :
    Calls Try.prog 8 #[.int .u8 (I8 kind), .slice a0 len0 cap0, .agg #[.int .u32 q, .int .u32 (I32 m)]] w fun e w' => e = .returned (.bool true) ∧ Below w.heap.size w w' := by
  have hmd := I32.bd m
  have hkd := I8.bd kind
  go_enter Try.func8, Try.ntmps8

  go_wp2_with (first
    | (go_at_call 20
       refine (awake5 _).mono ?_
       rintro e w1 ⟨rfl, hb1⟩
       have hs1 : w.heap.size < w1.heap.size := by have := hb1.size; simp at this; omega
       have hc0 : w1.cell? ⟨w.heap.size, 0, none⟩ = some (.int .u32 q) := by rw [hb1.cell (by simp)]; simp
       have hc1 : w1.cell? ⟨w.heap.size, 1, none⟩ = some (.int .u32 (I32 m)) := by rw [hb1.cell (by simp)]; simp
       have hbw : Below w.heap.size w w1 := ((Below.refl _ _).alloc (Nat.le_refl _) _).trans (hb1.mono (by simp))
       clear hb1)
    | (go_at_call 21
       refine (MK w1 hbw).out.mono ?_
       rintro e w2 ⟨rfl, hblk, hb2⟩
       have hd0 : w2.cell? ⟨w.heap.size, 0, none⟩ = some (.int .u32 q) := by rw [hb2.cell (by simpa using hs1)]; exact hc0
       have hd1 : w2.cell? ⟨w.heap.size, 1, none⟩ = some (.int .u32 (I32 m)) := by rw [hb2.cell (by simpa using hs1)]; exact hc1
       clear hc0 hc1))
  have hown2 : w2.ownsRow w.heap.size 5 1 (.slice (some ⟨w1.heap.size, 0, none⟩) N N) N ((mixN F k m 0).map v8) := block_own hblk (by omega) (by rw [List.length_map]; exact hFl) (by omega)
  have hb3 : Below (w.heap.size + 1) w2 w2 := Below.refl _ _
  have hbw2 : Below w.heap.size w w2 := hbw.trans (hb2.mono (by omega))
  have HD1 := Lib.hid hd1
  clear hblk hd0 hd1 hb2 hbw
  go_loopw [10] (fun i wr => ∃ z : Int, 0 ≤ z ∧ z ≤ 4 ∧ i = .int .i64 z ∧ wr.ownsRow w.heap.size 5 1 (.slice (some ⟨w1.heap.size, 0, none⟩) N N) N ((mixN F k m z.toNat).map v8) ∧ Below (w.heap.size + 1) w2 wr) (fun i _ => 4 - (intOf i).toNat)
  case atStart => exact ⟨0, by omega, by omega, rfl, hown2, hb3⟩
  case round =>
    obtain ⟨z, hz1, hz2, rfl, hown, hb⟩ := hrel
    by_cases hlt : z < 4
    · have hd1 : wr.cell? ⟨w.heap.size, 1, none⟩ = some (.int .u32 (I32 m)) := by rw [hb.cell (by simp)]; exact HD1.out
      have FF := mixFacts5 (bs := F) (k := k) (m := m) (by omega) hown
      rcases (by omega : z = 0 ∨ z = 1 ∨ z = 2 ∨ z = 3) with rfl | rfl | rfl | rfl
      · obtain ⟨x, hcx, hfx, HX⟩ := FF (by decide)
        have hc : wr.cell? ⟨w1.heap.size, k, none⟩ = some (.int .u8 (I8 x)) := hcx
        have hf : wr.frozen? ⟨w1.heap.size, k, none⟩ = false := hfx
        clear FF hcx hfx
        have hbd := I8.bd x
        go_wp2
        go_region
        go_wp2
        go_roundw
        case rel => exact ⟨1, by omega, by omega, rfl, mixStored5 (j := 0) hown HX (by first | exact mb_0 m | exact mb_3b m), (hb.setCell (by exact hs1) _).drew⟩
        case measure => simp [intOf]
      · obtain ⟨x, hcx, hfx, HX⟩ := FF (by decide)
        have hc : wr.cell? ⟨w1.heap.size, k + 1, none⟩ = some (.int .u8 (I8 x)) := hcx
        have hf : wr.frozen? ⟨w1.heap.size, k + 1, none⟩ = false := hfx
        clear FF hcx hfx
        have hbd := I8.bd x
        go_wp2
        go_region
        go_wp2
        go_roundw
        case rel => exact ⟨2, by omega, by omega, rfl, mixStored5 (j := 1) hown HX (by first | exact mb_1 m | exact mb_3b m), (hb.setCell (by exact hs1) _).drew⟩
        case measure => simp [intOf]
      · obtain ⟨x, hcx, hfx, HX⟩ := FF (by decide)
        have hc : wr.cell? ⟨w1.heap.size, k + 2, none⟩ = some (.int .u8 (I8 x)) := hcx
        have hf : wr.frozen? ⟨w1.heap.size, k + 2, none⟩ = false := hfx
        clear FF hcx hfx
        have hbd := I8.bd x
        go_wp2
        go_region
        go_wp2
        go_roundw
        case rel => exact ⟨3, by omega, by omega, rfl, mixStored5 (j := 2) hown HX (by first | exact mb_2 m | exact mb_3b m), (hb.setCell (by exact hs1) _).drew⟩
        case measure => simp [intOf]
      · obtain ⟨x, hcx, hfx, HX⟩ := FF (by decide)
        have hc : wr.cell? ⟨w1.heap.size, k + 3, none⟩ = some (.int .u8 (I8 x)) := hcx
        have hf : wr.frozen? ⟨w1.heap.size, k + 3, none⟩ = false := hfx
        clear FF hcx hfx
        have hbd := I8.bd x
        go_wp2
        go_region
        go_wp2
        go_roundw
        case rel => exact ⟨4, by omega, by omega, rfl, mixStored5 (j := 3) hown HX (by first | exact mb_3 m | exact mb_3b m), (hb.setCell (by exact hs1) _).drew⟩
        case measure => simp [intOf]
    · obtain rfl : z = 4 := by omega
      have hr2 := (Rd.of_own hown)
      have HO := Lib.hid (open_bad _ N N _ kind wr hr2 (Nat.le_refl _) (by omega) _ rfl HT.out)
      have hE := (beq_no HT.out).1
      have hE2 := (beq_no HT.out).2
      have hsz : w.heap.size ≤ wr.heap.size := by have := hb.size; have := hbw2.size; omega
      have e4 : (4 : Int).toNat = 4 := rfl
      rw [e4] at HO
      generalize openE (mixN F k m 4) kind = E at *
      clear hr2 hown
      go_wp2_with fail
      refine HO.out.mono ?_
      rintro e w' ⟨A', c', rfl, hb4⟩
      go_wp2_with fail
      go_ret
      exact ⟨rfl, hbw2.trans ((hb.mono (by omega)).trans (hb4.mono hsz))⟩

set_option maxHeartbeats 2000000 in
theorem walkLTellsC3 (kind : B8) (a0 : Option Addr) (len0 cap0 N : Nat) (q : Int) (p0 : Nat) (m : B32) (w : World) (bs : List B8) (F : List B8) (hlen : ¬ 4096 < len0) (hm0 : (I32 m == 0) = false) (hq : 0 ≤ q ∧ q ≤ 4294967295)
    (hN64 : 64 ≤ N ∧ N ≤ 4160) (hp0 : q % ((N : Int) - 3) = (p0 : Int)) (hpN : p0 + 4 ≤ N) (k : Nat) (hk : p0 = k) (hkk : 16 ≤ k) (hFl : F.length = N)
    (MK : ∀ w1, Below w.heap.size w w1 → Hid (Calls Try.prog 21 #[.int .u8 (I8 kind), .int .i64 5, .slice a0 len0 cap0] w1 fun e w' =>
      e = .returned (.tuple #[.slice (some ⟨w1.heap.size, 0, none⟩) N N, .int .i64 0]) ∧ w'.heap[w1.heap.size]? = some (.cells (F.map v8).toArray 5 (0, 0)) ∧ Below w1.heap.size w1 w'))
    (HT : Hid (openE (mixN F k m 4) kind ≠ 0)) :
    Calls Try.prog 8 #[.int .u8 (I8 kind), .slice a0 len0 cap0, .agg #[.int .u32 q, .int .u32 (I32 m)]] w fun e w' => e = .returned (.bool true) ∧ Below w.heap.size w w' := by
  have hmd := I32.bd m
  have hkd := I8.bd kind
  go_enter Try.func8, Try.ntmps8

  go_wp2_with (first
    | (go_at_call 20
       refine (awake5 _).mono ?_
       rintro e w1 ⟨rfl, hb1⟩
       have hs1 : w.heap.size < w1.heap.size := by have := hb1.size; simp at this; omega
       have hc0 : w1.cell? ⟨w.heap.size, 0, none⟩ = some (.int .u32 q) := by rw [hb1.cell (by simp)]; simp
       have hc1 : w1.cell? ⟨w.heap.size, 1, none⟩ = some (.int .u32 (I32 m)) := by rw [hb1.cell (by simp)]; simp
       have hbw : Below w.heap.size w w1 := ((Below.refl _ _).alloc (Nat.le_refl _) _).trans (hb1.mono (by simp))
       clear hb1)
    | (go_at_call 21
       refine (MK w1 hbw).out.mono ?_
       rintro e w2 ⟨rfl, hblk, hb2⟩
       have hd0 : w2.cell? ⟨w.heap.size, 0, none⟩ = some (.int .u32 q) := by rw [hb2.cell (by simpa using hs1)]; exact hc0
       have hd1 : w2.cell? ⟨w.heap.size, 1, none⟩ = some (.int .u32 (I32 m)) := by rw [hb2.cell (by simpa using hs1)]; exact hc1
       clear hc0 hc1))
  have hown2 : w2.ownsRow w.heap.size 5 1 (.slice (some ⟨w1.heap.size, 0, none⟩) N N) N ((mixN F k m 0).map v8) := block_own hblk (by omega) (by rw [List.length_map]; exact hFl) (by omega)
  have hb3 : Below (w.heap.size + 1) w2 w2 := Below.refl _ _
  have hbw2 : Below w.heap.size w w2 := hbw.trans (hb2.mono (by omega))
  have HD1 := Lib.hid hd1
  clear hblk hd0 hd1 hb2 hbw
  go_loopw [10] (fun i wr => ∃ z : Int, 0 ≤ z ∧ z ≤ 4 ∧ i = .int .i64 z ∧ wr.ownsRow w.heap.size 5 1 (.slice (some ⟨w1.heap.size, 0, none⟩) N N) N ((mixN F k m z.toNat).map v8) ∧ Below (w.heap.size + 1) w2 wr) (fun i _ => 4 - (intOf i).toNat)
  case atStart => exact ⟨0, by omega, by omega, rfl, hown2, hb3⟩
  case round =>
    obtain ⟨z, hz1, hz2, rfl, hown, hb⟩ := hrel
    by_cases hlt : z < 4
    · have hd1 : wr.cell? ⟨w.heap.size, 1, none⟩ = some (.int .u32 (I32 m)) := by rw [hb.cell (by simp)]; exact HD1.out
      have FF := mixFacts5 (bs := F) (k := k) (m := m) (by omega) hown
      rcases (by omega : z = 0 ∨ z = 1 ∨ z = 2 ∨ z = 3) with rfl | rfl | rfl | rfl
      · obtain ⟨x, hcx, hfx, HX⟩ := FF (by decide)
        have hc : wr.cell? ⟨w1.heap.size, k, none⟩ = some (.int .u8 (I8 x)) := hcx
        have hf : wr.frozen? ⟨w1.heap.size, k, none⟩ = false := hfx
        clear FF hcx hfx
        have hbd := I8.bd x
        go_wp2
        go_region
        go_wp2
        go_roundw
        case rel => exact ⟨1, by omega, by omega, rfl, mixStored5 (j := 0) hown HX (by first | exact mb_0 m | exact mb_3b m), (hb.setCell (by exact hs1) _).drew⟩
        case measure => simp [intOf]
      · obtain ⟨x, hcx, hfx, HX⟩ := FF (by decide)
        have hc : wr.cell? ⟨w1.heap.size, k + 1, none⟩ = some (.int .u8 (I8 x)) := hcx
        have hf : wr.frozen? ⟨w1.heap.size, k + 1, none⟩ = false := hfx
        clear FF hcx hfx
        have hbd := I8.bd x
        go_wp2
        go_region
        go_wp2
        go_roundw
        case rel => exact ⟨2, by omega, by omega, rfl, mixStored5 (j := 1) hown HX (by first | exact mb_1 m | exact mb_3b m), (hb.setCell (by exact hs1) _).drew⟩
        case measure => simp [intOf]
      · obtain ⟨x, hcx, hfx, HX⟩ := FF (by decide)
        have hc : wr.cell? ⟨w1.heap.size, k + 2, none⟩ = some (.int .u8 (I8 x)) := hcx
        have hf : wr.frozen? ⟨w1.heap.size, k + 2, none⟩ = false := hfx
        clear FF hcx hfx
        have hbd := I8.bd x
        go_wp2
        go_region
        go_wp2
        go_roundw
        case rel => exact ⟨3, by omega, by omega, rfl, mixStored5 (j := 2) hown HX (by first | exact mb_2 m | exact mb_3b m), (hb.setCell (by exact hs1) _).drew⟩
        case measure => simp [intOf]
      · obtain ⟨x, hcx, hfx, HX⟩ := FF (by decide)
        have hc : wr.cell? ⟨w1.heap.size, k + 3, none⟩ = some (.int .u8 (I8 x)) := hcx
        have hf : wr.frozen? ⟨w1.heap.size, k + 3, none⟩ = false := hfx
        clear FF hcx hfx
        have hbd := I8.bd x
        go_wp2
        go_region
        go_wp2
        go_roundw
        case rel => exact ⟨4, by omega, by omega, rfl, mixStored5 (j := 3) hown HX (by first | exact mb_3 m | exact mb_3b m), (hb.setCell (by exact hs1) _).drew⟩
        case measure => simp [intOf]
    · obtain rfl : z = 4 := by omega
      have hr2 := (Rd.of_own hown)
      have HO := Lib.hid (open_bad _ N N _ kind wr hr2 (Nat.le_refl _) (by omega) _ rfl HT.out)
      have hE := (beq_no HT.out).1
      have hE2 := (beq_no HT.out).2
      have hsz : w.heap.size ≤ wr.heap.size := by have := hb.size; have := hbw2.size; omega
      have e4 : (4 : Int).toNat = 4 := rfl
      rw [e4] at HO
      generalize openE (mixN F k m 4) kind = E at *
      clear hr2 hown
      go_wp2_with fail
      refine HO.out.mono ?_
      rintro e w' ⟨A', c', rfl, hb4⟩
      go_wp2_with fail
      go_ret
      exact ⟨rfl, hbw2.trans ((hb.mono (by omega)).trans (hb4.mono hsz))⟩

set_option maxHeartbeats 2000000 in
theorem walkLTellsA (kind : B8) (a0 : Option Addr) (len0 cap0 N : Nat) (q : Int) (p0 : Nat) (m : B32) (w : World) (bs : List B8) (F : List B8) (hlen : ¬ 4096 < len0) (hm0 : (I32 m == 0) = false) (hq : 0 ≤ q ∧ q ≤ 4294967295)
    (hN64 : 64 ≤ N ∧ N ≤ 4160) (hp0 : q % ((N : Int) - 3) = (p0 : Int)) (hpN : p0 + 4 ≤ N) (h1 : 4 < p0) (h2 : p0 < 12) (hFl : F.length = N)
    (MK : ∀ w1, Below w.heap.size w w1 → Hid (Calls Try.prog 21 #[.int .u8 (I8 kind), .int .i64 5, .slice a0 len0 cap0] w1 fun e w' =>
      e = .returned (.tuple #[.slice (some ⟨w1.heap.size, 0, none⟩) N N, .int .i64 0]) ∧ w'.heap[w1.heap.size]? = some (.cells (F.map v8).toArray 5 (0, 0)) ∧ Below w1.heap.size w1 w'))
    (HT : Hid (openE (mixN F 4 m 4) kind ≠ 0)) :
    Calls Try.prog 8 #[.int .u8 (I8 kind), .slice a0 len0 cap0, .agg #[.int .u32 q, .int .u32 (I32 m)]] w fun e w' => e = .returned (.bool true) ∧ Below w.heap.size w w' := by
  have hmd := I32.bd m
  have hkd := I8.bd kind
  go_enter Try.func8, Try.ntmps8

  go_wp2_with (first
    | (go_at_call 20
       refine (awake5 _).mono ?_
       rintro e w1 ⟨rfl, hb1⟩
       have hs1 : w.heap.size < w1.heap.size := by have := hb1.size; simp at this; omega
       have hc0 : w1.cell? ⟨w.heap.size, 0, none⟩ = some (.int .u32 q) := by rw [hb1.cell (by simp)]; simp
       have hc1 : w1.cell? ⟨w.heap.size, 1, none⟩ = some (.int .u32 (I32 m)) := by rw [hb1.cell (by simp)]; simp
       have hbw : Below w.heap.size w w1 := ((Below.refl _ _).alloc (Nat.le_refl _) _).trans (hb1.mono (by simp))
       clear hb1)
    | (go_at_call 21
       refine (MK w1 hbw).out.mono ?_
       rintro e w2 ⟨rfl, hblk, hb2⟩
       have hd0 : w2.cell? ⟨w.heap.size, 0, none⟩ = some (.int .u32 q) := by rw [hb2.cell (by simpa using hs1)]; exact hc0
       have hd1 : w2.cell? ⟨w.heap.size, 1, none⟩ = some (.int .u32 (I32 m)) := by rw [hb2.cell (by simpa using hs1)]; exact hc1
       clear hc0 hc1))
  have hown2 : w2.ownsRow w.heap.size 5 1 (.slice (some ⟨w1.heap.size, 0, none⟩) N N) N ((mixN F 4 m 0).map v8) := block_own hblk (by omega) (by rw [List.length_map]; exact hFl) (by omega)
  have hb3 : Below (w.heap.size + 1) w2 w2 := Below.refl _ _
  have hbw2 : Below w.heap.size w w2 := hbw.trans (hb2.mono (by omega))
  have HD1 := Lib.hid hd1
  clear hblk hd0 hd1 hb2 hbw
  go_loopw [10] (fun i wr => ∃ z : Int, 0 ≤ z ∧ z ≤ 4 ∧ i = .int .i64 z ∧ wr.ownsRow w.heap.size 5 1 (.slice (some ⟨w1.heap.size, 0, none⟩) N N) N ((mixN F 4 m z.toNat).map v8) ∧ Below (w.heap.size + 1) w2 wr) (fun i _ => 4 - (intOf i).toNat)
  case atStart => exact ⟨0, by omega, by omega, rfl, hown2, hb3⟩
  case round =>
    obtain ⟨z, hz1, hz2, rfl, hown, hb⟩ := hrel
    by_cases hlt : z < 4
    · have hd1 : wr.cell? ⟨w.heap.size, 1, none⟩ = some (.int .u32 (I32 m)) := by rw [hb.cell (by simp)]; exact HD1.out
      have FF := mixFacts5 (bs := F) (k := 4) (m := m) (by omega) hown
      rcases (by omega : z = 0 ∨ z = 1 ∨ z = 2 ∨ z = 3) with rfl | rfl | rfl | rfl
      · obtain ⟨x, hcx, hfx, HX⟩ := FF (by decide)
        have hc : wr.cell? ⟨w1.heap.size, 4, none⟩ = some (.int .u8 (I8 x)) := hcx
        have hf : wr.frozen? ⟨w1.heap.size, 4, none⟩ = false := hfx
        clear FF hcx hfx
        have hbd := I8.bd x
        go_wp2
        go_region
        go_wp2
        go_roundw
        case rel => exact ⟨1, by omega, by omega, rfl, mixStored5 (j := 0) hown HX (by first | exact mb_0 m | exact mb_3b m), (hb.setCell (by exact hs1) _).drew⟩
        case measure => simp [intOf]
      · obtain ⟨x, hcx, hfx, HX⟩ := FF (by decide)
        have hc : wr.cell? ⟨w1.heap.size, 5, none⟩ = some (.int .u8 (I8 x)) := hcx
        have hf : wr.frozen? ⟨w1.heap.size, 5, none⟩ = false := hfx
        clear FF hcx hfx
        have hbd := I8.bd x
        go_wp2
        go_region
        go_wp2
        go_roundw
        case rel => exact ⟨2, by omega, by omega, rfl, mixStored5 (j := 1) hown HX (by first | exact mb_1 m | exact mb_3b m), (hb.setCell (by exact hs1) _).drew⟩
        case measure => simp [intOf]
      · obtain ⟨x, hcx, hfx, HX⟩ := FF (by decide)
        have hc : wr.cell? ⟨w1.heap.size, 6, none⟩ = some (.int .u8 (I8 x)) := hcx
        have hf : wr.frozen? ⟨w1.heap.size, 6, none⟩ = false := hfx
        clear FF hcx hfx
        have hbd := I8.bd x
        go_wp2
        go_region
        go_wp2
        go_roundw
        case rel => exact ⟨3, by omega, by omega, rfl, mixStored5 (j := 2) hown HX (by first | exact mb_2 m | exact mb_3b m), (hb.setCell (by exact hs1) _).drew⟩
        case measure => simp [intOf]
      · obtain ⟨x, hcx, hfx, HX⟩ := FF (by decide)
        have hc : wr.cell? ⟨w1.heap.size, 7, none⟩ = some (.int .u8 (I8 x)) := hcx
        have hf : wr.frozen? ⟨w1.heap.size, 7, none⟩ = false := hfx
        clear FF hcx hfx
        have hbd := I8.bd x
        go_wp2
        go_region
        go_wp2
        go_roundw
        case rel => exact ⟨4, by omega, by omega, rfl, mixStored5 (j := 3) hown HX (by first | exact mb_3 m | exact mb_3b m), (hb.setCell (by exact hs1) _).drew⟩
        case measure => simp [intOf]
    · obtain rfl : z = 4 := by omega
      have hr2 := (Rd.of_own hown)
      have HO := Lib.hid (open_bad _ N N _ kind wr hr2 (Nat.le_refl _) (by omega) _ rfl HT.out)
      have hE := (beq_no HT.out).1
      have hE2 := (beq_no HT.out).2
      have hsz : w.heap.size ≤ wr.heap.size := by have := hb.size; have := hbw2.size; omega
      have e4 : (4 : Int).toNat = 4 := rfl
      rw [e4] at HO
      generalize openE (mixN F 4 m 4) kind = E at *
      clear hr2 hown
      go_wp2_with fail
      refine HO.out.mono ?_
      rintro e w' ⟨A', c', rfl, hb4⟩
      go_wp2_with fail
      go_ret
      exact ⟨rfl, hbw2.trans ((hb.mono (by omega)).trans (hb4.mono hsz))⟩

set_option maxHeartbeats 2000000 in
theorem walkLTellsB (kind : B8) (a0 : Option Addr) (len0 cap0 N : Nat) (q : Int) (p0 : Nat) (m : B32) (w : World) (bs : List B8) (F : List B8) (hlen : ¬ 4096 < len0) (hm0 : (I32 m == 0) = false) (hq : 0 ≤ q ∧ q ≤ 4294967295)
    (hN64 : 64 ≤ N ∧ N ≤ 4160) (hp0 : q % ((N : Int) - 3) = (p0 : Int)) (hpN : p0 + 4 ≤ N) (h1 : 12 < p0) (h2 : p0 < 16) (hFl : F.length = N)
    (MK : ∀ w1, Below w.heap.size w w1 → Hid (Calls Try.prog 21 #[.int .u8 (I8 kind), .int .i64 5, .slice a0 len0 cap0] w1 fun e w' =>
      e = .returned (.tuple #[.slice (some ⟨w1.heap.size, 0, none⟩) N N, .int .i64 0]) ∧ w'.heap[w1.heap.size]? = some (.cells (F.map v8).toArray 5 (0, 0)) ∧ Below w1.heap.size w1 w'))
    (HT : Hid (openE (mixN F 12 m 4) kind ≠ 0)) :
    Calls Try.prog 8 #[.int .u8 (I8 kind), .slice a0 len0 cap0, .agg #[.int .u32 q, .int .u32 (I32 m)]] w fun e w' => e = .returned (.bool true) ∧ Below w.heap.size w w' := by
  have hmd := I32.bd m
  have hkd := I8.bd kind
  go_enter Try.func8, Try.ntmps8

  go_wp2_with (first
    | (go_at_call 20
       refine (awake5 _).mono ?_
       rintro e w1 ⟨rfl, hb1⟩
       have hs1 : w.heap.size < w1.heap.size := by have := hb1.size; simp at this; omega
       have hc0 : w1.cell? ⟨w.heap.size, 0, none⟩ = some (.int .u32 q) := by rw [hb1.cell (by simp)]; simp
       have hc1 : w1.cell? ⟨w.heap.size, 1, none⟩ = some (.int .u32 (I32 m)) := by rw [hb1.cell (by simp)]; simp
       have hbw : Below w.heap.size w w1 := ((Below.refl _ _).alloc (Nat.le_refl _) _).trans (hb1.mono (by simp))
       clear hb1)
    | (go_at_call 21
       refine (MK w1 hbw).out.mono ?_
       rintro e w2 ⟨rfl, hblk, hb2⟩
       have hd0 : w2.cell? ⟨w.heap.size, 0, none⟩ = some (.int .u32 q) := by rw [hb2.cell (by simpa using hs1)]; exact hc0
       have hd1 : w2.cell? ⟨w.heap.size, 1, none⟩ = some (.int .u32 (I32 m)) := by rw [hb2.cell (by simpa using hs1)]; exact hc1
       clear hc0 hc1))
  have hown2 : w2.ownsRow w.heap.size 5 1 (.slice (some ⟨w1.heap.size, 0, none⟩) N N) N ((mixN F 12 m 0).map v8) := block_own hblk (by omega) (by rw [List.length_map]; exact hFl) (by omega)
  have hb3 : Below (w.heap.size + 1) w2 w2 := Below.refl _ _
  have hbw2 : Below w.heap.size w w2 := hbw.trans (hb2.mono (by omega))
  have HD1 := Lib.hid hd1
  clear hblk hd0 hd1 hb2 hbw
  go_loopw [10] (fun i wr => ∃ z : Int, 0 ≤ z ∧ z ≤ 4 ∧ i = .int .i64 z ∧ wr.ownsRow w.heap.size 5 1 (.slice (some ⟨w1.heap.size, 0, none⟩) N N) N ((mixN F 12 m z.toNat).map v8) ∧ Below (w.heap.size + 1) w2 wr) (fun i _ => 4 - (intOf i).toNat)
  case atStart => exact ⟨0, by omega, by omega, rfl, hown2, hb3⟩
  case round =>
    obtain ⟨z, hz1, hz2, rfl, hown, hb⟩ := hrel
    by_cases hlt : z < 4
    · have hd1 : wr.cell? ⟨w.heap.size, 1, none⟩ = some (.int .u32 (I32 m)) := by rw [hb.cell (by simp)]; exact HD1.out
      have FF := mixFacts5 (bs := F) (k := 12) (m := m) (by omega) hown
      rcases (by omega : z = 0 ∨ z = 1 ∨ z = 2 ∨ z = 3) with rfl | rfl | rfl | rfl
      · obtain ⟨x, hcx, hfx, HX⟩ := FF (by decide)
        have hc : wr.cell? ⟨w1.heap.size, 12, none⟩ = some (.int .u8 (I8 x)) := hcx
        have hf : wr.frozen? ⟨w1.heap.size, 12, none⟩ = false := hfx
        clear FF hcx hfx
        have hbd := I8.bd x
        go_wp2
        go_region
        go_wp2
        go_roundw
        case rel => exact ⟨1, by omega, by omega, rfl, mixStored5 (j := 0) hown HX (by first | exact mb_0 m | exact mb_3b m), (hb.setCell (by exact hs1) _).drew⟩
        case measure => simp [intOf]
      · obtain ⟨x, hcx, hfx, HX⟩ := FF (by decide)
        have hc : wr.cell? ⟨w1.heap.size, 13, none⟩ = some (.int .u8 (I8 x)) := hcx
        have hf : wr.frozen? ⟨w1.heap.size, 13, none⟩ = false := hfx
        clear FF hcx hfx
        have hbd := I8.bd x
        go_wp2
        go_region
        go_wp2
        go_roundw
        case rel => exact ⟨2, by omega, by omega, rfl, mixStored5 (j := 1) hown HX (by first | exact mb_1 m | exact mb_3b m), (hb.setCell (by exact hs1) _).drew⟩
        case measure => simp [intOf]
      · obtain ⟨x, hcx, hfx, HX⟩ := FF (by decide)
        have hc : wr.cell? ⟨w1.heap.size, 14, none⟩ = some (.int .u8 (I8 x)) := hcx
        have hf : wr.frozen? ⟨w1.heap.size, 14, none⟩ = false := hfx
        clear FF hcx hfx
        have hbd := I8.bd x
        go_wp2
        go_region
        go_wp2
        go_roundw
        case rel => exact ⟨3, by omega, by omega, rfl, mixStored5 (j := 2) hown HX (by first | exact mb_2 m | exact mb_3b m), (hb.setCell (by exact hs1) _).drew⟩
        case measure => simp [intOf]
      · obtain ⟨x, hcx, hfx, HX⟩ := FF (by decide)
        have hc : wr.cell? ⟨w1.heap.size, 15, none⟩ = some (.int .u8 (I8 x)) := hcx
        have hf : wr.frozen? ⟨w1.heap.size, 15, none⟩ = false := hfx
        clear FF hcx hfx
        have hbd := I8.bd x
        go_wp2
        go_region
        go_wp2
        go_roundw
        case rel => exact ⟨4, by omega, by omega, rfl, mixStored5 (j := 3) hown HX (by first | exact mb_3 m | exact mb_3b m), (hb.setCell (by exact hs1) _).drew⟩
        case measure => simp [intOf]
    · obtain rfl : z = 4 := by omega
      have hr2 := (Rd.of_own hown)
      have HO := Lib.hid (open_bad _ N N _ kind wr hr2 (Nat.le_refl _) (by omega) _ rfl HT.out)
      have hE := (beq_no HT.out).1
      have hE2 := (beq_no HT.out).2
      have hsz : w.heap.size ≤ wr.heap.size := by have := hb.size; have := hbw2.size; omega
      have e4 : (4 : Int).toNat = 4 := rfl
      rw [e4] at HO
      generalize openE (mixN F 12 m 4) kind = E at *
      clear hr2 hown
      go_wp2_with fail
      refine HO.out.mono ?_
      rintro e w' ⟨A', c', rfl, hb4⟩
      go_wp2_with fail
      go_ret
      exact ⟨rfl, hbw2.trans ((hb.mono (by omega)).trans (hb4.mono hsz))⟩

set_option maxHeartbeats 2000000 in
theorem walkLTellsD (kind : B8) (a0 : Option Addr) (len0 cap0 N : Nat) (q : Int) (p0 : Nat) (m : B32) (w : World) (bs : List B8) (F : List B8) (hlen : ¬ 4096 < len0) (hm0 : (I32 m == 0) = false) (hq : 0 ≤ q ∧ q ≤ 4294967295)
    (hN64 : 64 ≤ N ∧ N ≤ 4160) (hp0 : q % ((N : Int) - 3) = 12) (hpN : 12 + 4 ≤ N) (hFl : F.length = N)
    (MK : ∀ w1, Below w.heap.size w w1 → Hid (Calls Try.prog 21 #[.int .u8 (I8 kind), .int .i64 5, .slice a0 len0 cap0] w1 fun e w' =>
      e = .returned (.tuple #[.slice (some ⟨w1.heap.size, 0, none⟩) N N, .int .i64 0]) ∧ w'.heap[w1.heap.size]? = some (.cells (F.map v8).toArray 5 (0, 0)) ∧ Below w1.heap.size w1 w'))
    (HT : Hid (openE (mixN F 12 m 4) kind ≠ 0)) :
    Calls Try.prog 8 #[.int .u8 (I8 kind), .slice a0 len0 cap0, .agg #[.int .u32 q, .int .u32 (I32 m)]] w fun e w' => e = .returned (.bool true) ∧ Below w.heap.size w w' := by
  have hmd := I32.bd m
  have hkd := I8.bd kind
  go_enter Try.func8, Try.ntmps8

  go_wp2_with (first
    | (go_at_call 20
       refine (awake5 _).mono ?_
       rintro e w1 ⟨rfl, hb1⟩
       have hs1 : w.heap.size < w1.heap.size := by have := hb1.size; simp at this; omega
       have hc0 : w1.cell? ⟨w.heap.size, 0, none⟩ = some (.int .u32 q) := by rw [hb1.cell (by simp)]; simp
       have hc1 : w1.cell? ⟨w.heap.size, 1, none⟩ = some (.int .u32 (I32 m)) := by rw [hb1.cell (by simp)]; simp
       have hbw : Below w.heap.size w w1 := ((Below.refl _ _).alloc (Nat.le_refl _) _).trans (hb1.mono (by simp))
       clear hb1)
    | (go_at_call 21
       refine (MK w1 hbw).out.mono ?_
       rintro e w2 ⟨rfl, hblk, hb2⟩
       have hd0 : w2.cell? ⟨w.heap.size, 0, none⟩ = some (.int .u32 q) := by rw [hb2.cell (by simpa using hs1)]; exact hc0
       have hd1 : w2.cell? ⟨w.heap.size, 1, none⟩ = some (.int .u32 (I32 m)) := by rw [hb2.cell (by simpa using hs1)]; exact hc1
       clear hc0 hc1))
  have hown2 : w2.ownsRow w.heap.size 5 1 (.slice (some ⟨w1.heap.size, 0, none⟩) N N) N ((mixN F 12 m 0).map v8) := block_own hblk (by omega) (by rw [List.length_map]; exact hFl) (by omega)
  have hb3 : Below (w.heap.size + 1) w2 w2 := Below.refl _ _
  have hbw2 : Below w.heap.size w w2 := hbw.trans (hb2.mono (by omega))
  have HD1 := Lib.hid hd1
  clear hblk hd0 hd1 hb2 hbw
  go_loopw [10] (fun i wr => ∃ z : Int, 0 ≤ z ∧ z ≤ 4 ∧ i = .int .i64 z ∧ wr.ownsRow w.heap.size 5 1 (.slice (some ⟨w1.heap.size, 0, none⟩) N N) N ((mixN F 12 m z.toNat).map v8) ∧ Below (w.heap.size + 1) w2 wr) (fun i _ => 4 - (intOf i).toNat)
  case atStart => exact ⟨0, by omega, by omega, rfl, hown2, hb3⟩
  case round =>
    obtain ⟨z, hz1, hz2, rfl, hown, hb⟩ := hrel
    by_cases hlt : z < 4
    · have hd1 : wr.cell? ⟨w.heap.size, 1, none⟩ = some (.int .u32 (I32 m)) := by rw [hb.cell (by simp)]; exact HD1.out
      have FF := mixFacts5 (bs := F) (k := 12) (m := m) (by omega) hown
      rcases (by omega : z = 0 ∨ z = 1 ∨ z = 2 ∨ z = 3) with rfl | rfl | rfl | rfl
      · obtain ⟨x, hcx, hfx, HX⟩ := FF (by decide)
        have hc : wr.cell? ⟨w1.heap.size, 12, none⟩ = some (.int .u8 (I8 x)) := hcx
        have hf : wr.frozen? ⟨w1.heap.size, 12, none⟩ = false := hfx
        clear FF hcx hfx
        have hbd := I8.bd x
        go_wp2
        go_region
        go_wp2
        go_roundw
        case rel => exact ⟨1, by omega, by omega, rfl, mixStored5 (j := 0) hown HX (by first | exact mb_0 m | exact mb_3b m), (hb.setCell (by exact hs1) _).drew⟩
        case measure => simp [intOf]
      · obtain ⟨x, hcx, hfx, HX⟩ := FF (by decide)
        have hc : wr.cell? ⟨w1.heap.size, 13, none⟩ = some (.int .u8 (I8 x)) := hcx
        have hf : wr.frozen? ⟨w1.heap.size, 13, none⟩ = false := hfx
        clear FF hcx hfx
        have hbd := I8.bd x
        go_wp2
        go_region
        go_wp2
        go_roundw
        case rel => exact ⟨2, by omega, by omega, rfl, mixStored5 (j := 1) hown HX (by first | exact mb_1 m | exact mb_3b m), (hb.setCell (by exact hs1) _).drew⟩
        case measure => simp [intOf]
      · obtain ⟨x, hcx, hfx, HX⟩ := FF (by decide)
        have hc : wr.cell? ⟨w1.heap.size, 14, none⟩ = some (.int .u8 (I8 x)) := hcx
        have hf : wr.frozen? ⟨w1.heap.size, 14, none⟩ = false := hfx
        clear FF hcx hfx
        have hbd := I8.bd x
        go_wp2
        go_region
        go_wp2
        go_roundw
        case rel => exact ⟨3, by omega, by omega, rfl, mixStored5 (j := 2) hown HX (by first | exact mb_2 m | exact mb_3b m), (hb.setCell (by exact hs1) _).drew⟩
        case measure => simp [intOf]
      · obtain ⟨x, hcx, hfx, HX⟩ := FF (by decide)
        have hc : wr.cell? ⟨w1.heap.size, 15, none⟩ = some (.int .u8 (I8 x)) := hcx
        have hf : wr.frozen? ⟨w1.heap.size, 15, none⟩ = false := hfx
        clear FF hcx hfx
        have hbd := I8.bd x
        go_wp2
        go_region
        go_wp2
        go_roundw
        case rel => exact ⟨4, by omega, by omega, rfl, mixStored5 (j := 3) hown HX (by first | exact mb_3 m | exact mb_3b m), (hb.setCell (by exact hs1) _).drew⟩
        case measure => simp [intOf]
    · obtain rfl : z = 4 := by omega
      have hr2 := (Rd.of_own hown)
      have HO := Lib.hid (open_bad _ N N _ kind wr hr2 (Nat.le_refl _) (by omega) _ rfl HT.out)
      have hE := (beq_no HT.out).1
      have hE2 := (beq_no HT.out).2
      have hsz : w.heap.size ≤ wr.heap.size := by have := hb.size; have := hbw2.size; omega
      have e4 : (4 : Int).toNat = 4 := rfl
      rw [e4] at HO
      generalize openE (mixN F 12 m 4) kind = E at *
      clear hr2 hown
      go_wp2_with fail
      refine HO.out.mono ?_
      rintro e w' ⟨A', c', rfl, hb4⟩
      go_wp2_with fail
      go_ret
      exact ⟨rfl, hbw2.trans ((hb.mono (by omega)).trans (hb4.mono hsz))⟩

end Go.Proofs.Ytbnhohnlbbkmoaa

/- The walk of CrownEncodes. -/
import Derived.Test.YthhgmanoifpoiaaCrK
namespace Go.Proofs.Ythhgmanoifpoiaa
open Go.RowKit
set_option linter.unusedVariables false

set_option maxHeartbeats 8000000 in
theorem walkEncNo (g b s : Int) (f : Nat) (a n k h : Int) (w : World) (hf : f < 18446744073709551616) (hm : mayB g b s f a n k h = false) :
    Calls Try.prog 7 #[.agg #[.int .i64 g, .int .i64 b, .int .i64 s, .float .f64 f, .int .i64 a, .int .i64 n, .int .i64 k, .int .i64 h]] w fun e w' => e = .returned (.bool true) ∧ Below w.heap.size w w' := by
  have EN := fun W : World => Lib.hid (enc_no g b s f a n k h W hf hm)
  have RN := fun W : World => Lib.hid (refEnc_no g b s f a n k h W hf hm)
  go_enter Try.func7, Try.ntmps7
  go_wp2_with fail
  have C0 := Lib.hid (Blk.new w 42 #[.int .i64 g, .int .i64 b, .int .i64 s, .float .f64 f, .int .i64 a, .int .i64 n, .int .i64 k, .int .i64 h])
  have B0 := Lib.hid ((Below.refl w.heap.size w).alloc (Nat.le_refl _) (.cells #[.int .i64 g, .int .i64 b, .int .i64 s, .float .f64 f, .int .i64 a, .int .i64 n, .int .i64 k, .int .i64 h] 42))
  refine (awake16 _).mono ?_
  rintro e w1 ⟨rfl, hb1⟩
  have s1 := hb1.size
  simp only [World.size_alloc] at s1
  have C1 := Lib.hid (C0.out.below hb1 (by simp))
  have B1 := Lib.hid (B0.out.trans (hb1.mono (by simp)))
  clear C0 B0 hb1
  have k0 := C1.out.cell 0
  have k1 := C1.out.cell 1
  have k2 := C1.out.cell 2
  have k3 := C1.out.cell 3
  have k4 := C1.out.cell 4
  have k5 := C1.out.cell 5
  have k6 := C1.out.cell 6
  have k7 := C1.out.cell 7
  simp at k0 k1 k2 k3 k4 k5 k6 k7
  go_wp2_with fail
  refine (crown_any _ _ _ _ _ _ _ _ _).mono ?_
  rintro e w2 ⟨rfl, hb2⟩
  have s2 := hb2.size
  have C2 := Lib.hid (C1.out.below hb2 (by omega))
  have B2 := Lib.hid (B1.out.trans (hb2.mono (by omega)))
  clear C1 B1 hb2 k0 k1 k2 k3 k4 k5 k6 k7
  go_wp2_with fail
  refine (EN _).out.mono ?_
  rintro e w3 ⟨rfl, hb3⟩
  have s3 := hb3.size
  have C3 := Lib.hid (C2.out.below hb3 (by omega))
  have B3 := Lib.hid (B2.out.trans (hb3.mono (by omega)))
  clear C2 B2 hb3
  have k0 := C3.out.cell 0
  have k1 := C3.out.cell 1
  have k2 := C3.out.cell 2
  have k3 := C3.out.cell 3
  have k4 := C3.out.cell 4
  have k5 := C3.out.cell 5
  have k6 := C3.out.cell 6
  have k7 := C3.out.cell 7
  simp at k0 k1 k2 k3 k4 k5 k6 k7
  go_wp2_with fail
  refine (RN _).out.mono ?_
  rintro e w4 ⟨rfl, hb4⟩
  have s4 := hb4.size
  have EE : Hid (Ek w w.heap.size g b s f a n k h none none 0 [] w4) := ⟨C3.out.below hb4 (by omega), Rd.none_, Rd.none_, B3.out.trans (hb4.mono (by omega)), by omega⟩
  clear C3 B3 hb4 EN RN k0 k1 k2 k3 k4 k5 k6 k7
  obtain ⟨D, hD⟩ : ∃ D, strOf ([] : List B8) = D := ⟨_, rfl⟩
  have HD := Lib.hid hD
  clear hD
  have E0 := Lib.hid EE.out.drew
  go_wp2_with fail
  go_region_held3 (fun w' => (w'.cell? ⟨w.heap.size, 0, none⟩ = some (.int .i64 g) ∧ w'.cell? ⟨w.heap.size, 1, none⟩ = some (.int .i64 b) ∧ w'.cell? ⟨w.heap.size, 2, none⟩ = some (.int .i64 s) ∧ w'.cell? ⟨w.heap.size, 3, none⟩ = some (.float .f64 f) ∧ w'.cell? ⟨w.heap.size, 4, none⟩ = some (.int .i64 a) ∧ w'.cell? ⟨w.heap.size, 5, none⟩ = some (.int .i64 n) ∧ w'.cell? ⟨w.heap.size, 6, none⟩ = some (.int .i64 k) ∧ w'.cell? ⟨w.heap.size, 7, none⟩ = some (.int .i64 h)) ∧ (Sem.run Try.prog (convert 43 9 (Value.slice none 0 0)) w' = Result.ok (Value.string D) w' ∧ Sem.run Try.prog (convert 43 9 (Value.slice none 0 0)) w' = Result.ok (Value.string D) w')) (first
    | assumption
    | exact ⟨E0.out.cells, E0.out.strs HD _ _⟩
    | exact ⟨E1.out.cells, E1.out.strs HD _ _⟩
    | exact ⟨E2.out.cells, E2.out.strs HD _ _⟩
    | exact ⟨E3.out.cells, E3.out.strs HD _ _⟩
    | fail) (first
    | (go_at_call 28
       with_reducible refine (crown_any _ _ _ _ _ _ _ _ _).mono ?_
       rintro e w5 ⟨rfl, hb5⟩
       have E1 := Lib.hid (E0.out.step hb5)
       clear hb5)
    | (go_at_call 30
       with_reducible refine (may_any _ _ _ _ _ _ _ _ _ hf).mono ?_
       rw [hm]
       rintro e w6 ⟨rfl, hb6⟩
       have E2 := Lib.hid (E1.out.step hb6)
       clear hb6)
    | (go_at_call 31
       with_reducible refine (refMay_any _ _ _ _ _ _ _ _ _ hf).mono ?_
       rw [hm]
       rintro e w7 ⟨rfl, hb7⟩
       have E3 := Lib.hid (E2.out.step hb7)
       clear hb7)
    | fail)
  go_wp2_with fail
  go_ret
  exact ⟨rfl, E3.out.2.2.2.1⟩

set_option maxHeartbeats 8000000 in
theorem walkEncOk (g b s : Nat) (f : Nat) (a n k h : Nat) (w : World) (hf : f < 18446744073709551616) (hm : mayB g b s f a n k h = true) :
    Calls Try.prog 7 #[.agg #[.int .i64 g, .int .i64 b, .int .i64 s, .float .f64 f, .int .i64 a, .int .i64 n, .int .i64 k, .int .i64 h]] w fun e w' => e = .returned (.bool true) ∧ Below w.heap.size w w' := by
  obtain ⟨L, hL⟩ : ∃ L, crownL g b s a n k h f = L := ⟨_, rfl⟩
  have EN := fun W : World => Lib.hid (enc_rd (w := W) hf hm)
  have RN := fun W : World => Lib.hid (refEnc_ok g b s f a n k h W hf hm)
  have DE := fun (W : World) (A : Option Addr) (c : Nat) => Lib.hid (@dec_back g b s f a n k h A c W hf hm)
  rw [hL] at EN RN DE
  clear hL
  have hst := storeFloat
  go_enter Try.func7, Try.ntmps7
  go_wp2_with fail
  have C0 := Lib.hid (Blk.new w 42 #[.int .i64 g, .int .i64 b, .int .i64 s, .float .f64 f, .int .i64 a, .int .i64 n, .int .i64 k, .int .i64 h])
  have B0 := Lib.hid ((Below.refl w.heap.size w).alloc (Nat.le_refl _) (.cells #[.int .i64 g, .int .i64 b, .int .i64 s, .float .f64 f, .int .i64 a, .int .i64 n, .int .i64 k, .int .i64 h] 42))
  refine (awake16 _).mono ?_
  rintro e w1 ⟨rfl, hb1⟩
  have s1 := hb1.size
  simp only [World.size_alloc] at s1
  have C1 := Lib.hid (C0.out.below hb1 (by simp))
  have B1 := Lib.hid (B0.out.trans (hb1.mono (by simp)))
  clear C0 B0 hb1
  have k0 := C1.out.cell 0
  have k1 := C1.out.cell 1
  have k2 := C1.out.cell 2
  have k3 := C1.out.cell 3
  have k4 := C1.out.cell 4
  have k5 := C1.out.cell 5
  have k6 := C1.out.cell 6
  have k7 := C1.out.cell 7
  simp at k0 k1 k2 k3 k4 k5 k6 k7
  go_wp2_with fail
  refine (crown_any _ _ _ _ _ _ _ _ _).mono ?_
  rintro e w2 ⟨rfl, hb2⟩
  have s2 := hb2.size
  have C2 := Lib.hid (C1.out.below hb2 (by omega))
  have B2 := Lib.hid (B1.out.trans (hb2.mono (by omega)))
  clear C1 B1 hb2 k0 k1 k2 k3 k4 k5 k6 k7
  go_wp2_with fail
  refine (EN _).out.mono ?_
  rintro e w3 ⟨A1, c1, rfl, hc1, hr3, hb3⟩
  have s3 := hb3.size
  have C3 := Lib.hid (C2.out.below hb3 (by omega))
  have B3 := Lib.hid (B2.out.trans (hb3.mono (by omega)))
  have R3 := Lib.hid hr3
  clear C2 B2 hb3 hr3
  have k0 := C3.out.cell 0
  have k1 := C3.out.cell 1
  have k2 := C3.out.cell 2
  have k3 := C3.out.cell 3
  have k4 := C3.out.cell 4
  have k5 := C3.out.cell 5
  have k6 := C3.out.cell 6
  have k7 := C3.out.cell 7
  simp at k0 k1 k2 k3 k4 k5 k6 k7
  go_wp2_with fail
  refine (RN _).out.mono ?_
  rintro e w4 ⟨A2, c2, rfl, hc2, hr4, hb4⟩
  have s4 := hb4.size
  have EE : Hid (Ek w w.heap.size g b s f a n k h A1 A2 64 L w4) := ⟨C3.out.below hb4 (by omega), (R3.out.below hb4).more s4, hr4, B3.out.trans (hb4.mono (by omega)), by omega⟩
  clear C3 B3 R3 hb4 hr4 EN RN k0 k1 k2 k3 k4 k5 k6 k7
  obtain ⟨D, hD⟩ : ∃ D, strOf L = D := ⟨_, rfl⟩
  have HD := Lib.hid hD
  clear hD
  have E0 := Lib.hid EE.out.drew
  go_wp2_with fail
  go_region_held3 (fun w' => (w'.cell? ⟨w.heap.size, 0, none⟩ = some (.int .i64 g) ∧ w'.cell? ⟨w.heap.size, 1, none⟩ = some (.int .i64 b) ∧ w'.cell? ⟨w.heap.size, 2, none⟩ = some (.int .i64 s) ∧ w'.cell? ⟨w.heap.size, 3, none⟩ = some (.float .f64 f) ∧ w'.cell? ⟨w.heap.size, 4, none⟩ = some (.int .i64 a) ∧ w'.cell? ⟨w.heap.size, 5, none⟩ = some (.int .i64 n) ∧ w'.cell? ⟨w.heap.size, 6, none⟩ = some (.int .i64 k) ∧ w'.cell? ⟨w.heap.size, 7, none⟩ = some (.int .i64 h)) ∧ (Sem.run Try.prog (convert 43 9 (Value.slice A1 64 c1)) w' = Result.ok (Value.string D) w' ∧ Sem.run Try.prog (convert 43 9 (Value.slice A2 64 c2)) w' = Result.ok (Value.string D) w')) (first
    | assumption
    | exact ⟨E0.out.cells, E0.out.strs HD _ _⟩
    | exact ⟨E1.out.cells, E1.out.strs HD _ _⟩
    | exact ⟨E2.out.cells, E2.out.strs HD _ _⟩
    | exact ⟨E3.out.cells, E3.out.strs HD _ _⟩
    | fail) (first
    | (go_at_call 28
       with_reducible refine (crown_any _ _ _ _ _ _ _ _ _).mono ?_
       rintro e w5 ⟨rfl, hb5⟩
       have E1 := Lib.hid (E0.out.step hb5)
       clear hb5)
    | (go_at_call 30
       with_reducible refine (may_any _ _ _ _ _ _ _ _ _ hf).mono ?_
       rw [hm]
       rintro e w6 ⟨rfl, hb6⟩
       have E2 := Lib.hid (E1.out.step hb6)
       clear hb6)
    | (go_at_call 31
       with_reducible refine (refMay_any _ _ _ _ _ _ _ _ _ hf).mono ?_
       rw [hm]
       rintro e w7 ⟨rfl, hb7⟩
       have E3 := Lib.hid (E2.out.step hb7)
       clear hb7)
    | fail)
  have k := E3.out.cells
  obtain ⟨k0, k1, k2, k3, k4, k5, k6, k7⟩ := k
  go_wp2_with fail
  refine ((DE _ _ _).out E3.out.2.1 hc1).mono ?_
  rintro e w8 ⟨rfl, hb8⟩
  have E8 := Lib.hid (E3.out.step hb8)
  clear hb8 k0 k1 k2 k3 k4 k5 k6 k7
  go_upto_region 10 with fail
  have C9 := Lib.hid (E8.out.1.alloc (.cells #[.int .i64 g, .int .i64 b, .int .i64 s, .float .f64 f, .int .i64 a, .int .i64 n, .int .i64 k, .int .i64 h] 51))
  have D9 := Lib.hid (Blk.new w8 51 #[.int .i64 g, .int .i64 b, .int .i64 s, .float .f64 f, .int .i64 a, .int .i64 n, .int .i64 k, .int .i64 h])
  have B9 := Lib.hid (E8.out.2.2.2.1.alloc (Nat.le_of_lt E8.out.2.2.2.2) (.cells #[.int .i64 g, .int .i64 b, .int .i64 s, .float .f64 f, .int .i64 a, .int .i64 n, .int .i64 k, .int .i64 h] 51))
  have s9 : w.heap.size ≤ (w8.alloc (.cells #[.int .i64 g, .int .i64 b, .int .i64 s, .float .f64 f, .int .i64 a, .int .i64 n, .int .i64 k, .int .i64 h] 51)).heap.size := by have := E8.out.2.2.2.2; simp; omega
  generalize hW : w8.alloc (.cells #[.int .i64 g, .int .i64 b, .int .i64 s, .float .f64 f, .int .i64 a, .int .i64 n, .int .i64 k, .int .i64 h] 51) = w9 at *
  clear hW
  have k0 := C9.out.cell 0
  have k1 := C9.out.cell 1
  have k2 := C9.out.cell 2
  have k3 := C9.out.cell 3
  have k4 := C9.out.cell 4
  have k5 := C9.out.cell 5
  have k6 := C9.out.cell 6
  have k7 := C9.out.cell 7
  simp at k0 k1 k2 k3 k4 k5 k6 k7
  have d0 := D9.out.cell 0
  have d1 := D9.out.cell 1
  have d2 := D9.out.cell 2
  have d3 := D9.out.cell 3
  have d4 := D9.out.cell 4
  have d5 := D9.out.cell 5
  have d6 := D9.out.cell 6
  have d7 := D9.out.cell 7
  simp at d0 d1 d2 d3 d4 d5 d6 d7
  go_wp2_with fail
  refine (same_any g b s f a n k h _).mono ?_
  rintro e w10 ⟨rfl, hb10⟩
  go_wp2_with fail
  go_ret
  exact ⟨rfl, B9.out.trans (hb10.mono s9)⟩

theorem walkEnc (g b s : Int) (f : Nat) (a n k h : Int) (w : World) (hf : f < 18446744073709551616) :
    Calls Try.prog 7 #[.agg #[.int .i64 g, .int .i64 b, .int .i64 s, .float .f64 f, .int .i64 a, .int .i64 n, .int .i64 k, .int .i64 h]] w fun e w' => e = .returned (.bool true) ∧ Below w.heap.size w w' := by
  rcases tf (mayB g b s f a n k h) with hm | hm
  · obtain ⟨_, _, _, _, _, _, _, rfl, rfl, rfl, rfl, rfl, rfl, rfl⟩ := enc_nat hm
    exact walkEncOk _ _ _ f _ _ _ _ w hf hm
  · exact walkEncNo g b s f a n k h w hf hm
end Go.Proofs.Ythhgmanoifpoiaa

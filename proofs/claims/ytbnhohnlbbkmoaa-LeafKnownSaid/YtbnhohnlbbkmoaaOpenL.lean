/- Contract of leaf.Open. -/
import Derived.Test.YtbnhohnlbbkmoaaOpenS
namespace Go.Proofs.Ytbnhohnlbbkmoaa
open Go.RowKit
set_option linter.unusedVariables false

/-- What Open returns. -/
def Opened (b : List B8) (kind : B8) (w : World) (e : Ending) (w' : World) : Prop :=
  ∃ A' n' c', e = .returned (.tuple #[.int .i64 (openG b kind), .slice A' n' c', .int .i64 (openE b kind)]) ∧ Rd w' w'.heap.size A' n' (openD b kind) ∧ Below w.heap.size w w'

theorem opened_err {b : List B8} {kind : B8} {w w' : World} {E : Int} (hE : openE b kind = E) (h0 : E ≠ 0) (hb : Below w.heap.size w w') :
    Opened b kind w (.returned (.tuple #[.int .i64 0, .slice none 0 0, .int .i64 E])) w' := by
  subst hE
  refine ⟨none, 0, 0, ?_, ?_, hb⟩
  · unfold openG; rw [if_neg h0]
  · unfold openD; rw [if_neg h0]; exact Rd.none_

set_option maxHeartbeats 2000000 in
theorem open_whole (A : Option Addr) (n c : Nat) (bs : List B8) (kind : B8) (w : World) (hr : Rd w w.heap.size A n bs) (hc : n ≤ c) (hn : n ≤ 1000000)
    (H : Hid (Calls Try.prog 31 #[.slice A n c] w fun e w' => e = .returned (.tuple #[.int .i64 ((manyN bs : Nat) : Int), .int .i64 0]) ∧ ∃ nq, w' = w.drewN nq))
    (hle : manyN bs ≤ 4096) (hbN : blocksN (manyN bs) ≤ 65) (hS64 : (64 : Int) * ((blocksN (manyN bs) : Nat) : Int) = (n : Int)) (hSm : 16 + manyN bs ≤ n ∧ 64 ≤ n)
    (hEb : openE bs kind = if numAt bs 12 ≠ I32 (more (sum (bs.take 12)) ((bs.drop 16).take (manyN bs))) ∨ bs.drop (16 + manyN bs) ≠ List.replicate (bs.length - (16 + manyN bs)) 0#8 then 5
        else if I8 (bt bs 2) ≠ I8 kind then 4 else 0) :
    Calls Try.prog 22 #[.slice A n c, .int .u8 (I8 kind)] w (Opened bs kind w) := by
  obtain ⟨i0, hi, hz0, hz1, hz2⟩ := info_parts info5
  obtain ⟨ad, b2, rfl, hlt2, e2, c2⟩ := hr.at_ (k := 2) (by omega)
  simp only [Addr.add, show ¬ (2 : Nat) = 0 by decide, if_false] at c2
  have c2A : ∀ (k : Nat) (o : Obj), ((w.drewN k).alloc o).cell? ⟨ad.block, ad.off + 2, none⟩ = some (.int .u8 (I8 b2)) := fun k o => by
    rw [World.cell?_alloc_lt (w.drewN k) o ⟨ad.block, ad.off + 2, none⟩ hlt2]; exact c2
  have i2' : (2 : Int) < (n : Int) := by omega
  rw [bt_at (by rw [hr.len]; omega)] at e2
  injection e2 with e2
  have hl := hr.len
  have HG : Hid (openG bs kind = if openE bs kind = 0 then numAt bs 4 else 0) := rfl
  have HD : Hid (openD bs kind = if openE bs kind = 0 then (bs.drop 16).take (manyN bs) else []) := rfl
  have HEb := Lib.hid hEb
  clear hEb
  generalize hm : manyN bs = m at *
  have hr12 := rd_from (k := 12) hr (by omega) (by omega) hc (by omega)
  have hr4 := rd_from (k := 4) hr (by omega) (by omega) hc (by omega)
  have hr16 := (rd_from (k := 16) hr (by omega) (by omega) hc (by omega)).take (k := m) (by omega)
  obtain ⟨AR, hsl, hrR⟩ := slice_from 22 5 i0 Try.underlying22 hi hz1 hr (k := 16 + m) (by omega) hc
  have hcast : ((16 + m : Nat) : Int) = 16 + (m : Int) := by omega
  rw [hcast] at hsl
  have N12 : ∀ nq : Nat, Hid (Calls Try.prog 32 #[.slice (some ⟨ad.block, ad.off + 12, none⟩) (n - 12) (c - 12)] (w.drewN nq) fun e w' => e = .returned (.int .u32 (numAt bs 12)) ∧ ∃ m, w' = (w.drewN nq).drewN m) :=
    fun nq => number_any _ (n - 12) (c - 12) (bs.drop 12) _ _ _ _ _ (w.drewN nq) (hr12.drewN nq) (by omega) (take4 (b := bs) (o := 12) (by omega))
  have N4 : ∀ (nq : Nat) (o : Obj), Hid (Calls Try.prog 32 #[.slice (some ⟨ad.block, ad.off + 4, none⟩) (n - 4) (c - 4)] ((w.drewN nq).alloc o) fun e w' => e = .returned (.int .u32 (numAt bs 4)) ∧ ∃ m, w' = ((w.drewN nq).alloc o).drewN m) :=
    fun nq o => number_any _ (n - 4) (c - 4) (bs.drop 4) _ _ _ _ _ ((w.drewN nq).alloc o) ((hr4.drewN nq).alloc (Nat.le_refl _) o) (by omega) (take4 (b := bs) (o := 4) (by omega))
  have w4 : IntKind.i64.wrap (numAt bs 4) = numAt bs 4 := by
    have := numAt_bd bs 4
    exact IntWalk.i64_in _ (by omega)
  have W4 := Lib.hid w4
  have h16c : ∀ (k : Nat) (o : Obj) (j : Nat), Rd (((w.drewN k).alloc o).drewN j) (((w.drewN k).alloc o).drewN j).heap.size (some ⟨ad.block, ad.off + 16, none⟩) m ((bs.drop 16).take m) := fun k o j =>
    ((((hr16.drewN k).alloc (Nat.le_refl _) o).more (B' := ((w.drewN k).alloc o).heap.size) (by show w.heap.size ≤ (w.heap.push o).size; rw [Array.size_push]; omega)).drewN j)
  have R16A := Lib.hid h16c
  have ws : IntKind.i64.wrap (16 + (m : Int)) = 16 + (m : Int) := IntWalk.i64_in _ (by omega)
  have hpos : (0 : Int) ≤ 16 + (m : Int) := by omega
  have hnat : (16 + (m : Int)).toNat = 16 + m := by omega
  have WS := Lib.hid ws
  have HN := Lib.hid hnat
  have hc12 : ¬ c = 12 := by omega
  have hc4 : ¬ c = 4 := by omega
  have hc16 : ¬ c = 16 := by omega
  clear ws hnat hcast
  have hR0 := fun k => hr.drewN k
  have hR16 := fun k => hr16.drewN k
  have R0 := Lib.hid hR0
  have R16 := Lib.hid hR16
  have hK16 : n - (16 + m) ≤ 1000000 := by omega
  have hmk := make_zeros (P := Try.prog) 22 5 i0 Try.underlying22 hi hz0 hz1 hz2 (n - (16 + m)) hK16
  have hRR := fun k => hrR.drewN k
  have RR := Lib.hid hRR
  have hRRA := fun k => (hrR.alloc (Nat.le_refl _) (.cells (zeros (n - (16 + m))) 5)).drewN k
  have RRA := Lib.hid hRRA
  have hRZ := fun k => (rd_zeros w _ (n - (16 + m)) 5 (0, 0) rfl).drewN k
  have RZ := Lib.hid hRZ
  rw [hl] at HEb
  generalize n - (16 + m) = K at *
  clear w4 h16c hr4 hR0 hR16 hRR hRRA hRZ hr hr16 hrR hr12 hl hm
  by_cases hs : numAt bs 12 = I32 (more (sum (bs.take 12)) ((bs.drop 16).take m))
  · obtain ⟨f1, g1⟩ := beq_yes hs
    by_cases hz : bs.drop (16 + m) = List.replicate K 0#8
    · by_cases hk : I8 b2 = I8 kind
      · have hE : openE bs kind = 0 := by rw [HEb.out, if_neg (by rintro (h | h); exact h hs; exact h hz), if_neg (by rw [e2]; exact fun h => h hk)]
        have hG : openG bs kind = numAt bs 4 := by rw [HG.out, if_pos hE]
        have hDD : openD bs kind = (bs.drop 16).take m := by rw [HD.out, if_pos hE]
        obtain ⟨f2, g2⟩ := beq_yes hk
        have hdz := decide_eq_true hz
        have HE0 := Lib.hid hE
        have HG0 := Lib.hid hG
        have HD0 := Lib.hid hDD
        clear hE hG hDD hs hz hk HEb e2
        go_enter Try.func22, Try.ntmps22
        go_wp2_with fail
        refine H.out.mono ?_
        rintro e w' ⟨rfl, nq, rfl⟩
        go_wp2_with (go_at_call 23; refine (blocks_ok' m _ hle).mono ?_; rintro e w' ⟨rfl, rfl⟩)
        have ws := WS.out
        have hnat := HN.out
        go_quiet (fail)
        clear ws hnat
        go_wp2_with fail
        refine (N12 _).out.mono ?_
        rintro e w' ⟨rfl, nq2, rfl⟩
        go_wp2_with fail
        refine (sumHead_any _ _ _ bs _ _ _ ((bs.drop 16).take m) _ _ _ (R0.out _) (R16.out _) (by omega) hc (by omega)).mono ?_
        rintro e w' ⟨rfl, rfl⟩
        go_wp2_with fail
        refine (equal_any _ _ _ (bs.drop (16 + m)) _ _ _ (List.replicate K 0#8) w.heap.size (w.heap.size + 1) _ ?_ ?_).mono ?_
        · first | exact RRA.out _ | exact RR.out _
        · exact RZ.out _
        rintro e w' ⟨rfl, rfl⟩
        go_wp2_with fail
        refine (N4 _ _).out.mono ?_
        rintro e w' ⟨rfl, nq3, rfl⟩
        have w4 := W4.out
        go_wp2_with fail
        clear w4
        refine (clone_any _ m _ ((bs.drop 16).take m) _ ?_ (by omega)).mono ?_
        · exact R16A.out _ _ _
        rintro e w' ⟨A', c', rfl, hrd, hbl⟩
        go_wp2_with fail
        go_ret3
        refine ⟨A', m, c', ?_, ?_, ?_⟩
        · rw [HE0.out, HG0.out]; rfl
        · rw [HD0.out]; first | exact hrd | exact hrd.drewN _
        · exact ((below_drewN ((below_drewN (Below.refl _ _) _).alloc (Nat.le_refl _) _) _).trans (hbl.mono (by show w.heap.size ≤ (w.heap.push _).size; rw [Array.size_push]; omega)))
      · have hE : openE bs kind = 4 := by rw [HEb.out, if_neg (by rintro (h | h); exact h hs; exact h hz), if_pos (by rw [e2]; exact hk)]
        obtain ⟨f2, g2⟩ := beq_no hk
        have hdz := decide_eq_true hz
        have HE0 := Lib.hid hE
        clear hE hs hz hk HEb e2
        go_enter Try.func22, Try.ntmps22
        go_wp2_with fail
        refine H.out.mono ?_
        rintro e w' ⟨rfl, nq, rfl⟩
        go_wp2_with (go_at_call 23; refine (blocks_ok' m _ hle).mono ?_; rintro e w' ⟨rfl, rfl⟩)
        have ws := WS.out
        have hnat := HN.out
        go_quiet (fail)
        clear ws hnat
        go_wp2_with fail
        refine (N12 _).out.mono ?_
        rintro e w' ⟨rfl, nq2, rfl⟩
        go_wp2_with fail
        refine (sumHead_any _ _ _ bs _ _ _ ((bs.drop 16).take m) _ _ _ (R0.out _) (R16.out _) (by omega) hc (by omega)).mono ?_
        rintro e w' ⟨rfl, rfl⟩
        go_wp2_with fail
        refine (equal_any _ _ _ (bs.drop (16 + m)) _ _ _ (List.replicate K 0#8) w.heap.size (w.heap.size + 1) _ ?_ ?_).mono ?_
        · first | exact RRA.out _ | exact RR.out _
        · exact RZ.out _
        rintro e w' ⟨rfl, rfl⟩
        go_wp2_with fail
        go_ret3
        exact opened_err HE0.out (by decide) (below_drewN ((Below.refl _ _).alloc (Nat.le_refl _) _) _)
    · have hE : openE bs kind = 5 := by rw [HEb.out, if_pos (.inr hz)]
      have hdz := decide_eq_false hz
      have HE0 := Lib.hid hE
      clear hE hs hz HEb e2
      go_enter Try.func22, Try.ntmps22
      go_wp2_with fail
      refine H.out.mono ?_
      rintro e w' ⟨rfl, nq, rfl⟩
      go_wp2_with (go_at_call 23; refine (blocks_ok' m _ hle).mono ?_; rintro e w' ⟨rfl, rfl⟩)
      have ws := WS.out
      have hnat := HN.out
      go_quiet (fail)
      clear ws hnat
      go_wp2_with fail
      refine (N12 _).out.mono ?_
      rintro e w' ⟨rfl, nq2, rfl⟩
      go_wp2_with fail
      refine (sumHead_any _ _ _ bs _ _ _ ((bs.drop 16).take m) _ _ _ (R0.out _) (R16.out _) (by omega) hc (by omega)).mono ?_
      rintro e w' ⟨rfl, rfl⟩
      go_wp2_with fail
      refine (equal_any _ _ _ (bs.drop (16 + m)) _ _ _ (List.replicate K 0#8) w.heap.size (w.heap.size + 1) _ ?_ ?_).mono ?_
      · first | exact RRA.out _ | exact RR.out _
      · exact RZ.out _
      rintro e w' ⟨rfl, rfl⟩
      go_wp2_with fail
      go_ret3
      exact opened_err HE0.out (by decide) (below_drewN ((Below.refl _ _).alloc (Nat.le_refl _) _) _)
  · have hE : openE bs kind = 5 := by rw [HEb.out, if_pos (.inl hs)]
    obtain ⟨f1, g1⟩ := beq_no hs
    have HE0 := Lib.hid hE
    clear hE hs HEb e2
    go_enter Try.func22, Try.ntmps22
    go_wp2_with fail
    refine H.out.mono ?_
    rintro e w' ⟨rfl, nq, rfl⟩
    go_wp2_with (go_at_call 23; refine (blocks_ok' m _ hle).mono ?_; rintro e w' ⟨rfl, rfl⟩)
    have ws := WS.out
    have hnat := HN.out
    go_quiet (fail)
    clear ws hnat
    go_wp2_with fail
    refine (N12 _).out.mono ?_
    rintro e w' ⟨rfl, nq2, rfl⟩
    go_wp2_with fail
    refine (sumHead_any _ _ _ bs _ _ _ ((bs.drop 16).take m) _ _ _ (R0.out _) (R16.out _) (by omega) hc (by omega)).mono ?_
    rintro e w' ⟨rfl, rfl⟩
    go_wp2_with fail
    go_ret3
    exact opened_err HE0.out (by decide) (below_drewN (Below.refl _ _) _)

set_option maxHeartbeats 2000000 in
theorem open_any (A : Option Addr) (n c : Nat) (bs : List B8) (kind : B8) (w : World) (hr : Rd w w.heap.size A n bs) (hc : n ≤ c) (hn : n ≤ 1000000) :
    Calls Try.prog 22 #[.slice A n c, .int .u8 (I8 kind)] w (Opened bs kind w) := by
  have H := Lib.hid (head_any A n c bs w hr hc hn)
  by_cases h0 : headE bs = 0
  · have hm : headM bs = ((manyN bs : Nat) : Int) := by
      unfold headM manyN
      rw [if_pos h0]
      have := numAt_bd bs 8
      omega
    have hok := headE_ok h0
    have hle : manyN bs ≤ 4096 := by have := hok.2.2.2.2.1; unfold manyN; omega
    rw [hm, h0] at H
    have h16 : 16 ≤ n := by rw [← hr.len]; exact hok.1
    have HE : ∀ E, Hid (openE bs kind = E) → openE bs kind = E := fun _ h => h
    obtain ⟨S, hS⟩ : ∃ S, S = 64 * blocksN (manyN bs) := ⟨_, rfl⟩
    have hbN : blocksN (manyN bs) ≤ 65 := by unfold blocksN; omega
    have hSm : 16 + manyN bs ≤ S ∧ 64 ≤ S := by rw [hS]; unfold blocksN; omega
    have hS64 : (64 : Int) * ((blocksN (manyN bs) : Nat) : Int) = (S : Int) := by omega
    have hl := hr.len
    by_cases hlong : S < n
    · have hE : openE bs kind = 3 := by unfold openE; rw [if_neg (by rw [h0]; simp), if_pos (by rw [← hS]; omega)]
      have HE3 := Lib.hid hE
      clear hE hr hl hok h0 hm hS HE
      generalize manyN bs = m at *
      go_enter Try.func22, Try.ntmps22
      go_wp2_with fail
      refine H.out.mono ?_
      rintro e w' ⟨rfl, nq, rfl⟩
      go_wp2_with (go_at_call 23; refine (blocks_ok' m _ hle).mono ?_; rintro e w' ⟨rfl, rfl⟩)
      go_ret3
      exact opened_err HE3.out (by decide) (below_drewN (Below.refl _ _) _)
    by_cases hshort : n < S
    · have hE : openE bs kind = 2 := by unfold openE; rw [if_neg (by rw [h0]; simp), if_neg (by rw [← hS]; omega), if_pos (by rw [← hS]; omega)]
      have HE3 := Lib.hid hE
      clear hE hr hl hok h0 hm hS HE
      generalize manyN bs = m at *
      go_enter Try.func22, Try.ntmps22
      go_wp2_with fail
      refine H.out.mono ?_
      rintro e w' ⟨rfl, nq, rfl⟩
      go_wp2_with (go_at_call 23; refine (blocks_ok' m _ hle).mono ?_; rintro e w' ⟨rfl, rfl⟩)
      go_ret3
      exact opened_err HE3.out (by decide) (below_drewN (Below.refl _ _) _)
    have hSn : S = n := by omega
    have hEb : openE bs kind = if numAt bs 12 ≠ I32 (more (sum (bs.take 12)) ((bs.drop 16).take (manyN bs))) ∨ bs.drop (16 + manyN bs) ≠ List.replicate (bs.length - (16 + manyN bs)) 0#8 then 5
        else if I8 (bt bs 2) ≠ I8 kind then 4 else 0 := by
      unfold openE
      rw [if_neg (by rw [h0]; simp), if_neg (by rw [← hS]; omega), if_neg (by rw [← hS]; omega)]
    rw [hSn] at hS64 hSm
    exact open_whole A n c bs kind w hr hc hn H hle hbN hS64 hSm hEb
  · have hE : openE bs kind = headE bs := by unfold openE; rw [if_pos h0]
    have HE3 := Lib.hid hE
    have hb := (beq_no h0).1
    have hb2 := (beq_no h0).2
    have H0 := Lib.hid h0
    clear h0 hE hr
    generalize headE bs = E at *
    generalize headM bs = M at *
    go_enter Try.func22, Try.ntmps22
    go_wp2_with fail
    refine H.out.mono ?_
    rintro e w' ⟨rfl, nq, rfl⟩
    go_wp2_with fail
    go_ret3
    exact opened_err HE3.out H0.out (below_drewN (Below.refl _ _) _)

end Go.Proofs.Ytbnhohnlbbkmoaa

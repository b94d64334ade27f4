/- Contract of the document's Open. -/
import Derived.Test.YtbnhohnlbbkmoaaRefS
import Derived.Test.YtbnhohnlbbkmoaaOpenL
import Derived.Deep.RegionLaw
namespace Go.Proofs.Ytbnhohnlbbkmoaa
open Go.RowKit
set_option linter.unusedVariables false

theorem quiet_ex {P : Program} {f : FuncId} {args : Array Value} {w : World} {n : Nat} {v : Value}
    (h : Calls P f args (w.drewN n) fun e w' => e = .returned v ∧ ∃ m, w' = (w.drewN n).drewN m) : Calls P f args (w.drewN n) fun e w'' => e = .returned v ∧ ∃ m, w'' = w.drewN m :=
  h.mono fun _ _ ⟨he, m, hm⟩ => ⟨he, n + m, by rw [hm]; simp⟩

theorem quiet_add_ex {P : Program} {f : FuncId} {args : Array Value} {w : World} {a n : Nat} {v : Value}
    (h : Calls P f args (w.drewN (a + n)) fun e w' => e = .returned v ∧ ∃ m, w' = (w.drewN (a + n)).drewN m) : Calls P f args (w.drewN (a + n)) fun e w'' => e = .returned v ∧ ∃ m, w'' = w.drewN (a + m) :=
  h.mono fun _ _ ⟨he, m, hm⟩ => ⟨he, n + m, by rw [hm, ← Nat.add_assoc]; simp⟩

/-- Whether one of the bytes from a place on is not nought. -/
def badN (bs : List B8) (o : Nat) : Nat → Bool
  | 0 => false
  | t + 1 => badN bs o t || (I8 (bt bs (o + t)) != 0)
theorem badN_no (bs : List B8) (o t : Nat) : badN bs o t = false ↔ ∀ i, i < t → bt bs (o + i) = 0#8 := by
  induction t with
  | zero => simp [badN]
  | succ t ih =>
    simp only [badN, Bool.or_eq_false_iff, ih]
    constructor
    · rintro ⟨h1, h2⟩ i hi
      by_cases e : i = t
      · subst e
        have h3 : I8 (bt bs (o + i)) = 0 := by simpa using h2
        exact I8.inj h3
      · exact h1 i (by omega)
    · intro h
      refine ⟨fun i hi => h i (by omega), ?_⟩
      rw [h t (by omega)]; rfl
theorem badN_step (bs : List B8) (o J : Nat) (B0 : Bool) (h : o ≤ J) : (B0 || badN bs o (J + 1 - o)) = ((B0 || badN bs o (J - o)) || (I8 (bt bs J) != 0)) := by
  obtain ⟨t, rfl⟩ : ∃ t, J = o + t := ⟨J - o, by omega⟩
  rw [show o + t + 1 - o = t + 1 by omega, show o + t - o = t by omega, badN, Bool.or_assoc]
theorem badN_drop (bs : List B8) (o K : Nat) (h : o + K = bs.length) : badN bs o K = decide (bs.drop o ≠ List.replicate K 0#8) := by
  have hd : (bs.drop o).length = K := by rw [List.length_drop]; omega
  have e (i : Nat) (hi : i < K) : (bs.drop o)[i]? = some (bt bs (o + i)) := by rw [List.getElem?_drop, bt_at (by omega)]
  cases hb : badN bs o K with
  | false =>
    have := (badN_no bs o K).1 hb
    symm
    rw [decide_eq_false_iff_not, Decidable.not_not]
    apply List.ext_getElem?
    intro i
    by_cases hi : i < K
    · rw [e i hi, this i hi, List.getElem?_replicate, if_pos hi]
    · rw [List.getElem?_eq_none (by omega), List.getElem?_eq_none (by simp; omega)]
  | true =>
    symm
    rw [decide_eq_true_iff]
    intro hh
    have : badN bs o K = false := (badN_no bs o K).2 (fun i hi => by
      have := e i hi
      rw [hh, List.getElem?_replicate, if_pos hi] at this
      injection this with this
      exact this.symm)
    rw [hb] at this
    cases this

set_option maxHeartbeats 2000000 in
theorem refOpen_whole (A : Option Addr) (n c : Nat) (bs : List B8) (kind : B8) (w : World) (hr : Rd w w.heap.size A n bs) (hc : n ≤ c) (hn : n ≤ 1000000)
    (H : Hid (Calls Try.prog 28 #[.slice A n c] w fun e w' => e = .returned (.tuple #[.int .i64 ((blocksN (manyN bs) : Nat) : Int), .int .i64 0]) ∧ ∃ nq, w' = w.drewN nq))
    (hle : manyN bs ≤ 4096) (hS64 : ((blocksN (manyN bs) : Nat) : Int) * 64 = (n : Int)) (hSm : 16 + manyN bs ≤ n ∧ 64 ≤ n)
    (hEb : openE bs kind = if numAt bs 12 ≠ I32 (more (sum (bs.take 12)) ((bs.drop 16).take (manyN bs))) ∨ bs.drop (16 + manyN bs) ≠ List.replicate (bs.length - (16 + manyN bs)) 0#8 then 5
        else if I8 (bt bs 2) ≠ I8 kind then 4 else 0) :
    Calls Try.prog 27 #[.slice A n c, .int .u8 (I8 kind)] w (Opened bs kind w) := by
  obtain ⟨i0, hi, hz0, hz1, hz2⟩ := info_parts info5
  obtain ⟨ad, b2, rfl, hlt2, e2, c2⟩ := hr.at_ (k := 2) (by omega)
  simp only [Addr.add, show ¬ (2 : Nat) = 0 by decide, if_false] at c2
  rw [bt_at (by rw [hr.len]; omega)] at e2
  injection e2 with e2
  have hl := hr.len
  have hmI : numAt bs 8 = ((manyN bs : Nat) : Int) := by unfold manyN; have := numAt_bd bs 8; omega
  have HG : Hid (openG bs kind = if openE bs kind = 0 then numAt bs 4 else 0) := rfl
  have HD : Hid (openD bs kind = if openE bs kind = 0 then (bs.drop 16).take (manyN bs) else []) := rfl
  have HEb := Lib.hid hEb
  clear hEb
  generalize blocksN (manyN bs) = S at *
  generalize hm : manyN bs = m at *
  have G8 : ∀ nq : Nat, Hid (Calls Try.prog 36 #[.slice (some ad) n c, .int .i64 8] (w.drewN nq) fun e w' => e = .returned (.int .i64 (m : Int)) ∧ ∃ m, w' = (w.drewN nq).drewN m) :=
    fun nq => by
      have := get_8 _ n c bs _ _ _ _ _ (w.drewN nq) (hr.drewN nq) (by omega) (take4 (b := bs) (o := 8) (by omega))
      rw [show num4 (bt bs 8) (bt bs (8 + 1)) (bt bs (8 + 2)) (bt bs (8 + 3)) = (m : Int) from hmI] at this
      exact this
  have G12 : ∀ nq : Nat, Hid (Calls Try.prog 36 #[.slice (some ad) n c, .int .i64 12] (w.drewN nq) fun e w' => e = .returned (.int .i64 (numAt bs 12)) ∧ ∃ m, w' = (w.drewN nq).drewN m) :=
    fun nq => get_12 _ n c bs _ _ _ _ _ (w.drewN nq) (hr.drewN nq) (by omega) (take4 (b := bs) (o := 12) (by omega))
  have G4 : ∀ nq : Nat, Hid (Calls Try.prog 36 #[.slice (some ad) n c, .int .i64 4] (w.drewN nq) fun e w' => e = .returned (.int .i64 (numAt bs 4)) ∧ ∃ m, w' = (w.drewN nq).drewN m) :=
    fun nq => get_4 _ n c bs _ _ _ _ _ (w.drewN nq) (hr.drewN nq) (by omega) (take4 (b := bs) (o := 4) (by omega))
  have hr16 := (rd_from (k := 16) hr (by omega) (by omega) hc (by omega)).take (k := m) (by omega)
  have hr12 := hr.take (k := 12) (by omega)
  have RS : ∀ nq : Nat, Hid (Calls Try.prog 18 #[.slice (some ad) 12 c] (w.drewN nq) fun e w' => e = .returned (.int .u32 (I32 (sum (bs.take 12)))) ∧ w.drewN nq = w') :=
    fun nq => refSum_any _ 12 c _ _ _ (hr12.drewN nq) (by omega)
  have RM : ∀ nq : Nat, Hid (Calls Try.prog 19 #[.int .u32 (I32 (sum (bs.take 12))), .slice (some ⟨ad.block, ad.off + 16, none⟩) m (c - 16)] (w.drewN nq) fun e w' => e = .returned (.int .u32 (I32 (more (sum (bs.take 12)) ((bs.drop 16).take m)))) ∧ w.drewN nq = w') :=
    fun nq => refMore_any _ _ m (c - 16) _ _ _ (hr16.drewN nq) (by omega)
  have wx : IntKind.i64.wrap (I32 (more (sum (bs.take 12)) ((bs.drop 16).take m))) = I32 (more (sum (bs.take 12)) ((bs.drop 16).take m)) := by
    have := I32.bd (more (sum (bs.take 12)) ((bs.drop 16).take m))
    exact IntWalk.i64_in _ (by omega)
  have ws : IntKind.i64.wrap (16 + (m : Int)) = 16 + (m : Int) := IntWalk.i64_in _ (by omega)
  have hpos : (0 : Int) ≤ 16 + (m : Int) := by omega
  have hnat : (16 + (m : Int)).toNat = 16 + m := by omega
  have hc16 : ¬ c = 16 := by omega
  have HR := Lib.hid hr
  have HR16 := Lib.hid hr16
  rw [hl] at HEb
  generalize hX : I32 (more (sum (bs.take 12)) ((bs.drop 16).take m)) = X at *
  generalize hY : I32 (sum (bs.take 12)) = Y at *
  have HNAT := Lib.hid hnat
  have HWS := Lib.hid ws
  have HWX := Lib.hid wx
  clear hr hr16 hr12 hX hY hm hmI hnat ws wx
  go_enter Try.func27, Try.ntmps27
  go_wp2_with fail
  refine H.out.mono ?_
  rintro e w' ⟨rfl, nq, rfl⟩
  go_wp2_with fail
  refine (G8 _).out.mono ?_
  rintro e w' ⟨rfl, nq2, rfl⟩
  have hnat := HNAT.out
  have ws := HWS.out
  have wx := HWX.out
  go_wp2_with fail
  go_quiet (first
    | (go_at_call 36; with_reducible first | exact quiet_add_ex (G12 _).out | exact quiet_ex (G12 _).out)
    | (go_at_call 18; with_reducible first | exact quiet_add_left (RS _).out | exact quiet_left (RS _).out)
    | (go_at_call 19; with_reducible first | exact quiet_add_left (RM _).out | exact quiet_left (RM _).out))
  clear hnat ws wx
  go_wp2_with fail
  generalize hB0 : (numAt bs 12 != X) = B0 at *
  have HB0 := Lib.hid hB0
  clear hB0
  have HS : Hid (16 + (m : Int) = ((16 + m : Nat) : Int)) := by show _ = _; omega
  generalize ho : 16 + m = o at *
  go_loopw [10, 11] (fun b i wr => ∃ J : Nat, o ≤ J ∧ J ≤ n ∧ i = .int .i64 (J : Int) ∧ b = .bool (B0 || badN bs o (J - o)) ∧ ∃ nq, wr = w.drewN nq) (fun _ i _ => n - (intOf i).toNat)
  case atStart => exact ⟨o, by omega, by omega, by rw [HS.out], by rw [Nat.sub_self, badN, Bool.or_false], _, rfl⟩
  case round =>
    obtain ⟨J, hJ1, hJ2, rfl, rfl, nqr, rfl⟩ := hrel
    have HST := Lib.hid (badN_step bs o J B0 hJ1)
    by_cases hlt : J < n
    · obtain ⟨_, x, e, _, ex, cx⟩ := HR.out.at_ (k := J) hlt
      injection e with e; subst e
      rw [bt_at (by rw [hl]; omega)] at ex
      injection ex with ex
      rw [ex] at HST
      have hJ0 : ¬ J = 0 := by omega
      have hbd := I8.bd x
      have hltI : (J : Int) < (n : Int) := by omega
      cases hb0 : (B0 || badN bs o (J - o)) with
      | true =>
        rw [hb0] at HST
        go_wp2
        go_roundw
        case rel => exact ⟨J + 1, by omega, by omega, by go_num, by rw [HST.out]; rfl, _, rfl⟩
        case measure => simp [intOf]; omega
      | false =>
        rw [hb0] at HST
        cases hx0 : (I8 x != 0) with
        | true =>
          rw [hx0] at HST
          go_wp2
          go_roundw
          case rel => exact ⟨J + 1, by omega, by omega, by go_num, by rw [HST.out]; rfl, _, rfl⟩
          case measure => simp [intOf]; omega
        | false =>
          rw [hx0] at HST
          go_wp2
          go_roundw
          case rel => exact ⟨J + 1, by omega, by omega, by go_num, by rw [HST.out]; rfl, _, rfl⟩
          case measure => simp [intOf]; omega
    · obtain rfl : J = n := by omega
      have hBD := badN_drop bs o (J - o) (by omega)
      cases hb0 : (B0 || badN bs o (J - o)) with
      | true =>
        have hE : openE bs kind = 5 := by
          rw [HEb.out, if_pos]
          rw [Bool.or_eq_true] at hb0
          rcases hb0 with h | h
          · left
            have := HB0.out
            rw [h] at this
            simpa using this
          · right
            rw [hBD, decide_eq_true_iff] at h
            exact h
        have HE5 := Lib.hid hE
        clear hE hBD HST
        go_wp2_with fail
        go_ret3
        exact opened_err HE5.out (by decide) (below_drewN (Below.refl _ _) _)
      | false =>
        have hok : ¬ (numAt bs 12 ≠ X ∨ bs.drop o ≠ List.replicate (J - o) 0#8) := by
          rw [Bool.or_eq_false_iff] at hb0
          rintro (h | h)
          · have := HB0.out
            rw [hb0.1] at this
            exact h (by simpa using this)
          · rw [hBD, decide_eq_false_iff_not] at hb0
            exact hb0.2 h
        by_cases hk : I8 b2 = I8 kind
        · have hE : openE bs kind = 0 := by rw [HEb.out, if_neg hok, if_neg (by rw [e2]; exact fun h => h hk)]
          obtain ⟨f2, g2⟩ := beq_yes hk
          have hG : openG bs kind = numAt bs 4 := by rw [HG.out, if_pos hE]
          have hDD : openD bs kind = (bs.drop 16).take m := by rw [HD.out, if_pos hE]
          have HE0 := Lib.hid hE
          have HG0 := Lib.hid hG
          have HD0 := Lib.hid hDD
          clear hE hG hDD hBD HST hok hk
          have h2n : (2 : Int) < (J : Int) := by omega
          subst ho
          have s1 : 16 + (m : Int) ≤ (c : Int) := by omega
          have s2 : (16 : Int) ≤ 16 + (m : Int) := by omega
          have hnat := HNAT.out
          have ws := HWS.out
          go_wp2_with fail
          go_region_law (first
            | (go_simp
               with_reducible refine (G4 _).out.mono ?_
               rintro e w' ⟨rfl, nqz, rfl⟩)
            | (refine step_append_any _ rfl _ _ 22 rfl w.heap.size 5 i0 (.int .u8 0) 1 1 Try.underlying22 hi hz0 hz1 hz2 rfl (by decide) (.slice none 0 0) 0 [] rfl (World.ownsRow_nil _ _ _ _) w.heap.size _ m (c - 16) (((bs.drop 16).take m).map v8) rfl (HR16.out.drewN _) (oneCell_v8 _) (by unfold maxLen; omega) (by omega) (by simp) ?_
               intro v2 w2 hown2 hg2 hat2))
          simp only [Nat.zero_add, List.nil_append] at hown2
          obtain ⟨A2, cc2, rfl⟩ := own_slice hown2
          have hb : Below w.heap.size w w2 := (below_drewN (Below.refl _ _) _).grown hg2 (Nat.le_refl _) (fun q hq => by cases hq)
          clear hg2 hat2 hnat ws
          go_wp2_with fail
          go_ret3
          refine ⟨A2, m, cc2, ?_, ?_, hb⟩
          · rw [HE0.out, HG0.out]; rfl
          · rw [HD0.out]; exact Rd.of_own hown2
        · have hE : openE bs kind = 4 := by rw [HEb.out, if_neg hok, if_pos (by rw [e2]; exact hk)]
          obtain ⟨f2, g2⟩ := beq_no hk
          have HE4 := Lib.hid hE
          clear hE hBD HST hok hk
          have h2n : (2 : Int) < (J : Int) := by omega
          go_wp2_with fail
          go_ret3
          exact opened_err HE4.out (by decide) (below_drewN (Below.refl _ _) _)

set_option maxHeartbeats 2000000 in
theorem refOpen_any (A : Option Addr) (n c : Nat) (bs : List B8) (kind : B8) (w : World) (hr : Rd w w.heap.size A n bs) (hc : n ≤ c) (hn : n ≤ 1000000) :
    Calls Try.prog 27 #[.slice A n c, .int .u8 (I8 kind)] w (Opened bs kind w) := by
  have H := Lib.hid (refSize_any A n c bs w hr hc hn)
  by_cases h0 : headE bs = 0
  · have hm : sizeS bs = ((blocksN (manyN bs) : Nat) : Int) := by unfold sizeS; rw [if_pos h0]
    have hok := headE_ok h0
    have hle : manyN bs ≤ 4096 := by have := hok.2.2.2.2.1; unfold manyN; omega
    rw [hm, h0] at H
    have h16 : 16 ≤ n := by rw [← hr.len]; exact hok.1
    have hbN : blocksN (manyN bs) ≤ 65 := by unfold blocksN; omega
    have hSm : 16 + manyN bs ≤ 64 * blocksN (manyN bs) ∧ 64 ≤ 64 * blocksN (manyN bs) := by unfold blocksN; omega
    have hl := hr.len
    by_cases hlong : 64 * blocksN (manyN bs) < n
    · have hE : openE bs kind = 3 := by unfold openE; rw [if_neg (by rw [h0]; simp), if_pos (by omega)]
      have HE3 := Lib.hid hE
      clear hE hr hl hok h0 hm
      generalize blocksN (manyN bs) = S at *
      go_enter Try.func27, Try.ntmps27
      go_wp2_with fail
      refine H.out.mono ?_
      rintro e w' ⟨rfl, nq, rfl⟩
      go_wp2_with fail
      go_ret3
      exact opened_err HE3.out (by decide) (below_drewN (Below.refl _ _) _)
    by_cases hshort : n < 64 * blocksN (manyN bs)
    · have hE : openE bs kind = 2 := by unfold openE; rw [if_neg (by rw [h0]; simp), if_neg (by omega), if_pos (by omega)]
      have HE3 := Lib.hid hE
      clear hE hr hl hok h0 hm
      generalize blocksN (manyN bs) = S at *
      go_enter Try.func27, Try.ntmps27
      go_wp2_with fail
      refine H.out.mono ?_
      rintro e w' ⟨rfl, nq, rfl⟩
      go_wp2_with fail
      go_ret3
      exact opened_err HE3.out (by decide) (below_drewN (Below.refl _ _) _)
    refine refOpen_whole A n c bs kind w hr hc hn H hle (by omega) (by omega) ?_
    unfold openE
    rw [if_neg (by rw [h0]; simp), if_neg (by omega), if_neg (by omega)]
  · have hE : openE bs kind = headE bs := by unfold openE; rw [if_pos h0]
    have HE3 := Lib.hid hE
    have hb := (beq_no h0).1
    have hb2 := (beq_no h0).2
    have H0 := Lib.hid h0
    clear h0 hE hr
    generalize headE bs = E at *
    generalize sizeS bs = M at *
    go_enter Try.func27, Try.ntmps27
    go_wp2_with fail
    refine H.out.mono ?_
    rintro e w' ⟨rfl, nq, rfl⟩
    go_wp2_with fail
    go_ret3
    exact opened_err HE3.out H0.out (below_drewN (Below.refl _ _) _)
end Go.Proofs.Ytbnhohnlbbkmoaa

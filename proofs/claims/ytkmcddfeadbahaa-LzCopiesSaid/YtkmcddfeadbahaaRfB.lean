/- Contract of the document's Unpack. -/
import Derived.Test.YtkmcddfeadbahaaRfA
import Derived.OwnWalk
import Derived.Deep.QuietTactic
import Derived.BigQuiet
namespace Go.Proofs.Ytkmcddfeadbahaa
open Go.RowKit
set_option linter.unusedVariables false

theorem slice_mid {P : Program} (t e : TypeId) (i : TypeInfo) (ht : P.underlying t = some (.slice e)) (hi : P.info? e = some i) (h1 : i.size = 1)
    {w : World} {B : Nat} {A : Option Addr} {n cap : Nat} {bs : List B8} (h : Rd w B A n bs) (lo l : Nat) (hk : lo + l ≤ n) (hc : n ≤ cap) :
    ∃ A2, (∀ W : World, (Instr.slice t (.slice A n cap) (some (.int .i64 (lo : Int))) (some (.int .i64 ((lo : Int) + (l : Int)))) none).run P W = .ok (.slice A2 l (cap - lo)) W) ∧ Rd w B A2 l ((bs.drop lo).take l) := by
  refine ⟨_, fun W => ?_, (h.drop (k := lo) (cap := cap) (by omega) hc).take (k := l) (by omega)⟩
  have he : P.elem t = e := by simp [Program.elem, ht]
  have hs : (sizeOf (P.elem t)).run P W = .ok 1 W := by rw [he]; simp [sizeOf, typeInfo, hi, h1]
  have e1 : ((lo : Int) + (l : Int)).toNat = lo + l := by omega
  rw [run_slice_lh W t A n cap (by rw [he]; exact ht) .i64 .i64 (lo : Int) ((lo : Int) + (l : Int)) (by omega) (by omega) (by omega), hs]
  simp [sliced, e1]

theorem own_len {w : World} {base n : Nat} {v : Value} {xs : List B8} (h : w.ownsRow base 5 1 v n (xs.map v8)) : xs.length = n := by have := h.1; simpa using this
/-- Behind an append to a row of one's own. -/
theorem grown_own {w w0 w2 : World} {base n m : Nat} {v v2 : Value} {xs ys : List B8} (hB : Below base w0 w) (hb : base ≤ w.heap.size) (ho : w.ownsRow base 5 1 v n (xs.map v8)) (hown : w2.ownsRow base 5 1 v2 (n + m) (xs.map v8 ++ ys.map v8)) (hg : w.grownBy w2 v.ownBlock) :
    ∃ A c, v2 = .slice A (n + m) c ∧ Hid (w2.ownsRow base 5 1 (.slice A (n + m) c) (n + m) ((xs ++ ys).map v8)) ∧ Hid (Below base w0 w2) := by
  obtain ⟨A, c, rfl, _⟩ := own_cap hown
  exact ⟨A, c, rfl, by show World.ownsRow _ _ _ _ _ _ _; rw [List.map_append]; exact hown, hB.grown hg hb (fun q hq => (ho.lt q hq).1)⟩

/-- What the document's Unpack returns. -/
theorem ref_arg (A : Option Addr) (n c : Nat) (w : World) (N : Int) (hN : N < 0 ∨ 4096 < N) :
    Calls Try.prog 14 #[.slice A n c, .int .i64 N] w (Unpacked (.bad 1) w) := by
  by_cases h0 : N < 0
  · clear hN
    go_enter Try.func14, Try.ntmps14
    go_wp2
    go_ret2
    exact ⟨none, 0, 0, rfl, Nat.le_refl _, Rd.none_, Below.refl _ _⟩
  · have h1 : 4096 < N := by omega
    have h2 : 0 ≤ N := by omega
    clear hN h0
    go_enter Try.func14, Try.ntmps14
    go_wp2
    go_ret2
    exact ⟨none, 0, 0, rfl, Nat.le_refl _, Rd.none_, Below.refl _ _⟩

set_option maxRecDepth 100000 in
set_option maxHeartbeats 4000000 in
theorem ref_in (A : Option Addr) (n c : Nat) (bs : List B8) (w : World) (hr : Rd w w.heap.size A n bs) (hc : n ≤ c) (hn : n ≤ 1000000) (N : Nat) (hN : N ≤ 4096) :
    Calls Try.prog 14 #[.slice A n c, .int .i64 (N : Int)] w (Unpacked (unp bs [] N) w) := by
  obtain ⟨i0, hi, hz0, hz1, hz2⟩ := info_parts info5
  obtain ⟨U, hU⟩ : ∃ U, U = unp bs [] N := ⟨_, rfl⟩
  rw [← hU]
  have HU := Lib.hid hU
  have HR := Lib.hid hr
  have HLN := Lib.hid hr.len
  clear hU hr
  go_enter Try.func14, Try.ntmps14
  go_wp2_with fail
  go_loopw [6, 7] (fun o a wr => ∃ (ai : Nat) (out : List B8) (Ao : Option Addr) (co : Nat), o = .slice Ao out.length co ∧ a = .int .i64 (ai : Int) ∧ ai ≤ n ∧ wr.ownsRow w.heap.size 5 1 (.slice Ao out.length co) out.length (out.map v8) ∧ out.length ≤ N ∧ unp (bs.drop ai) out N = U ∧ Below w.heap.size w wr) (fun _ a _ => n - (intOf a).toNat)
  case atStart => exact ⟨0, [], none, 0, rfl, rfl, Nat.zero_le _, World.ownsRow_nil _ _ _ _, Nat.zero_le _, HU.out.symm, Below.refl _ _⟩
  case round =>
    obtain ⟨ai, out, Ao, co, rfl, rfl, hai, hO, hle, hu, hB⟩ := hrel
    have hue := unp_eq (bs.drop ai) out N
    rw [hu] at hue
    have HO := Lib.hid hO
    have HB := Lib.hid hB
    have Hr := Lib.hid (HR.out.below hB)
    clear hO hB hu
    by_cases hlt : ai < n
    · obtain ⟨ad, rfl, hc0⟩ := rd_bt Hr.out hlt
      have hdc := drop_cons (bs := bs) (a := ai) (by rw [HLN.out]; exact hlt)
      rw [hdc] at hue
      have HDC := Lib.hid hdc
      have hltI : (ai : Int) < (n : Int) := by omega
      have hbd := I8.bd (bt bs ai)
      generalize bt bs ai = t at *
      clear hdc
      cases hg1 : lenG (t.toNat / 16) (bs.drop (ai + 1)) with
      | none =>
        have AB := fun W (h : Rd W w.heap.size (some ad) n bs) => Lib.hid (added_bad (some ad) n c bs w.heap.size W h hn (ai + 1) (t.toNat / 16) ((ai : Int) + 1) (I8 t / 16) (by omega) (by unfold I8; omega) (by omega) (by have := t.isLt; omega) hg1)
        simp only [seqOf, hg1] at hue
        have HUE := Lib.hid hue
        clear hue hg1
        go_wp2_with (first
          | (go_at_call 22; with_reducible refine (AB _ Hr.out).out.mono ?_; rintro e w' ⟨u, rfl, rfl⟩))
        go_ret2
        rw [HUE.out]
        exact ⟨none, 0, 0, rfl, Nat.le_refl _, Rd.none_, HB.out⟩
      | some q =>
        obtain ⟨l, b2⟩ := q
        have AG := fun W (h : Rd W w.heap.size (some ad) n bs) => Lib.hid (added_ok (some ad) n c bs w.heap.size W h hn (ai + 1) (t.toNat / 16) l b2 ((ai : Int) + 1) (I8 t / 16) (by omega) (by unfold I8; omega) (by omega) (by have := t.isLt; omega) hg1)
        have HLL := Lib.hid (lenG_length hg1)
        simp only [seqOf, hg1] at hue
        have HUE := Lib.hid hue
        clear hue hg1
        go_wp2_with fail
        refine (AG _ Hr.out).out.mono ?_
        rintro e w' ⟨a1, rfl, ha1, hd1, rfl⟩
        have hb2l : b2.length = n - a1 := by rw [← hd1, List.length_drop, HLN.out]
        have hue := HUE.out
        clear HUE AG
        by_cases hlb : b2.length < l
        · rw [if_pos hlb] at hue
          have HUE := Lib.hid hue
          have hlbI : (n : Int) - (a1 : Int) < (l : Int) := by omega
          clear hue hlb hb2l hd1 HLL
          go_wp2_with fail
          go_ret2
          rw [HUE.out]
          exact ⟨none, 0, 0, rfl, Nat.le_refl _, Rd.none_, HB.out⟩
        · rw [if_neg hlb] at hue
          have hal : a1 + l ≤ n := by omega
          obtain ⟨p1, hp1⟩ : ∃ p1, p1 = a1 + l := ⟨_, rfl⟩
          have hb3 : b2.drop l = bs.drop p1 := by rw [← hd1, List.drop_drop, hp1]
          obtain ⟨lits, hlits⟩ : ∃ lits, lits = b2.take l := ⟨_, rfl⟩
          have hll : lits.length = l := by rw [hlits, List.length_take]; omega
          have hl0 : ¬ (l : Int) < 0 := by omega
          have hlbI : ¬ (n : Int) - (a1 : Int) < (l : Int) := by omega
          have hpI : (a1 : Int) + (l : Int) = (p1 : Int) := by omega
          obtain ⟨A2, hsl, hr2⟩ := slice_mid (P := Try.prog) 22 5 i0 Try.underlying22 hi hz1 Hr.out a1 l hal hc
          rw [hd1, ← hlits] at hr2
          rw [hpI] at hsl
          rw [hb3] at hue
          simp only [← hlits] at hue
          have hpn : p1 ≤ n := by omega
          have hap : ai < p1 := by have := hd1; have := HLL.out; have : b2.length = n - a1 := hb2l; rw [List.length_drop, HLN.out] at *; omega
          have HS := Lib.hid hsl
          have HR2 := Lib.hid hr2
          have HLT := Lib.hid hll
          have HA1 := Lib.hid ha1
          have HP1 := Lib.hid hp1
          clear hlb hb2l hd1 hb3 hlits hll hsl hr2 hp1 hal
          by_cases hlast : p1 = n
          · rw [List.drop_of_length_le (by rw [HLN.out]; omega)] at hue
            have hlI : ((p1 : Int) == (n : Int)) = true := by rw [beq_iff_eq]; omega
            have HUE := Lib.hid hue
            have O9 := HO
            have B9 := HB
            have R9 := HR2
            have S9 := Lib.hid HB.out.size
            clear hue hlast hc0
            by_cases hfit : N < out.length + l
            · have hfI : (N : Int) - (out.length : Int) < (l : Int) := by omega
              have HF := Lib.hid hfit
              clear hfit
              go_wp2_with fail
              go_ret2
              have hue := HUE.out
              rw [if_pos (by rw [HLT.out]; exact HF.out)] at hue
              rw [hue]
              exact ⟨none, 0, 0, rfl, Nat.le_refl _, Rd.none_, B9.out⟩
            · have hfI : ¬ (N : Int) - (out.length : Int) < (l : Int) := by omega
              have hmx : Hid (out.length + l ≤ maxLen) := by show _ ≤ _; unfold maxLen; omega
              have hby : Hid ((out.length + l) * 1 ≤ 140737488355328) := by show _ ≤ _; omega
              have HF := Lib.hid hfit
              have hs := HS.out
              by_cases hend : out.length + l = N
              · have heI : ¬ (out.length : Int) + (l : Int) < (N : Int) := by omega
                have HE := Lib.hid hend
                clear hfit hend
                go_wp2_with (first
                 | (at_builtin
                    refine wpList_append_any _ rfl (.tmp 93) (.tmp 99) 22 rfl w.heap.size 5 i0 (.int .u8 0) 1 1 Try.underlying22 hi hz0 hz1 hz2 rfl (by decide) _ out.length _ rfl O9.out w.heap.size A2 l _ (lits.map v8) rfl R9.out (oneCell_v8 _) hmx.out hby.out S9.out ?_
                    intro v6 w6 hown6 hg6 hat6
                    obtain ⟨A6, c6, rfl, O6, B6⟩ := grown_own B9.out S9.out O9.out hown6 hg6))
                go_ret2
                have hue := HUE.out
                rw [if_neg (by rw [HLT.out]; exact HF.out), if_pos (by rw [List.length_append, HLT.out]; exact HE.out)] at hue
                rw [hue]
                obtain ⟨_, _, e, hcap⟩ := own_cap O6.out
                injection e with _ _ e
                exact ⟨A6, _, c6, rfl, by omega, Rd.of_own O6.out, B6.out⟩
              · have heI : (out.length : Int) + (l : Int) < (N : Int) := by omega
                have HE := Lib.hid hend
                clear hfit hend
                go_wp2_with (first
                 | (at_builtin
                    refine wpList_append_any _ rfl (.tmp 93) (.tmp 99) 22 rfl w.heap.size 5 i0 (.int .u8 0) 1 1 Try.underlying22 hi hz0 hz1 hz2 rfl (by decide) _ out.length _ rfl O9.out w.heap.size A2 l _ (lits.map v8) rfl R9.out (oneCell_v8 _) hmx.out hby.out S9.out ?_
                    intro v6 w6 hown6 hg6 hat6
                    obtain ⟨A6, c6, rfl, O6, B6⟩ := grown_own B9.out S9.out O9.out hown6 hg6))
                go_ret2
                have hue := HUE.out
                rw [if_neg (by rw [HLT.out]; exact HF.out), if_neg (by rw [List.length_append, HLT.out]; exact HE.out)] at hue
                rw [hue]
                exact ⟨none, 0, 0, rfl, Nat.le_refl _, Rd.none_, B6.out⟩
          · have hlI : ((p1 : Int) == (n : Int)) = false := by rw [beq_eq_false_iff_ne]; omega
            rw [drop_cons (by rw [HLN.out]; omega)] at hue
            by_cases h1 : p1 + 1 = n
            · rw [List.drop_of_length_le (by rw [HLN.out]; omega)] at hue
              have HUE := Lib.hid hue
              have h2 : (n : Int) - (p1 : Int) < 2 := by omega
              clear hue hlast h1
              go_wp2_with fail
              go_ret2
              rw [HUE.out]
              exact ⟨none, 0, 0, rfl, Nat.le_refl _, Rd.none_, HB.out⟩
            · rw [drop_cons (by rw [HLN.out]; omega)] at hue
              have h2 : ¬ (n : Int) - (p1 : Int) < 2 := by omega
              obtain ⟨_, e, x0⟩ := rd_bt Hr.out (a := p1) (by omega)
              injection e with e; subst e
              obtain ⟨p2, hp2⟩ : ∃ p2, p2 = p1 + 1 := ⟨_, rfl⟩
              rw [← hp2] at hue h1
              have hp2I : (p1 : Int) + 1 = (p2 : Int) := by omega
              obtain ⟨_, e, x1⟩ := rd_bt Hr.out (a := p2) (by omega)
              injection e with e; subst e
              have hbx := I8.bd (bt bs p1)
              have hby := I8.bd (bt bs p2)
              generalize bt bs p1 = x at *
              generalize bt bs p2 = y at *
              obtain ⟨d, hd⟩ : ∃ d, d = x.toNat + 256 * y.toNat := ⟨_, rfl⟩
              obtain ⟨tl, htl⟩ : ∃ tl, tl = t.toNat % 16 := ⟨_, rfl⟩
              have hor := or_two x y
              have hand := low4 t
              dsimp only at hue
              rw [← hd] at hor hue
              rw [← htl] at hand hue
              have i1 : (p1 : Int) < (n : Int) := by omega
              have i2 : (p2 : Int) < (n : Int) := by omega
              have HTL : Hid (tl ≤ 15) := by show _ ≤ _; omega
              have HP2 := Lib.hid hp2
              have HIN : Hid (p2 + 1 ≤ n) := by show _ ≤ _; omega
              clear hp2 hd htl h1 hlast
              cases hg2 : lenG tl (bs.drop (p2 + 1)) with
              | none =>
                have AB := fun W (h : Rd W w.heap.size (some ad) n bs) => Lib.hid (added_bad (some ad) n c bs w.heap.size W h hn (p2 + 1) tl ((p1 : Int) + 2) (tl : Int) (by have := HP2.out; omega) rfl HIN.out HTL.out hg2)
                simp only [hg2] at hue
                have HUE := Lib.hid hue
                clear hue hg2
                go_wp2_with fail
                go_quiet (fail)
                go_wp2_with (first
                  | (go_at_call 22; with_reducible refine (AB _ (Hr.out.drewN nq)).out.mono ?_; rintro e w' ⟨u, rfl, rfl⟩))
                go_ret2
                rw [HUE.out]
                exact ⟨none, 0, 0, rfl, Nat.le_refl _, Rd.none_, below_drewN HB.out _⟩
              | some q =>
                obtain ⟨m, b5⟩ := q
                have AG := fun W (h : Rd W w.heap.size (some ad) n bs) => Lib.hid (added_ok (some ad) n c bs w.heap.size W h hn (p2 + 1) tl m b5 ((p1 : Int) + 2) (tl : Int) (by have := HP2.out; omega) rfl HIN.out HTL.out hg2)
                have HG2 := Lib.hid (lenG_length hg2)
                obtain ⟨M, hM⟩ : ∃ M, M = m + 4 := ⟨_, rfl⟩
                have hMI : (m : Int) + 4 = (M : Int) := by omega
                have hMb : (M : Int) ≤ 300000000 := by have h1 := lenG_le hg2; have h2 := HTL.out; rw [List.length_drop, HLN.out] at h1; omega
                simp only [hg2, ← hM] at hue
                have HUE := Lib.hid hue
                have HM := Lib.hid hM
                have hm0 : ¬ (m : Int) < 0 := by omega
                clear hue hg2 hM
                go_wp2_with fail
                go_quiet (fail)
                go_wp2_with fail
                refine (AG _ (Hr.out.drewN nq)).out.mono ?_
                rintro e w' ⟨a2, rfl, ha2, hd2, rfl⟩
                obtain ⟨w9, hw9⟩ : ∃ w9, w9 = wr.drewN nq := ⟨_, rfl⟩
                have O9 : Hid (w9.ownsRow w.heap.size 5 1 (.slice Ao out.length co) out.length (out.map v8)) := by rw [hw9]; exact HO.out
                have B9 : Hid (Below w.heap.size w w9) := by rw [hw9]; exact below_drewN HB.out nq
                have R9 : Hid (Rd w9 w.heap.size A2 l lits) := by rw [hw9]; exact HR2.out.drewN nq
                have S9 := Lib.hid B9.out.size
                rw [← hw9]
                have HD2 := Lib.hid hd2
                clear hw9 AG x0 x1 hor hand i1 i2 hd2 hc0
                by_cases hfit : N < out.length + l
                · have hfI : (N : Int) - (out.length : Int) < (l : Int) := by omega
                  have HF := Lib.hid hfit
                  clear hfit
                  go_wp2_with fail
                  go_ret2
                  have hue := HUE.out
                  rw [if_pos (by rw [HLT.out]; exact HF.out)] at hue
                  rw [hue]
                  exact ⟨none, 0, 0, rfl, Nat.le_refl _, Rd.none_, B9.out⟩
                · have hfI : ¬ (N : Int) - (out.length : Int) < (l : Int) := by omega
                  have hmx : Hid (out.length + l ≤ maxLen) := by show _ ≤ _; unfold maxLen; omega
                  have hby : Hid ((out.length + l) * 1 ≤ 140737488355328) := by show _ ≤ _; omega
                  have HF := Lib.hid hfit
                  have hs := HS.out
                  clear hfit
                  by_cases hd0 : d = 0
                  · subst hd0
                    go_wp2_with (first
                 | (at_builtin
                    refine wpList_append_any _ rfl (.tmp 93) (.tmp 99) 22 rfl w.heap.size 5 i0 (.int .u8 0) 1 1 Try.underlying22 hi hz0 hz1 hz2 rfl (by decide) _ out.length _ rfl O9.out w.heap.size A2 l _ (lits.map v8) rfl R9.out (oneCell_v8 _) hmx.out hby.out S9.out ?_
                    intro v6 w6 hown6 hg6 hat6
                    obtain ⟨A6, c6, rfl, O6, B6⟩ := grown_own B9.out S9.out O9.out hown6 hg6))
                    go_ret2
                    have hue := HUE.out
                    rw [if_neg (by rw [HLT.out]; exact HF.out), if_pos (by simp)] at hue
                    rw [hue]
                    exact ⟨none, 0, 0, rfl, Nat.le_refl _, Rd.none_, B6.out⟩
                  · have hd1 : ((d : Int) == 0) = false := by rw [beq_eq_false_iff_ne]; omega
                    have HD0 := Lib.hid hd0
                    clear hd0
                    by_cases hd2 : out.length + l < d
                    · have hd3 : (out.length : Int) + (l : Int) < (d : Int) := by omega
                      have HDD := Lib.hid hd2
                      clear hd2
                      go_wp2_with (first
                   | (at_builtin
                      refine wpList_append_any _ rfl (.tmp 93) (.tmp 99) 22 rfl w.heap.size 5 i0 (.int .u8 0) 1 1 Try.underlying22 hi hz0 hz1 hz2 rfl (by decide) _ out.length _ rfl O9.out w.heap.size A2 l _ (lits.map v8) rfl R9.out (oneCell_v8 _) hmx.out hby.out S9.out ?_
                      intro v6 w6 hown6 hg6 hat6
                      obtain ⟨A6, c6, rfl, O6, B6⟩ := grown_own B9.out S9.out O9.out hown6 hg6))
                      go_ret2
                      have hue := HUE.out
                      rw [if_neg (by rw [HLT.out]; exact HF.out), if_pos (.inr (by rw [List.length_append, HLT.out]; exact HDD.out))] at hue
                      rw [hue]
                      exact ⟨none, 0, 0, rfl, Nat.le_refl _, Rd.none_, B6.out⟩
                    · have hd3 : ¬ (out.length : Int) + (l : Int) < (d : Int) := by omega
                      have HDD := Lib.hid hd2
                      clear hd2
                      by_cases hm2 : N < out.length + l + M
                      · have hm3 : (N : Int) - ((out.length : Int) + (l : Int)) < (M : Int) := by omega
                        have HM2 := Lib.hid hm2
                        clear hm2
                        go_wp2_with (first
                     | (at_builtin
                        refine wpList_append_any _ rfl (.tmp 93) (.tmp 99) 22 rfl w.heap.size 5 i0 (.int .u8 0) 1 1 Try.underlying22 hi hz0 hz1 hz2 rfl (by decide) _ out.length _ rfl O9.out w.heap.size A2 l _ (lits.map v8) rfl R9.out (oneCell_v8 _) hmx.out hby.out S9.out ?_
                        intro v6 w6 hown6 hg6 hat6
                        obtain ⟨A6, c6, rfl, O6, B6⟩ := grown_own B9.out S9.out O9.out hown6 hg6))
                        go_ret2
                        have hue := HUE.out
                        rw [if_neg (by rw [HLT.out]; exact HF.out), if_neg (by rw [List.length_append, HLT.out]; have := HD0.out; have := HDD.out; omega), if_pos (by rw [List.length_append, HLT.out]; exact HM2.out)] at hue
                        rw [hue]
                        exact ⟨none, 0, 0, rfl, Nat.le_refl _, Rd.none_, B6.out⟩
                      · have hm3 : ¬ (N : Int) - ((out.length : Int) + (l : Int)) < (M : Int) := by omega
                        have HM2 := Lib.hid hm2
                        clear hm2
                        go_wp2_with (first
                     | (at_builtin
                        refine wpList_append_any _ rfl (.tmp 93) (.tmp 99) 22 rfl w.heap.size 5 i0 (.int .u8 0) 1 1 Try.underlying22 hi hz0 hz1 hz2 rfl (by decide) _ out.length _ rfl O9.out w.heap.size A2 l _ (lits.map v8) rfl R9.out (oneCell_v8 _) hmx.out hby.out S9.out ?_
                        intro v6 w6 hown6 hg6 hat6
                        obtain ⟨A6, c6, rfl, O6, B6⟩ := grown_own B9.out S9.out O9.out hown6 hg6))
                        obtain ⟨o1, ho1⟩ : ∃ o1, o1 = out ++ lits := ⟨_, rfl⟩
                        have hol : o1.length = out.length + l := by rw [ho1, List.length_append, HLT.out]
                        have O7 : Hid (w6.ownsRow w.heap.size 5 1 (.slice A6 (out.length + l) c6) (out.length + l) (o1.map v8)) := by rw [ho1]; exact O6.out
                        have HO1 := Lib.hid ho1
                        have HOL := Lib.hid hol
                        clear ho1 hol hs hfI hd1 hd3 hm3
                        go_loopw [6, 14] (fun o i wx => ∃ (j : Nat) (Ax : Option Addr) (cx : Nat), o = .slice Ax (out.length + l + j) cx ∧ i = .int .i64 (j : Int) ∧ j ≤ M ∧ wx.ownsRow w.heap.size 5 1 (.slice Ax (out.length + l + j) cx) (out.length + l + j) ((copyN o1 d j).map v8) ∧ Below w.heap.size w wx) (fun _ i _ => M - (intOf i).toNat)
                        case atStart => exact ⟨0, A6, c6, rfl, rfl, Nat.zero_le _, O7.out, B6.out⟩
                        case round =>
                          obtain ⟨j, Ax, cx, rfl, rfl, hj, hown, hbl⟩ := hrel
                          by_cases hlt : j < M
                          · have hltI : (j : Int) < (M : Int) := by omega
                            have e1 := HDD.out
                            have e2 := HD0.out
                            have e3 := HM2.out
                            obtain ⟨ix, hix⟩ : ∃ ix, ix = out.length + l + j - d := ⟨_, rfl⟩
                            obtain ⟨adx, rfl, hcx⟩ := rd_bt (Rd.of_own hown) (a := ix) (by omega)
                            have hixI : (out.length : Int) + (l : Int) + (j : Int) - (d : Int) = (ix : Int) := by omega
                            have hixl : (ix : Int) < (out.length : Int) + (l : Int) + (j : Int) := by omega
                            have hcn : copyN o1 d (j + 1) = copyN o1 d j ++ [bt (copyN o1 d j) ix] := by rw [copyN, copyN_length, HOL.out, ← hix]
                            generalize bt (copyN o1 d j) ix = xb at *
                            have hcap : Hid (out.length + l + j + 1 ≤ maxLen) := by show _ ≤ _; unfold maxLen; omega
                            have hbt : Hid ((out.length + l + j + 1) * 1 ≤ 140737488355328) := by show _ ≤ _; omega
                            have hba : Hid (w.heap.size ≤ (wr.alloc (.cells #[.int .u8 (I8 xb)] 5)).heap.size) := by show _ ≤ _; have := hbl.size; simp; omega
                            have HCN := Lib.hid hcn
                            have HOWN := Lib.hid hown
                            have HBL := Lib.hid hbl
                            have hbdx := I8.bd xb
                            clear e1 e2 e3 hix hcn hown hbl
                            go_wp2_with (first
                              | (at_builtin
                                 refine wpList_append_any _ rfl (.tmp 123) (.tmp 131) 22 rfl w.heap.size 5 i0 (.int .u8 0) 1 1 Try.underlying22 hi hz0 hz1 hz2 rfl (by decide) _ (out.length + l + j) _ rfl (HOWN.out.alloc _) (wr.heap.size + 1) _ 1 1 ([xb].map v8) rfl (rd_lit wr [xb] _ 5 (0, 0) rfl) (oneCell_v8 _) hcap.out hbt.out hba.out ?_
                                 intro v7 w7 hown7 hg7 hat7
                                 obtain ⟨A7, c7, rfl, O8, B8⟩ := grown_own (HBL.out.alloc HBL.out.size _) hba.out (HOWN.out.alloc _) hown7 hg7))
                            refine ⟨⟨j + 1, A7, c7, rfl, rfl, hlt, by rw [HCN.out]; exact O8.out, B8.out⟩, meas hlt⟩
                          · obtain rfl : j = M := by omega
                            have hltI : ¬ (j : Int) < (j : Int) := by omega
                            go_wp2_with fail
                            have hl : (copyN o1 d j).length = out.length + l + j := by rw [copyN_length, HOL.out]
                            have e1 := HF.out
                            have e2 := HD0.out
                            have e3 := HDD.out
                            have e4 := HM2.out
                            have hue := HUE.out
                            rw [if_neg (by rw [HLT.out]; exact e1), if_neg (by rw [List.length_append, HLT.out]; omega), if_neg (by rw [List.length_append, HLT.out]; exact e4), ← HO1.out, ← HD2.out] at hue
                            refine ⟨⟨a2, copyN o1 d j, Ax, cx, by rw [hl], rfl, ha2, by rw [hl]; exact hown, by rw [hl]; omega, hue.symm, hbl⟩, ?_⟩
                            have e5 := HG2.out
                            have e6 := HIN.out
                            have e7 := HP2.out
                            rw [← HD2.out, List.length_drop, List.length_drop, HLN.out] at e5
                            show n - ((a2 : Nat) : Int).toNat < n - ((ai : Nat) : Int).toNat
                            rw [Int.toNat_natCast, Int.toNat_natCast]
                            omega
    · obtain rfl : ai = n := by omega
      rw [List.drop_of_length_le (by rw [HLN.out]; exact Nat.le_refl _)] at hue
      simp only [seqOf] at hue
      have HUE := Lib.hid hue
      clear hue
      go_wp2_with fail
      go_ret2
      rw [HUE.out]
      exact ⟨none, 0, 0, rfl, Nat.le_refl _, Rd.none_, HB.out⟩
end Go.Proofs.Ytkmcddfeadbahaa

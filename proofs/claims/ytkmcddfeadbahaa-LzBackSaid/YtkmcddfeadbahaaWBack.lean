/- The walk of LzBack. -/
import Derived.Test.YtkmcddfeadbahaaAw6
import Derived.Deep.RegionLaw
import Derived.Deep.RegionHeld3
namespace Go.Proofs.Ytkmcddfeadbahaa
open Go.RowKit
set_option linter.unusedVariables false

/-- What lies where in the last region: the data, the packed bytes, both unpacked rows. -/
def Bk (w0 : World) (B : Nat) (Ao A3 A4 A5 : Option Addr) (n L : Nat) (xs zs : List B8) (w : World) : Prop :=
  Rd w w.heap.size Ao n xs ∧ Rd w w.heap.size A3 L zs ∧ Rd w w.heap.size A4 n xs ∧ Rd w w.heap.size A5 n xs ∧ Below B w0 w ∧ B ≤ w.heap.size
section
variable {w0 w w' : World} {B n L : Nat} {Ao A3 A4 A5 : Option Addr} {xs zs : List B8}
theorem Bk.drew (h : Bk w0 B Ao A3 A4 A5 n L xs zs w) : Bk w0 B Ao A3 A4 A5 n L xs zs w.drew := ⟨h.1.drew, h.2.1.drew, h.2.2.1.drew, h.2.2.2.1.drew, below_drewN h.2.2.2.2.1 1, h.2.2.2.2.2⟩
theorem Bk.step (h : Bk w0 B Ao A3 A4 A5 n L xs zs w) (hb : Below w.heap.size w w') : Bk w0 B Ao A3 A4 A5 n L xs zs w' :=
  ⟨(h.1.below hb).more hb.size, (h.2.1.below hb).more hb.size, (h.2.2.1.below hb).more hb.size, (h.2.2.2.1.below hb).more hb.size, h.2.2.2.2.1.trans (hb.mono h.2.2.2.2.2), Nat.le_trans h.2.2.2.2.2 hb.size⟩
theorem Bk.str (h : Bk w0 B Ao A3 A4 A5 n L xs zs w) {D Z : ByteArray} (hD : Hid (strOf xs = D)) (hZ : Hid (strOf zs = Z)) (co c3 c4 c5 : Nat) :
    (convert 22 9 (Value.slice A5 n c5)).run Try.prog w = .ok (.string D) w ∧ (convert 22 9 (Value.slice A4 n c4)).run Try.prog w = .ok (.string D) w ∧
    (convert 22 9 (Value.slice Ao n co)).run Try.prog w = .ok (.string D) w ∧ (convert 22 9 (Value.slice A3 L c3)).run Try.prog w = .ok (.string Z) w := by
  refine ⟨?_, ?_, ?_, ?_⟩
  · rw [← hD.out]; exact conv_str (P := Try.prog) 22 9 5 (c := c5) Try.underlying22 Try.underlying5 Try.underlying9 h.2.2.2.1
  · rw [← hD.out]; exact conv_str (P := Try.prog) 22 9 5 (c := c4) Try.underlying22 Try.underlying5 Try.underlying9 h.2.2.1
  · rw [← hD.out]; exact conv_str (P := Try.prog) 22 9 5 (c := co) Try.underlying22 Try.underlying5 Try.underlying9 h.1
  · rw [← hZ.out]; exact conv_str (P := Try.prog) 22 9 5 (c := c3) Try.underlying22 Try.underlying5 Try.underlying9 h.2.1
end

/-- One goal more beside the goal: the same continuation at another frame. -/
theorem besides {K : Act → World → Prop} {a : Act} {w : World} (f : Act → Act) (main : K a w) (_more : K (f a) w) : K a w := main
theorem conv_none (w : World) : (convert 22 9 (Value.slice none 0 0)).run Try.prog w = .ok (.string (strOf [])) w :=
  conv_str (P := Try.prog) 22 9 5 Try.underlying22 Try.underlying5 Try.underlying9 (Rd.none_ (B := 0))

set_option maxRecDepth 100000 in
set_option maxHeartbeats 2400000 in
theorem walkBack (a0 : Option Addr) (len0 cap0 : Nat) (y : Int) (hy0 : 0 ≤ y) (hy1 : y ≤ 255) (w : World) (bs : List B8) (hr : Rd w w.heap.size a0 len0 bs) :
    Calls Try.prog 6 #[.slice a0 len0 cap0, .int .u8 y] w fun e w' => e = .returned (.bool true) ∧ Below w.heap.size w w' := by
  by_cases hhi : 1000 < len0
  · go_enter Try.func6, Try.ntmps6
    go_wp2_with (go_at_call 10; refine (awake6 _).mono ?_; rintro e w1 ⟨rfl, hb1⟩)
    go_ret
    exact ⟨rfl, hb1⟩
  obtain ⟨i0, hi, hz0, hz1, hz2⟩ := info_parts info5
  have HR := Lib.hid hr
  clear hr
  go_enter Try.func6, Try.ntmps6
  go_wp2_with (go_at_call 10; refine (awake6 _).mono ?_; rintro e w1 ⟨rfl, hb1⟩)
  have HB1 := Lib.hid hb1
  clear hb1
  go_loopw [5, 6] (fun o i wr => ∃ (k n : Nat) (xs : List B8) (Ao : Option Addr) (co : Nat), i = .int .i64 (k : Int) ∧ o = .slice Ao n co ∧ (k : Int) ≤ y + 1 ∧ n ≤ 4096 ∧ wr.ownsRow w.heap.size 5 1 (.slice Ao n co) n (xs.map v8) ∧ xs.length = n ∧ Below w.heap.size w wr) (fun _ i _ => 257 - (intOf i).toNat)
  case atStart => exact ⟨0, 0, [], none, 0, rfl, rfl, by omega, by omega, World.ownsRow_nil _ _ _ _, rfl, HB1.out⟩
  case round =>
    obtain ⟨k, n, xs, Ao, co, rfl, rfl, hk, hx, hown, hxl, hb⟩ := hrel
    have HO := Lib.hid hown
    have HB := Lib.hid hb
    have HK := Lib.hid hk
    by_cases hgo : (k : Int) ≤ y ∧ n + len0 ≤ 4096
    · obtain ⟨h1, h2⟩ := hgo
      have h2I : (n : Int) + (len0 : Int) ≤ 4096 := by omega
      have R1 := Lib.hid (HR.out.below hb)
      have S1 := Lib.hid hb.size
      have H2 := Lib.hid h2
      have hmx : Hid (n + len0 ≤ maxLen) := by show _ ≤ _; unfold maxLen; omega
      have hby : Hid ((n + len0) * 1 ≤ 140737488355328) := by show _ ≤ _; omega
      clear hown hb h2 hk hx
      go_wp2_with (first
        | (at_builtin
           refine wpList_append_any _ rfl (.tmp 31) (.tmp 32) 22 rfl w.heap.size 5 i0 (.int .u8 0) 1 1 Try.underlying22 hi hz0 hz1 hz2 rfl (by decide) _ n _ rfl HO.out w.heap.size a0 len0 cap0 (bs.map v8) rfl R1.out (oneCell_v8 _) hmx.out hby.out S1.out ?_
           intro v2 w2 hown2 hg2 hat2
           obtain ⟨A2, c2, rfl, O2, B2⟩ := grown_own HB.out S1.out HO.out hown2 hg2
           clear hown2 hg2 hat2))
      refine ⟨⟨k + 1, n + len0, xs ++ bs, A2, c2, by congr 1, rfl, by omega, H2.out, O2.out, ?_, B2.out⟩, ?_⟩
      · rw [List.length_append, hxl, HR.out.len]
      · simp only [intOf]; omega
    · have hgo2 : y < (k : Int) ∨ ((k : Int) ≤ y ∧ 4096 < (n : Int) + (len0 : Int)) := by omega
      have hcap : n ≤ co := by
        obtain ⟨_, _, e, h⟩ := own_cap hown
        injection e with _ _ e
        omega
      have hrd := Rd.of_own hown
      have P := Lib.hid (pack_in Ao n co xs wr hrd hcap hx)
      have RX := Lib.hid hrd
      have SP := Lib.hid (says_pack xs (n : Int) (by omega) (by rw [hxl]))
      have PL := Lib.hid (pack_length xs (by omega))
      have HX := Lib.hid hx
      have HC := Lib.hid hcap
      generalize hL : (pack xs).length = L at *
      rw [hxl] at PL
      have HXL := Lib.hid hxl
      have HL := Lib.hid hL
      obtain ⟨M, hM⟩ : ∃ M : Nat, M = n + n / 255 + 16 := ⟨_, rfl⟩
      have MO : ∀ w, Hid (Calls Try.prog 15 #[.int .i64 (n : Int)] w fun e w' => e = .returned (.int .i64 (M : Int)) ∧ w = w') := fun w => by rw [hM]; exact most_any n w hx
      have hMI : (n : Int) + (n : Int) / 255 + 16 = (M : Int) := by omega
      obtain ⟨q, hq⟩ : ∃ q : Nat, q = n / 255 := ⟨_, rfl⟩
      have hq1 : IntKind.i64.wrap ((n : Int) / 255) = (q : Int) := by rw [IntKind.wrap_i64]; omega
      have hq2 : IntKind.i64.wrap ((n : Int) + (q : Int)) = ((n + q : Nat) : Int) := by rw [IntKind.wrap_i64]; omega
      have hq3 : IntKind.i64.wrap (((n + q : Nat) : Int) + 16) = (M : Int) := by rw [IntKind.wrap_i64]; omega
      obtain ⟨R, hR⟩ : ∃ R : Nat, n + q = R := ⟨_, rfl⟩
      rw [hR] at hq2 hq3
      clear hMI
      have hLM : (L : Int) ≤ (M : Int) := by have := PL.out; omega
      clear hown hb hrd hcap hL hxl hM hgo hk hq hR
      have HMX : Hid (0 + n ≤ maxLen) := by show _ ≤ _; unfold maxLen; omega
      have HBY : Hid ((0 + n) * 1 ≤ 140737488355328) := by show _ ≤ _; omega
      rcases hgo2 with hgo2 | ⟨h1, h2⟩
      all_goals
        go_wp2_with fail
        with_reducible refine P.out.mono ?_
        rintro e w3 ⟨A3, c3, rfl, hr3, hb3, hc3⟩
        have hL2 : L ≤ 1000000 := by have := PL.out; have := HX.out; omega
        have U := Lib.hid (ref_any A3 L c3 (pack xs) w3 hr3 hc3 hL2 (n : Int))
        have RX3 := Lib.hid ((RX.out.below hb3).more hb3.size)
        have RP3 := Lib.hid hr3
        have HB3 := Lib.hid (HB.out.trans (hb3.mono HB.out.size))
        have HL2 := Lib.hid hL2
        have HC3 := Lib.hid hc3
        clear hr3 hb3 hL2 hc3
        go_wp2_with fail
        refine U.out.mono fun e w4 h => ?_
        obtain ⟨A4, c4, rfl, hc4, hr4, hb4⟩ := unpacked_good SP.out h
        rw [HXL.out] at hr4 ⊢
        have RX4 := Lib.hid ((RX3.out.below hb4).more hb4.size)
        have RP4 := Lib.hid ((RP3.out.below hb4).more hb4.size)
        have RU4 := Lib.hid hr4
        have HB4 := Lib.hid (HB3.out.trans (hb4.mono HB3.out.size))
        have U4 := Lib.hid (unpack_any A3 L c3 (pack xs) w4 RP4.out HC3.out HL2.out (n : Int))
        clear h hr4 hb4
        go_wp2_with fail
        refine U4.out.mono fun e w5 h => ?_
        obtain ⟨A5, c5, rfl, hc5, hr5, hb5⟩ := unpacked_good SP.out h
        rw [HXL.out] at hr5 ⊢
        have BK5 : Hid (Bk w w.heap.size Ao A3 A4 A5 n L xs (pack xs) w5) := ⟨(RX4.out.below hb5).more hb5.size, (RP4.out.below hb5).more hb5.size, (RU4.out.below hb5).more hb5.size, hr5, HB4.out.trans (hb5.mono HB4.out.size), Nat.le_trans HB4.out.size hb5.size⟩
        obtain ⟨D, hD⟩ : ∃ D, strOf xs = D := ⟨_, rfl⟩
        obtain ⟨Z, hZ⟩ : ∃ Z, strOf (pack xs) = Z := ⟨_, rfl⟩
        obtain ⟨E0, hE0⟩ : ∃ E0, strOf [] = E0 := ⟨_, rfl⟩
        have hcn := conv_none
        rw [hE0] at hcn
        clear hE0
        have HD := Lib.hid hD
        have HZ := Lib.hid hZ
        have BD : Hid (Bk w w.heap.size Ao A3 A4 A5 n L xs (pack xs) w5.drew) := BK5.out.drew
        have BA : Hid (Bk w w.heap.size Ao A3 A4 A5 n L xs (pack xs) (w5.drew.alloc (.cells #[] 5))) := BK5.out.drew.step ((Below.refl _ _).alloc (Nat.le_refl _) _)
        have RO : Hid ((w5.drew.alloc (.cells #[] 5)).ownsRow w5.drew.heap.size 5 1 (.slice (some ⟨w5.drew.heap.size, 0, none⟩) 0 0) 0 []) := World.ownsRow_lit _ #[] 0 (Nat.le_refl _) (by unfold maxLen; omega) rfl
        have RA : Hid (Rd (w5.drew.alloc (.cells #[] 5)) w5.drew.heap.size Ao n xs) := BD.out.1.alloc (Nat.le_refl _) _
        clear h hr5 hb5 hD hZ U U4 RX RX3 RX4 RP3 RP4 RU4 HB3 HB4 P HO
        go_wp2_with fail
        go_region_held3 (fun w' => (Sem.run Try.prog (convert 22 9 (Value.slice A5 n c5)) w' = Result.ok (Value.string D) w' ∧ Sem.run Try.prog (convert 22 9 (Value.slice A4 n c4)) w' = Result.ok (Value.string D) w' ∧ Sem.run Try.prog (convert 22 9 (Value.slice Ao n co)) w' = Result.ok (Value.string D) w' ∧ Sem.run Try.prog (convert 22 9 (Value.slice A3 L c3)) w' = Result.ok (Value.string Z) w')) (first
          | assumption
          | exact BD.out.str HD HZ co c3 c4 c5
          | exact BA.out.str HD HZ co c3 c4 c5
          | exact BK6.out.str HD HZ co c3 c4 c5
          | exact BK7.out.str HD HZ co c3 c4 c5
          | fail)
          (first
          | (go_at_call 15
             with_reducible refine (MO _).out.mono ?_
             rintro e w' ⟨rfl, rfl⟩)
          | (rw [if_pos (by rfl)]
             refine wp_append_any _ (.tmp 92) (.tmp 93) 22 rfl w5.drew.heap.size 5 i0 (.int .u8 0) 1 1 Try.underlying22 hi hz0 hz1 hz2 rfl (by decide) _ 0 [] rfl RO.out w5.drew.heap.size Ao n co (xs.map v8) rfl RA.out (oneCell_v8 _) HMX.out HBY.out (by simp) ?_
             intro v2 w2 hown2 hg2 hat2
             simp only [Nat.zero_add, List.nil_append] at hown2
             obtain ⟨A6, c6, rfl, hc6⟩ := own_cap hown2
             have hb6 : Below w5.drew.heap.size w5.drew w2 := ((Below.refl _ _).alloc (Nat.le_refl _) _).grown hg2 (by simp) (fun q hq => by injection (show some w5.drew.heap.size = some q from hq) with hq; rw [← hq]; exact Nat.le_refl _)
             have BK6 : Hid (Bk w w.heap.size Ao A3 A4 A5 n L xs (pack xs) w2) := BD.out.step hb6
             have P6 := Lib.hid (pack_in A6 n c6 xs w2 (Rd.of_own hown2) hc6 HX.out)
             rw [HL.out] at P6
             clear hown2 hg2 hat2 hc6 hb6)
          | (go_at_call 13
             with_reducible refine P6.out.mono ?_
             rintro e w6 ⟨A7, c7, rfl, hr7, hb7, hc7⟩
             have BK7 : Hid (Bk w w.heap.size Ao A3 A4 A5 n L xs (pack xs) w6) := BK6.out.step hb7
             have c7s := conv_str (P := Try.prog) 22 9 5 (c := c7) Try.underlying22 Try.underlying5 Try.underlying9 hr7
             rw [HZ.out] at c7s
             clear hr7 hb7 hc7
             go_wp2_with fail
             have hS6 := BK7.out.str HD HZ co c3 c4 c5
             refine besides (fun a => (a.put (some 95) (.slice none 0 0)).put (some 98) (.string E0)) ?_ ?_
             focus
               have hk := ‹Shut (∀ (a : Act) (w : World), _ → _ → _)›
               refine hk.out _ _ hS6 (fun _ => ?_)
               refine wpAnyH_ready (rs := [46]) (by kernel_rfl) (by simp) ?_
               refine AllReadyH.cons rfl (fun K2 hK2 => ?_) AllReadyH.nil
               go_simp
               refine hK2.out _ _ hS6 (fun _ => ?_)
               clear hK2 K2
               refine wpAnyH_ready (rs := [49]) (by kernel_rfl) (by simp) ?_
               refine AllReadyH.cons rfl (fun K2 hK2 => ?_) AllReadyH.nil
               go_simp
               refine hK2.out _ _ hS6 (fun _ => ?_)
               clear hK2 K2
               refine wpAnyH_ready (rs := [50]) (by kernel_rfl) (by simp) ?_
               refine AllReadyH.cons rfl (fun K2 hK2 => ?_) AllReadyH.nil
               go_simp
               refine hK2.out _ _ hS6 (fun _ => ?_)
               clear hK2 K2
               refine wpAnyH_ready (rs := [51]) (by kernel_rfl) (by simp) ?_
               refine AllReadyH.cons rfl (fun K2 hK2 => ?_) AllReadyH.nil
               go_simp
               refine hK2.out _ _ hS6 (fun _ => ?_)
               clear hK2 K2
               refine wpAnyH_done (by kernel_rfl) ?_ _
               refine NoPanic.normal ?_
               clear hk
               go_wp2_with fail
               go_ret
               exact ⟨rfl, BK7.out.2.2.2.2.1⟩
             clear hS6))
        go_wp2_with fail
        go_ret
        exact ⟨rfl, BK7.out.2.2.2.2.1⟩
end Go.Proofs.Ytkmcddfeadbahaa

/- The walk of TallyParts. -/
import Derived.Test.YtbnhohnlbbkmoaaAw3
import Derived.WalkSpells
import Derived.Outline
import Derived.IntWalk
namespace Go.Proofs.Ytbnhohnlbbkmoaa
open Go.RowKit
set_option linter.unusedVariables false

theorem own_slice {w : World} {base e n : Nat} {v : Value} {xs : List Value} (h : w.ownsRow base e 1 v n xs) : ∃ A c, v = .slice A n c := by
  rcases h.2 with ⟨rfl, h0⟩ | ⟨g, cap, cur, rfl, _⟩
  · exact ⟨none, 0, by rw [h0]⟩
  · exact ⟨_, _, rfl⟩

/-- A slice of slices of bytes that came in. -/
def Rows2 (w : World) (a : Option Addr) (n : Nat) : Prop :=
  ∀ i, i < n → ∃ ad ai li ci bs, a = some ad ∧ w.cell? (ad.add i) = some (.slice ai li ci) ∧ li ≤ ci ∧ ci ≤ 9223372036854775807 ∧ Rd w w.heap.size ai li bs

set_option maxHeartbeats 2000000 in
theorem walkParts (a0 : Option Addr) (len0 cap0 : Nat) (w : World) (hlc : len0 ≤ cap0) (hcm : cap0 ≤ 9223372036854775807) (hr : Rows2 w a0 len0) :
    Calls Try.prog 5 #[.slice a0 len0 cap0] w fun e w' => e = .returned (.bool true) ∧ Below w.heap.size w w' := by
  by_cases hlo : 60 < len0
  · go_enter Try.func5, Try.ntmps5
    go_wp2_with (go_at_call 14; refine (awake3 _).mono ?_; rintro e w1 ⟨rfl, hb1⟩)
    go_ret
    exact ⟨rfl, hb1⟩
  obtain ⟨i0, hi, hz0, hz1, hz2⟩ := info_parts info5
  have HR := Lib.hid hr
  clear hr
  go_enter Try.func5, Try.ntmps5
  go_wp2_with (first
    | (go_at_call 14; refine (awake3 _).mono ?_; rintro e w1 ⟨rfl, hb1⟩)
    | (go_at_call 15; refine (sum_any none 0 0 [] 0 _ Rd.none_ (Nat.zero_le _)).mono ?_; rintro e w2 ⟨rfl, rfl⟩))
  go_loopw [3, 4, 5] (fun s v i wr => ∃ (k : Nat) (l : List B8), k ≤ len0 ∧ i = .int .i64 k ∧ s = .int .u32 (I32 (sum l)) ∧ wr.ownsRow w.heap.size 5 1 v l.length (l.map v8) ∧ l.length ≤ 200 * k ∧ Below w.heap.size w wr) (fun _ _ i _ => len0 - (intOf i).toNat)
  case atStart => exact ⟨0, [], by omega, rfl, rfl, World.ownsRow_nil _ _ _ _, by simp, hb1⟩
  case round =>
    obtain ⟨k, l, hk, rfl, rfl, hown, hll, hb⟩ := hrel
    by_cases hlt : k < len0
    · obtain ⟨ad, ai, li, ci, bs, rfl, hc, hlc2, hcm2, hbs⟩ := HR.out k hlt
      have hcell : wr.cell? (ad.add k) = some (.slice ai li ci) := (hb.cell (p := ad.add k) (cell_lt hc)).trans hc
      clear hc
      have hbs2 := hbs.below hb
      clear hbs
      have hbl := hbs2.len
      have HBL := Lib.hid hbl
      clear hbl
      by_cases h200 : 200 < li
      · go_wp2
        go_ret
        exact ⟨rfl, hb⟩
      · go_wp2_with (first
          | (go_at_call 16; refine (more_any (sum l) ai li ci bs _ _ hbs2 (by omega)).mono ?_; rintro e w3 ⟨rfl, rfl⟩)
          | (at_builtin
             refine wpList_append_any _ rfl (.tmp 30) (.tmp 34) 22 rfl w.heap.size 5 i0 (.int .u8 0) 1 1 Try.underlying22 hi hz0 hz1 hz2 rfl (by decide) _ l.length (l.map v8) rfl hown w.heap.size ai li ci (bs.map v8) rfl hbs2 (oneCell_v8 bs) (by unfold maxLen; omega) (by omega) hb.size ?_
             intro v2 w2 hown2 hg2 hat2
             have hb2 : Below w.heap.size w w2 := hb.grown hg2 hb.size (fun q hq => (hown.lt q hq).1)
             clear hat2 hg2))
        go_roundw
        case rel =>
          refine ⟨k + 1, l ++ bs, by omega, by go_num, ?_, ?_, ?_, hb2⟩
          · unfold sum; rw [more_append]
          · rw [List.map_append, List.length_append, HBL.out]; exact hown2
          · rw [List.length_append, HBL.out]; omega
        case measure => simp [intOf]; omega
    · obtain rfl : k = len0 := by omega
      obtain ⟨A, c, rfl⟩ := own_slice hown
      have hs := Rd.of_own hown
      go_wp2_with (go_at_call 15; refine (sum_any _ _ _ _ _ _ hs (by omega)).mono ?_; rintro e w2 ⟨rfl, rfl⟩)
      go_ret
      exact ⟨by simp, hb⟩

end Go.Proofs.Ytbnhohnlbbkmoaa

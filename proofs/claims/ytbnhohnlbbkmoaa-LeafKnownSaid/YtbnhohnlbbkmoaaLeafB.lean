/- Contracts of leaf.lay, leaf.sum, bytes.Equal, bytes.Clone and the references' le. -/
import Derived.Test.YtbnhohnlbbkmoaaLeafA
namespace Go.Proofs.Ytbnhohnlbbkmoaa
open Go.RowKit
set_option linter.unusedVariables false

theorem mb_val (m : B32) (j : Nat) : I8 (mb m j) = ((m.toNat / 2 ^ (8 * j) % 256 : Nat) : Int) := by
  unfold I8 mb
  rw [BitVec.toNat_setWidth, BitVec.toNat_ushiftRight, Nat.shiftRight_eq_div_pow]
theorem mb_0 (m : B32) : I32 m % 256 = I8 (mb m 0) := by rw [mb_val]; unfold I32; simp
theorem mb_1 (m : B32) : I32 m / 256 % 256 = I8 (mb m 1) := by rw [mb_val]; unfold I32; omega
theorem mb_2 (m : B32) : I32 m / 65536 % 256 = I8 (mb m 2) := by rw [mb_val]; unfold I32; omega
theorem mb_3 (m : B32) : I32 m / 16777216 % 256 = I8 (mb m 3) := by rw [mb_val]; unfold I32; omega
theorem mb_3b (m : B32) : I32 m / 16777216 = I8 (mb m 3) := by rw [← mb_3]; have := I32.bd m; omega

/-- The first k bytes of a word laid at a place. -/
def putK (L : List B8) (o : Nat) (x : B32) : Nat → List B8
  | 0 => L
  | k + 1 => (putK L o x k).set (o + k) (mb x k)
theorem putK_length (L : List B8) (o : Nat) (x : B32) (k : Nat) : (putK L o x k).length = L.length := by
  induction k with
  | zero => rfl
  | succ k ih => simp [putK, ih]

theorem putStored {L : List B8} {o N cap g j : Nat} {x : B32} {y : Int} {wr : World} {base : Nat}
    (hown : wr.ownsRow base 5 1 (.slice (some ⟨g, 0, none⟩) N cap) N ((putK L o x j).map v8)) (hy : y = I8 (mb x j)) :
    (wr.setCell ⟨g, o + j, none⟩ (.int .u8 y)).ownsRow base 5 1 (.slice (some ⟨g, 0, none⟩) N cap) N ((putK L o x (j + 1)).map v8) := by
  subst hy
  show World.ownsRow _ _ _ _ _ _ (((putK L o x j).set (o + j) (mb x j)).map v8)
  rw [List.map_set]
  exact (hown.stored (o + j) _).1

theorem putFacts {L : List B8} {o N cap g : Nat} {x : B32} {z : Int} {wr : World} {base : Nat} (ho : o + 4 ≤ N)
    (hown : wr.ownsRow base 5 1 (.slice (some ⟨g, 0, none⟩) N cap) N ((putK L o x z.toNat).map v8)) (hz : z.toNat < 4) :
    ∃ v, wr.cell? ⟨g, o + z.toNat, none⟩ = some v ∧ wr.frozen? ⟨g, o + z.toNat, none⟩ = false := by
  have hl : (putK L o x z.toNat).length = N := by have := hown.1; simpa using this
  have hc := hown.cellAt (o + z.toNat) (by omega)
  rw [List.getElem?_eq_getElem (by simp; omega)] at hc
  exact ⟨_, hc, hown.frozenAt _⟩

set_option maxHeartbeats 1000000 in
theorem lay_any (g o n c N cap base : Nat) (L : List B8) (x : B32) (w : World) (hown : w.ownsRow base 5 1 (.slice (some ⟨g, 0, none⟩) N cap) N (L.map v8)) (ho : o + 4 ≤ N) (hn : 4 ≤ n) (hN : n ≤ 1000000) :
    Calls Try.prog 29 #[.slice (some ⟨g, o, none⟩) n c, .int .u32 (I32 x)] w fun e w' => e = .returned (.tuple #[]) ∧ w'.ownsRow base 5 1 (.slice (some ⟨g, 0, none⟩) N cap) N ((putK L o x 4).map v8) ∧ w.grownBy w' (some g) := by
  have hg0 := World.grownBy.refl w (some g)
  go_enter Try.func29, Try.ntmps29
  go_wp2
  go_loopw [4, 5] (fun _ i wr => ∃ z : Int, 0 ≤ z ∧ z ≤ 4 ∧ i = .int .i64 z ∧ wr.ownsRow base 5 1 (.slice (some ⟨g, 0, none⟩) N cap) N ((putK L o x z.toNat).map v8) ∧ w.grownBy wr (some g)) (fun _ i _ => 4 - (intOf i).toNat)
  case atStart => exact ⟨0, by omega, by omega, rfl, hown, hg0⟩
  case round =>
    clear hown hg0
    obtain ⟨z, hz1, hz2, rfl, hown, hg⟩ := hrel
    have hbd := I32.bd x
    by_cases hlt : z < 4
    · have F := putFacts ho hown
      rcases (by omega : z = 0 ∨ z = 1 ∨ z = 2 ∨ z = 3) with rfl | rfl | rfl | rfl
      · obtain ⟨v, hc0, hf0⟩ := F (by decide)
        have hc : wr.cell? ⟨g, o, none⟩ = some v := hc0
        have hf : wr.frozen? ⟨g, o, none⟩ = false := hf0
        clear F hc0 hf0
        go_wp2
        go_roundw
        case rel => exact ⟨1, by omega, by omega, rfl, putStored (j := 0) hown (mb_0 x), only_setCell hg (.inl rfl) _⟩
        case measure => simp [intOf]
      · obtain ⟨v, hc0, hf0⟩ := F (by decide)
        have hc : wr.cell? ⟨g, o + 1, none⟩ = some v := hc0
        have hf : wr.frozen? ⟨g, o + 1, none⟩ = false := hf0
        clear F hc0 hf0
        go_wp2
        go_roundw
        case rel => exact ⟨2, by omega, by omega, rfl, putStored (j := 1) hown (mb_1 x), only_setCell hg (.inl rfl) _⟩
        case measure => simp [intOf]
      · obtain ⟨v, hc0, hf0⟩ := F (by decide)
        have hc : wr.cell? ⟨g, o + 2, none⟩ = some v := hc0
        have hf : wr.frozen? ⟨g, o + 2, none⟩ = false := hf0
        clear F hc0 hf0
        go_wp2
        go_roundw
        case rel => exact ⟨3, by omega, by omega, rfl, putStored (j := 2) hown (mb_2 x), only_setCell hg (.inl rfl) _⟩
        case measure => simp [intOf]
      · obtain ⟨v, hc0, hf0⟩ := F (by decide)
        have hc : wr.cell? ⟨g, o + 3, none⟩ = some v := hc0
        have hf : wr.frozen? ⟨g, o + 3, none⟩ = false := hf0
        clear F hc0 hf0
        go_wp2
        go_roundw
        case rel => exact ⟨4, by omega, by omega, rfl, putStored (j := 3) hown (by first | exact mb_3 x | exact mb_3b x), only_setCell hg (.inl rfl) _⟩
        case measure => simp [intOf]
    · obtain rfl : z = 4 := by omega
      go_wp2
      go_end0
      exact ⟨rfl, hown, hg⟩

theorem sumHead_any (A : Option Addr) (n c : Nat) (hs : List B8) (A2 : Option Addr) (n2 c2 : Nat) (ds : List B8) (B B2 : Nat) (w : World) (hr : Rd w B A n hs) (hr2 : Rd w B2 A2 n2 ds) (hn : 12 ≤ n) (hc : n ≤ c) (hn2 : n2 ≤ 1000000) :
    Calls Try.prog 30 #[.slice A n c, .slice A2 n2 c2] w fun e w' => e = .returned (.int .u32 (I32 (more (sum (hs.take 12)) ds))) ∧ w = w' := by
  have h12 := hr.take (k := 12) hn
  have hcc : 12 ≤ c := by omega
  go_enter Try.func30, Try.ntmps30
  go_wp2_with (first
    | (go_at_call 15; refine (sum_any _ _ _ _ _ _ h12 (by decide)).mono ?_; rintro e w' ⟨rfl, rfl⟩)
    | (go_at_call 16; refine (more_any _ _ _ _ _ _ _ hr2 hn2).mono ?_; rintro e w' ⟨rfl, rfl⟩))
  go_ret
  exact ⟨rfl, rfl⟩

end Go.Proofs.Ytbnhohnlbbkmoaa

/- LeafTells: the cases joined. -/
import Derived.Test.YtbnhohnlbbkmoaaWLTells
namespace Go.Proofs.Ytbnhohnlbbkmoaa
open Go.RowKit
set_option linter.unusedVariables false

theorem walkLTells (kind : B8) (a0 : Option Addr) (len0 cap0 : Nat) (q : Int) (m : B32) (w : World) (bs : List B8) (hr : Rd w w.heap.size a0 len0 bs) (hq : 0 ≤ q ∧ q ≤ 4294967295) :
    Calls Try.prog 8 #[.int .u8 (I8 kind), .slice a0 len0 cap0, .agg #[.int .u32 q, .int .u32 (I32 m)]] w fun e w' => e = .returned (.bool true) ∧ Below w.heap.size w w' := by
  by_cases hd : 4096 < len0 ∨ I32 m = 0
  · exact walkLTells0 kind a0 len0 cap0 q (I32 m) w hd
  have hlen : ¬ 4096 < len0 := fun h => hd (.inl h)
  have hm0 : I32 m ≠ 0 := fun h => hd (.inr h)
  have hm : m ≠ 0#32 := fun h => hm0 (by rw [h]; rfl)
  have hl := hr.len
  obtain ⟨N, hN⟩ : ∃ N, N = 64 * blocksN len0 := ⟨_, rfl⟩
  have hN64 : 64 ≤ N ∧ N ≤ 4160 := by rw [hN]; unfold blocksN; omega
  obtain ⟨p0, hp0⟩ : ∃ p0 : Nat, q % ((N : Int) - 3) = (p0 : Int) := Int.eq_ofNat_of_zero_le (Int.emod_nonneg _ (by omega))
  have hpN : p0 + 4 ≤ N := by have := Int.emod_lt_of_pos q (show (0 : Int) < (N : Int) - 3 by omega); omega
  have hFl : (frame kind 5#32 bs).length = N := by rw [frame_length, hl, ← hN]
  have MK : ∀ w1, Below w.heap.size w w1 → Hid (Calls Try.prog 21 #[.int .u8 (I8 kind), .int .i64 5, .slice a0 len0 cap0] w1 fun e w' =>
      e = .returned (.tuple #[.slice (some ⟨w1.heap.size, 0, none⟩) N N, .int .i64 0]) ∧ w'.heap[w1.heap.size]? = some (.cells ((frame kind 5#32 bs).map v8).toArray 5 (0, 0)) ∧ Below w1.heap.size w1 w') := by
    intro w1 hb
    rw [hN]
    exact make_frame5 kind 5#32 5 a0 len0 cap0 bs w w1 hr hb (by omega) (by decide) (by decide)
  have HT : ∀ k, k + 4 ≤ N → (k ≤ 4 ∨ k = 12 ∨ 16 ≤ k) → openE (mixN (frame kind 5#32 bs) k m 4) kind ≠ 0 :=
    fun k hk hc => frame_tells kind 5#32 bs k m (by omega) (by decide) hm (by rw [hl, ← hN]; exact hk) hc
  have hb := (beq_no hm0).1
  rcases (by omega : p0 ≤ 4 ∨ (4 < p0 ∧ p0 < 12) ∨ p0 = 12 ∨ (12 < p0 ∧ p0 < 16) ∨ 16 ≤ p0) with h | h | h | h | h
  · exact walkLTellsC1 kind a0 len0 cap0 N q p0 m w bs _ hlen hb hq hN64 hp0 hpN p0 rfl h hFl MK (HT p0 hpN (by omega))
  · exact walkLTellsA kind a0 len0 cap0 N q p0 m w bs _ hlen hb hq hN64 hp0 hpN h.1 h.2 hFl MK (HT 4 (by omega) (by omega))
  · subst h
    exact walkLTellsD kind a0 len0 cap0 N q 12 m w bs _ hlen hb hq hN64 hp0 hpN hFl MK (HT 12 (by omega) (by omega))
  · exact walkLTellsB kind a0 len0 cap0 N q p0 m w bs _ hlen hb hq hN64 hp0 hpN h.1 h.2 hFl MK (HT 12 (by omega) (by omega))
  · exact walkLTellsC3 kind a0 len0 cap0 N q p0 m w bs _ hlen hb hq hN64 hp0 hpN p0 rfl h hFl MK (HT p0 hpN (by omega))
end Go.Proofs.Ytbnhohnlbbkmoaa

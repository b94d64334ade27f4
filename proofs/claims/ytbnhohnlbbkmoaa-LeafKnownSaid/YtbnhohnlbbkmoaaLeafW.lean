/- Contracts of the frame laws: Make then Open. -/
import Derived.Test.YtbnhohnlbbkmoaaLeafP
namespace Go.Proofs.Ytbnhohnlbbkmoaa
open Go.RowKit
set_option linter.unusedVariables false

theorem block_rd {w : World} {g N : Nat} {L : List B8} (h : w.heap[g]? = some (.cells (L.map v8).toArray 5 (0, 0))) (hl : L.length = N) (hN : N ≤ 1000000) : Rd w w.heap.size (some ⟨g, 0, none⟩) N L :=
  Rd.of_own (base := 0) (e := 5) (c := N) (block_own h (Nat.zero_le _) (by rw [List.length_map]; exact hl) hN)

theorem open_good (A : Option Addr) (n c : Nat) (bs : List B8) (kind : B8) (w : World) (hr : Rd w w.heap.size A n bs) (hc : n ≤ c) (hn : n ≤ 1000000) (g : Int) (ds : List B8) (k : Nat) (hE : openE bs kind = 0) (hG : openG bs kind = g) (hD : openD bs kind = ds) (hk : ds.length = k) :
    Calls Try.prog 22 #[.slice A n c, .int .u8 (I8 kind)] w fun e w' => ∃ A' c', e = .returned (.tuple #[.int .i64 g, .slice A' k c', .int .i64 0]) ∧ Rd w' w'.heap.size A' k ds ∧ Below w.heap.size w w' := by
  refine (open_any A n c bs kind w hr hc hn).mono ?_
  rintro e w' ⟨A', n', c', rfl, hrd, hb⟩
  rw [hE, hG]
  rw [hD] at hrd
  have := hrd.len
  have e : n' = k := by omega
  subst e
  exact ⟨A', c', rfl, hrd, hb⟩

theorem open_bad (A : Option Addr) (n c : Nat) (bs : List B8) (kind : B8) (w : World) (hr : Rd w w.heap.size A n bs) (hc : n ≤ c) (hn : n ≤ 1000000) (E : Int) (hE : openE bs kind = E) (h0 : E ≠ 0) :
    Calls Try.prog 22 #[.slice A n c, .int .u8 (I8 kind)] w fun e w' => ∃ A' c', e = .returned (.tuple #[.int .i64 0, .slice A' 0 c', .int .i64 E]) ∧ Below w.heap.size w w' := by
  refine (open_any A n c bs kind w hr hc hn).mono ?_
  rintro e w' ⟨A', n', c', rfl, hrd, hb⟩
  subst hE
  unfold openD at hrd
  rw [if_neg h0] at hrd
  have := hrd.len
  have e : n' = 0 := by simpa using this.symm
  subst e
  unfold openG
  rw [if_neg h0]
  exact ⟨A', c', rfl, hb⟩
end Go.Proofs.Ytbnhohnlbbkmoaa

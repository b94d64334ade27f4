/- Contracts of lz.must and of the reader's take. -/
import Derived.Test.YtkmcddfeadbahaaProg
import Derived.Test.YtkmcddfeadbahaaWords
import Derived.Test.YtkmcddfeadbahaaLzP
import Derived.WalkKit
import Derived.Lib.Hide
import Derived.Outline
import Derived.KernelRfl
import Derived.WalkLawsBesides
import Derived.WalkSpells
namespace Go.Proofs.Ytkmcddfeadbahaa
open Go.RowKit
set_option linter.unusedVariables false

/-- What a reader panics with. -/
def faultV (e : Int) : List PanicEntry := [{ v := .iface 39 (.agg #[.int .i64 e]), recovered := false }]

theorem must_ok (e : Int) (w : World) : Calls Try.prog 25 #[.bool true, .int .i64 e] w fun x w' => x = .returned (.tuple #[]) ∧ w = w' := by
  go_enter Try.func25, Try.ntmps25
  go_wp2
  go_end0
  exact ⟨rfl, rfl⟩
theorem must_bad (e : Int) (w : World) : Calls Try.prog 25 #[.bool false, .int .i64 e] w fun x w' => x = .panicked (faultV e) ∧ w = w' := by
  go_enter Try.func25, Try.ntmps25
  go_wp2
  exact ⟨rfl, rfl, rfl⟩

theorem take_bad (p : Nat) (A : Option Addr) (n c : Nat) (vo : Value) (k : Nat) (w : World) (hb : Blk w p 43 #[.slice A n c, vo]) (hk : n < k) :
    Calls Try.prog 23 #[.pointer (some ⟨p, 0, none⟩), .int .i64 (k : Int)] w fun e w' => e = .panicked (faultV 2) ∧ w = w' := by
  have c0 : w.cell? ⟨p, 0, none⟩ = some (.slice A n c) := by rw [hb.cell]; rfl
  go_enter Try.func23, Try.ntmps23
  have hk' : ¬ k ≤ n := by omega
  go_wp2_with (go_at_call 25; with_reducible refine (must_bad _ _).mono ?_; rintro e w' ⟨rfl, rfl⟩)
  exact ⟨rfl, rfl, rfl⟩
theorem take_ok (p : Nat) (A : Option Addr) (n c : Nat) (vo : Value) (k : Nat) (bs : List B8) (w : World) (hb : Blk w p 43 #[.slice A n c, vo]) (hr : Rd w p A n bs) (hc : n ≤ c) (hk : k ≤ n) :
    Calls Try.prog 23 #[.pointer (some ⟨p, 0, none⟩), .int .i64 (k : Int)] w fun e w' => e = .returned (.slice A k c) ∧
      ∃ A2, w' = w.setCell ⟨p, 0, none⟩ (.slice A2 (n - k) (c - k)) ∧ Rd w p A2 (n - k) (bs.drop k) := by
  have c0 : w.cell? ⟨p, 0, none⟩ = some (.slice A n c) := by rw [hb.cell]; rfl
  have f0 := hb.frozen 0
  go_enter Try.func23, Try.ntmps23
  have hd := Lib.hid (hr.drop hk hc)
  go_wp2_with (go_at_call 25; with_reducible refine (must_ok _ _).mono ?_; rintro e w' ⟨rfl, rfl⟩)
  all_goals
    go_ret
    refine ⟨rfl, _, rfl, ?_⟩
    have := hd.out
    first | rwa [if_pos (by assumption)] at this | rwa [if_neg (by assumption)] at this
end Go.Proofs.Ytkmcddfeadbahaa

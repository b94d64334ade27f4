/- Contracts of Unpack's deferred closure. -/
import Derived.Test.YtkmcddfeadbahaaRdB
import Derived.Defers
import Derived.Recover
import Derived.Laws.Pointers
import Derived.RegionTactic
import Derived.BigRegion
namespace Go.Proofs.Ytkmcddfeadbahaa
open Go.RowKit
set_option linter.unusedVariables false

theorem tmps16 (x y v : Value) : (#[x, y] ++ ((Array.replicate 16 undef).setIfInBounds 3 v).setIfInBounds 0 v) =
    #[x, y, v, undef, undef, v, undef, undef, undef, undef, undef, undef, undef, undef, undef, undef, undef, undef] := by kernel_rfl

theorem catch_idle (p q : Addr) (w : World) :
    CallsD Try.prog 16 #[.pointer (some p), .pointer (some q)] .returning w fun e u' w' => e = .returned (.tuple #[]) ∧ u' = .returning ∧ w' = w := by
  refine callsD_of_wpS Try.func16 rfl fun c₀ cs hu => ?_
  apply wpS_seq
  apply wpS_region
  simp [wpOpsS, go_sem, recoverD, hu, Try.ntmps16, Exit.thenS]
  rw [tmps16]
  refine wpS_of_wp ?_
  go_wp2
  cases c₀
  simp_all [bodyPostS, results, Try.results16]

theorem assert_fault (v : Value) (w : World) : (Instr.typeAssert (.iface 39 v) 20 39 true).run Try.prog w = .ok (.tuple #[v, .bool true]) w := by
  simp [Instr.typeAssert, run_underlying Try.underlying39, go_sem, Result.andThen]
theorem neq_nil (v : Value) (w : World) : (binOp .neq 20 (.iface 39 v) .nilIface).run Try.prog w = .ok (.bool true) w := by
  have h : ∀ d : Nat, (Op.equalIn (d + 1) 20 (.iface 39 v) .nilIface).run Try.prog w = .ok false w := fun d => by
    simp [Op.equalIn, run_underlying Try.underlying20]
  simp only [binOp]
  simp [Op.equal, Op.maxDepth, h 9999]

theorem catch_panicking (g h : Nat) (a b : Value) (E : Int) (w : World) (Hg : Blk w g 22 #[a]) (Hh : Blk w h 24 #[b]) (hne : g < h) :
    CallsD Try.prog 16 #[.pointer (some ⟨g, 0, none⟩), .pointer (some ⟨h, 0, none⟩)] (.panicking ({ v := .iface 39 (.agg #[.int .i64 E]), recovered := false } :: [])) w fun e u' w' =>
      e = .returned (.tuple #[]) ∧ u' = .panicking ({ v := .iface 39 (.agg #[.int .i64 E]), recovered := true } :: []) ∧ Below g w w' ∧ Blk w' g 22 #[.slice none 0 0] ∧ Blk w' h 24 #[.int .i64 E] := by
  have hg : w.cell? ⟨g, 0, none⟩ = some a := by rw [Hg.cell]; rfl
  have fg := Hg.frozen 0
  have hh : w.cell? ⟨h, 0, none⟩ = some b := by rw [Hh.cell]; rfl
  have fh := Hh.frozen 0
  have HG := Lib.hid Hg
  have HH := Lib.hid Hh
  clear Hg Hh
  refine callsD_of_wpS Try.func16 rfl fun c₀ cs hu => ?_
  apply wpS_seq
  apply wpS_region
  simp [wpOpsS, go_sem, recoverD, hu, Try.ntmps16, Exit.thenS]
  rw [tmps16]
  refine wpS_of_wp ?_
  have hta := assert_fault
  have hnn := neq_nil
  go_wp2_with fail
  have hB : Below w.heap.size w (w.alloc (.cells #[.int .i64 E] 39)) := (Below.refl _ _).alloc (Nat.le_refl _) _
  have lg : g < w.heap.size := cell_lt hg
  have lh : h < w.heap.size := cell_lt hh
  have X1 : (w.alloc (.cells #[.int .i64 E] 39)).cell? ⟨g, 0, none⟩ = some a := (hB.cell (p := ⟨g, 0, none⟩) lg).trans hg
  have X2 : (w.alloc (.cells #[.int .i64 E] 39)).frozen? ⟨g, 0, none⟩ = false := (hB.frozen (p := ⟨g, 0, none⟩) lg).trans fg
  have X3 : (w.alloc (.cells #[.int .i64 E] 39)).cell? ⟨h, 0, none⟩ = some b := (hB.cell (p := ⟨h, 0, none⟩) lh).trans hh
  have X4 : (w.alloc (.cells #[.int .i64 E] 39)).frozen? ⟨h, 0, none⟩ = false := (hB.frozen (p := ⟨h, 0, none⟩) lh).trans fh
  have ng : ¬ g = w.heap.size := by omega
  have nh : ¬ h = w.heap.size := by omega
  go_region
  have s1 : Below g w (w.setCell ⟨g, 0, none⟩ (.slice none 0 0)) := (Below.refl g w).setCell (Nat.le_refl g) _
  have s2 : Below g w ((w.setCell ⟨g, 0, none⟩ (.slice none 0 0)).setCell ⟨h, 0, none⟩ (.int .i64 E)) := s1.setCell (Nat.le_of_lt hne) _
  have s3 := (s2.alloc (by simp; omega) (.cells #[.int .i64 E] 39)).drew
  have b1 := ((HG.out.set_ 0 (.slice none 0 0)).far (p := ⟨h, 0, none⟩) (Nat.ne_of_lt hne) (.int .i64 E)).alloc (.cells #[.int .i64 E] 39)
  have b2 := ((HH.out.far (p := ⟨g, 0, none⟩) (Nat.ne_of_gt hne) (.slice none 0 0)).set_ 0 (.int .i64 E)).alloc (.cells #[.int .i64 E] 39)
  refine ⟨rfl, .panicking [{ v := .iface 39 (.agg #[.int .i64 E]), recovered := true }], rfl, .tuple #[], ?_, rfl, rfl, s3, b1, b2⟩
  simp [results, Try.results16]
end Go.Proofs.Ytkmcddfeadbahaa

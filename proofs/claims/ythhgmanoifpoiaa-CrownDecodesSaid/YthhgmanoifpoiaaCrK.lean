/- What lies where between the calls of a crown's laws. -/
import Derived.Test.YthhgmanoifpoiaaCrF
import Derived.Test.YthhgmanoifpoiaaCrG
namespace Go.Proofs.Ythhgmanoifpoiaa
open Go.RowKit
set_option linter.unusedVariables false

/-- A crown in its block, two rows of the same bytes, all else as it was. -/
def Ek (w0 : World) (p : Nat) (g b s : Int) (f : Nat) (a n k h : Int) (A1 A2 : Option Addr) (m : Nat) (L : List B8) (w : World) : Prop :=
  Blk w p 42 #[.int .i64 g, .int .i64 b, .int .i64 s, .float .f64 f, .int .i64 a, .int .i64 n, .int .i64 k, .int .i64 h] ∧ Rd w w.heap.size A1 m L ∧ Rd w w.heap.size A2 m L ∧ Below p w0 w ∧ p < w.heap.size
section
variable {w0 w w' : World} {p m : Nat} {g b s a n k h : Int} {f : Nat} {A1 A2 : Option Addr} {L : List B8}
theorem Ek.drew (H : Ek w0 p g b s f a n k h A1 A2 m L w) : Ek w0 p g b s f a n k h A1 A2 m L w.drew :=
  ⟨H.1.drew, H.2.1.drew, H.2.2.1.drew, below_drewN H.2.2.2.1 1, H.2.2.2.2⟩
theorem Ek.step (H : Ek w0 p g b s f a n k h A1 A2 m L w) (hb : Below w.heap.size w w') : Ek w0 p g b s f a n k h A1 A2 m L w' :=
  ⟨H.1.below hb H.2.2.2.2, (H.2.1.below hb).more hb.size, (H.2.2.1.below hb).more hb.size, H.2.2.2.1.trans (hb.mono (Nat.le_of_lt H.2.2.2.2)), Nat.lt_of_lt_of_le H.2.2.2.2 hb.size⟩
theorem Ek.cells (H : Ek w0 p g b s f a n k h A1 A2 m L w) : w.cell? ⟨p, 0, none⟩ = some (.int .i64 g) ∧ w.cell? ⟨p, 1, none⟩ = some (.int .i64 b) ∧ w.cell? ⟨p, 2, none⟩ = some (.int .i64 s) ∧ w.cell? ⟨p, 3, none⟩ = some (.float .f64 f) ∧
    w.cell? ⟨p, 4, none⟩ = some (.int .i64 a) ∧ w.cell? ⟨p, 5, none⟩ = some (.int .i64 n) ∧ w.cell? ⟨p, 6, none⟩ = some (.int .i64 k) ∧ w.cell? ⟨p, 7, none⟩ = some (.int .i64 h) :=
  ⟨H.1.cell 0, H.1.cell 1, H.1.cell 2, H.1.cell 3, H.1.cell 4, H.1.cell 5, H.1.cell 6, H.1.cell 7⟩
theorem Ek.strs (H : Ek w0 p g b s f a n k h A1 A2 m L w) {D : ByteArray} (hD : Hid (strOf L = D)) (c1 c2 : Nat) :
    (convert 43 9 (Value.slice A1 m c1)).run Try.prog w = .ok (.string D) w ∧ (convert 43 9 (Value.slice A2 m c2)).run Try.prog w = .ok (.string D) w := by
  rw [← hD.out]
  exact ⟨conv_str (P := Try.prog) 43 9 5 Try.underlying43 Try.underlying5 Try.underlying9 H.2.1, conv_str (P := Try.prog) 43 9 5 Try.underlying43 Try.underlying5 Try.underlying9 H.2.2.1⟩
end
end Go.Proofs.Ythhgmanoifpoiaa

/- An argument that is a crown, opened. -/
import Derived.Test.YthhgmanoifpoiaaOpen
import Derived.Test.YthhgmanoifpoiaaProg
import Derived.ChangeSame
import Derived.Deep.Strs
namespace Go.Proofs.Ythhgmanoifpoiaa
open Go.ChangeShapes Go.WideShapes Go.RowKit

section
variable {H : Type} {enc : TypeId × Value → H} {w : World} {b0 : Nat} {spare : Nat → Bool} {held : Bool}
theorem trod_flt {P : Program} {t : TypeId} {k : FloatKind} {fuel : Nat} {cs : List Value} {x : DataW H × List MemPlace} (ht : P.underlying t = some (.float k)) (h : DataW.trod enc P w b0 spare held fuel t cs = some x) : ∃ n, cs = [.float k n] ∧ (Lit.float k n).wf = true := by
  cases fuel with
  | zero => simp [DataW.trod] at h
  | succ n =>
    unfold DataW.trod at h
    rw [ht] at h
    split at h <;> simp_all

theorem open_crown {r : Reach} {base : Nat} {v : Value} {d : DataW H} {p : List MemPlace}
    (hv : Value.okWide Try.prog w r base 42 v) (h : DataW.Trod enc Try.prog w b0 spare held 42 v d p) :
    ∃ (g b s : Int) (f : Nat) (a n k ht : Int), v = .agg #[.int .i64 g, .int .i64 b, .int .i64 s, .float .f64 f, .int .i64 a, .int .i64 n, .int .i64 k, .int .i64 ht] ∧ f < 18446744073709551616 := by
  have hv' : ∃ cs, v = .agg cs ∧ cs.size = Try.prog.cellsOf 42 := by
    simp only [Value.okWide, Try.underlying42] at hv
    obtain ⟨cs, h1, h2, _⟩ := hv
    exact ⟨cs, h1, h2⟩
  obtain ⟨⟨l⟩, rfl, hsz⟩ := hv'
  rw [show Try.prog.cellsOf 42 = 8 by kernel_rfl] at hsz
  obtain ⟨fuel, hf⟩ := h
  obtain ⟨xs, m, _, _, hl, hxl, hg⟩ := DataW.trod_struct Try.underlying42 hf
  match l, hsz with
  | [c0, c1, c2, c3v, c4, c5, c6, c7], _ =>
    match xs, hxl with
    | [y0, y1, y2, y3, y4, y5], _ =>
      have c3 : Try.prog.cellsOf 3 = 1 := by kernel_rfl
      have c22 : Try.prog.cellsOf 22 = 1 := by kernel_rfl
      have c40 : Try.prog.cellsOf 40 = 3 := by kernel_rfl
      have g0 : DataW.trod enc Try.prog w b0 spare held m 3 ((([c0, c1, c2, c3v, c4, c5, c6, c7] : List Value).drop 0).take (Try.prog.cellsOf 3)) = some y0 := hg 0 _ rfl
      rw [c3] at g0
      have g1 : DataW.trod enc Try.prog w b0 spare held m 3 ((([c0, c1, c2, c3v, c4, c5, c6, c7] : List Value).drop 1).take (Try.prog.cellsOf 3)) = some y1 := hg 1 _ rfl
      rw [c3] at g1
      have g2 : DataW.trod enc Try.prog w b0 spare held m 3 ((([c0, c1, c2, c3v, c4, c5, c6, c7] : List Value).drop 2).take (Try.prog.cellsOf 3)) = some y2 := hg 2 _ rfl
      rw [c3] at g2
      have g3 : DataW.trod enc Try.prog w b0 spare held m 22 ((([c0, c1, c2, c3v, c4, c5, c6, c7] : List Value).drop 3).take (Try.prog.cellsOf 22)) = some y3 := hg 3 _ rfl
      rw [c22] at g3
      have g4 : DataW.trod enc Try.prog w b0 spare held m 40 ((([c0, c1, c2, c3v, c4, c5, c6, c7] : List Value).drop 4).take (Try.prog.cellsOf 40)) = some y4 := hg 4 _ rfl
      rw [c40] at g4
      have g5 : DataW.trod enc Try.prog w b0 spare held m 3 ((([c0, c1, c2, c3v, c4, c5, c6, c7] : List Value).drop 7).take (Try.prog.cellsOf 3)) = some y5 := hg 5 _ rfl
      rw [c3] at g5
      clear hg hf hl
      simp at g0 g1 g2 g3 g4 g5
      obtain ⟨x0, e0, _⟩ := DataW.trod_int Try.underlying3 g0
      obtain ⟨x1, e1, _⟩ := DataW.trod_int Try.underlying3 g1
      obtain ⟨x2, e2, _⟩ := DataW.trod_int Try.underlying3 g2
      obtain ⟨x3, e3, w3⟩ := trod_flt Try.underlying22 g3
      obtain ⟨x5, e5, _⟩ := DataW.trod_int Try.underlying3 g5
      obtain ⟨zs, m2, _, _, _, hzl, hh⟩ := DataW.trod_struct Try.underlying40 g4
      match zs, hzl with
      | [z0, z1, z2], _ =>
      have k0 : DataW.trod enc Try.prog w b0 spare held m2 3 ((([c4, c5, c6] : List Value).drop 0).take (Try.prog.cellsOf 3)) = some z0 := hh 0 _ rfl
      rw [c3] at k0
      have k1 : DataW.trod enc Try.prog w b0 spare held m2 3 ((([c4, c5, c6] : List Value).drop 1).take (Try.prog.cellsOf 3)) = some z1 := hh 1 _ rfl
      rw [c3] at k1
      have k2 : DataW.trod enc Try.prog w b0 spare held m2 3 ((([c4, c5, c6] : List Value).drop 2).take (Try.prog.cellsOf 3)) = some z2 := hh 2 _ rfl
      rw [c3] at k2
      clear hh
      simp at k0 k1 k2
      obtain ⟨u0, f0, _⟩ := DataW.trod_int Try.underlying3 k0
      obtain ⟨u1, f1, _⟩ := DataW.trod_int Try.underlying3 k1
      obtain ⟨u2, f2, _⟩ := DataW.trod_int Try.underlying3 k2
      simp at e0 e1 e2 e3 e5 f0 f1 f2
      subst e0 e1 e2 e3 e5 f0 f1 f2
      exact ⟨x0, x1, x2, x3, u0, u1, u2, x5, rfl, by simpa [Lit.wf] using w3⟩
end
end Go.Proofs.Ythhgmanoifpoiaa

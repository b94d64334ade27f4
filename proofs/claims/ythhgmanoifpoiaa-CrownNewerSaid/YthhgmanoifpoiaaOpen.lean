/- An argument that is an array of two numbers, opened. -/
import Derived.WalkKit
import Derived.ProofKit
import Derived.OpenShut
import Derived.WalkLawsBesides
namespace Go.Proofs.Ythhgmanoifpoiaa
open Go.ChangeShapes Go.WideShapes Go.RowKit

theorem open_arr2 {H : Type} {enc : TypeId × Value → H} {P : Program} {w : World} {b0 : Nat} {spare : Nat → Bool} {held : Bool} {r : Reach} {base : Nat} {t e : TypeId} {k : IntKind} {v : Value} {d : DataW H} {p : List MemPlace}
    (ht : P.underlying t = some (.array 2 e)) (he : P.underlying e = some (.int k)) (hC : P.cellsOf t = 2) (hE : P.cellsOf e = 1)
    (hv : Value.okWide P w r base t v) (h : DataW.Trod enc P w b0 spare held t v d p) :
    ∃ a b, v = .agg #[.int k a, .int k b] ∧ (Lit.int k a).wf = true ∧ (Lit.int k b).wf = true := by
  have hv' : ∃ cs, v = .agg cs ∧ cs.size = P.cellsOf t := by
    simp only [Value.okWide, ht] at hv
    obtain ⟨cs, h1, h2, _⟩ := hv
    exact ⟨cs, h1, h2⟩
  obtain ⟨⟨l⟩, rfl, hsz⟩ := hv'
  rw [hC] at hsz
  obtain ⟨fuel, hf⟩ := h
  obtain ⟨xs, m, _, _, hlen, hxl, hg⟩ := DataW.trod_array ht hf
  rw [hE] at hg
  match l, hsz with
  | [c0, c1], _ =>
    match xs, hxl with
    | [y0, y1], _ =>
      have g0 := hg 0 (by decide)
      have g1 := hg 1 (by decide)
      simp [Value.cells] at g0 g1
      obtain ⟨a, e0, _, wa⟩ := DataW.trod_int he g0
      obtain ⟨b, e1, _, wb⟩ := DataW.trod_int he g1
      simp at e0 e1
      subst e0 e1
      exact ⟨a, b, rfl, wa, wb⟩

end Go.Proofs.Ythhgmanoifpoiaa

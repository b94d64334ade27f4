/- A map from four bytes to places, in memory. -/
import Derived.Test.YtkmcddfeadbahaaRfB
import Derived.Maps.OwnOps
import Derived.Maps.Views
import Derived.Maps.OwnSet
import Derived.WideKeyPair
import Derived.DeepKeys4
namespace Go.Proofs.Ytkmcddfeadbahaa
open Go.RowKit
open Go.Maps (Keyed)
open Go.WideMaps (ArrKey)
set_option linter.unusedVariables false

theorem arr49 : ArrKey Try.prog 49 5 4 := ⟨Try.underlying49, by kernel_rfl, by kernel_rfl, by kernel_rfl⟩
theorem law49 : Keyed Try.prog 49 := Keyed.of_law arr49.law
theorem size_types : ∃ m, Try.prog.types.size = m + 1 := ⟨72, by kernel_rfl⟩
theorem zero3 (w : World) : (zeroValue 3).run Try.prog w = .ok (.int .i64 0) w := by kernel_rfl

def keyV (a b c d : B8) : Value := .agg #[.int .u8 (I8 a), .int .u8 (I8 b), .int .u8 (I8 c), .int .u8 (I8 d)]
def keyL (a b c d : B8) : Lit := .string (keyBytes [.int .u8 (I8 a), .int .u8 (I8 b), .int .u8 (I8 c), .int .u8 (I8 d)])
theorem wf8 (a : B8) : (Lit.int .u8 (I8 a)).wf = true := by
  have := I8.bd a
  simp [Lit.wf, IntKind.min, IntKind.max, IntKind.signed, IntKind.bits]
  omega
theorem keyOf_four (a b c d : B8) : keyOf Try.prog 49 (keyV a b c d) = some (keyL a b c d) := by
  have hkt := arr49.keyType size_types
  obtain ⟨m, hm⟩ := size_types
  unfold keyV keyL keyOf
  simp only [arr49.hu]
  rw [if_pos (by simp [hkt, Value.formed, arr49.hu, arr49.size]), hm]
  unfold Program.keyLits
  simp only [arr49.hu, Value.cells]
  rw [if_pos (by rw [arr49.size]; rfl), show List.range 4 = [0, 1, 2, 3] from rfl, List.mapM_cons, List.mapM_cons, List.mapM_cons, List.mapM_cons, List.mapM_nil]
  simp [arr49.one, Program.keyLits, Try.underlying5, wf8]
theorem keyL_inj {a b c d a' b' c' d' : B8} (h : keyL a b c d = keyL a' b' c' d') : [a, b, c, d] = [a', b', c', d'] := by
  have h1 := keyOf_four a b c d
  have h2 := keyOf_four a' b' c' d'
  rw [h] at h1
  have := law49.inj h1 h2
  unfold keyV at this
  simp at this
  obtain ⟨e1, e2, e3, e4⟩ := this
  rw [I8.inj e1, I8.inj e2, I8.inj e3, I8.inj e4]

/-- Block M is a map that holds the places of 'ah'. -/
def Tie (w : World) (M cnt : Nat) (ah : List B8 → Nat) : Prop :=
  ∃ D : DataW Unit, w.ownsMap Try.prog 49 (plainElem Try.prog 3) M cnt D ∧ ∀ a b c d, D.atKey (keyL a b c d) (.lit (.int .i64 0)) = .lit (.int .i64 ((ah [a, b, c, d] : Nat) : Int))

theorem Tie.made (w : World) : Tie (w.alloc (.map #[] 0)) w.heap.size 0 (fun _ => 0) := ⟨.map [], World.ownsMap_made w _ _ _, fun _ _ _ _ => rfl⟩
theorem Tie.kept {w w' : World} {M cnt : Nat} {ah : List B8 → Nat} (h : Tie w M cnt ah) (hb : w'.heap[M]? = w.heap[M]?) : Tie w' M cnt ah := by
  obtain ⟨D, ⟨es, clock, h1, h2⟩, h3⟩ := h
  exact ⟨D, ⟨es, clock, hb.trans h1, h2⟩, h3⟩
theorem Tie.lt {w : World} {M cnt : Nat} {ah : List B8 → Nat} (h : Tie w M cnt ah) : M < w.heap.size := by
  obtain ⟨D, h1, _⟩ := h
  exact h1.lt
theorem Tie.look {w : World} {M cnt : Nat} {ah : List B8 → Nat} (h : Tie w M cnt ah) (a b c d : B8) :
    (Instr.lookup 47 (.map (some M)) (keyV a b c d) false).run Try.prog w = .ok (.int .i64 ((ah [a, b, c, d] : Nat) : Int)) w := by
  obtain ⟨D, h1, h2⟩ := h
  obtain ⟨z, hrun, hat, _⟩ := h1.lookup_int law49 Try.underlying47 Try.underlying3 (zero3 w) (keyOf_four a b c d)
  rw [h2 a b c d] at hat
  injection hat with hat
  injection hat with _ hat
  rw [hat]
  exact hrun
theorem Tie.put {w w' : World} {M cnt z : Nat} {ah : List B8 → Nat} {D : DataW Unit} (a b c d : B8) (h1 : w.ownsMap Try.prog 49 (plainElem Try.prog 3) M cnt D) (h2 : ∀ a b c d, D.atKey (keyL a b c d) (.lit (.int .i64 0)) = .lit (.int .i64 ((ah [a, b, c, d] : Nat) : Int)))
    (h' : w'.ownsMap Try.prog 49 (plainElem Try.prog 3) M (cnt + 1) (D.put (keyL a b c d) (.lit (.int .i64 (z : Int))))) : Tie w' M (cnt + 1) (fun x => if x = [a, b, c, d] then z else ah x) := by
  refine ⟨_, h', fun a' b' c' d' => ?_⟩
  show _ = DataW.lit (.int .i64 (((if [a', b', c', d'] = [a, b, c, d] then z else ah [a', b', c', d']) : Nat) : Int))
  by_cases e : keyL a' b' c' d' = keyL a b c d
  · rw [if_pos (keyL_inj e), e, Maps.atKey_put_same h1.isMap (law49.key (keyOf_four a b c d))]
  · rw [Maps.atKey_put_other e, if_neg (fun h => e (by simp only [List.cons.injEq, and_true] at h; obtain ⟨rfl, rfl, rfl, rfl⟩ := h; rfl))]
    exact h2 a' b' c' d'
end Go.Proofs.Ytkmcddfeadbahaa

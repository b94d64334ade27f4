/- concertinalaw1.awake returns true. -/
import Derived.Test.YthhgmanoifpoiaaMean
namespace Go.Proofs.Ythhgmanoifpoiaa
open Go.RowKit

theorem reads_new (w : World) (g : Nat) (xs : List Value) (cs : Array Value) (t : TypeId) (m : Nat × Nat) (hg : w.heap.size = g) (h : cs = xs.toArray) :
    Reads (w.alloc (.cells cs t m)) (g + 1) 1 (some ⟨g, 0, none⟩) xs.length xs := by
  subst h hg
  refine ⟨by simp, fun _ => ⟨_, rfl, by simp, fun j u hu => ?_⟩⟩
  have hb : (w.alloc (.cells xs.toArray t m)).heap[w.heap.size]? = some (.cells xs.toArray t m) := heap_alloc_new w _
  have : (Addr.add ⟨w.heap.size, 0, none⟩ j) = ⟨w.heap.size, j, none⟩ := by
    unfold Addr.add; split <;> simp_all
  rw [this, cell_of_row (w.alloc (.cells xs.toArray t m)) w.heap.size j _ t m hb]
  simpa using hu

theorem mean_awake : meanL [4607182418800017408, 9221120237041090561, 4613937818241073152] 0 0 = some (4616189618054758400, 2) := by decide +kernel
theorem div_awake : floatBits .quo .f64 4616189618054758400 (intW 2) = some 4611686018427387904 := by decide +kernel
theorem worth_a : worthB 4602678819172646912 64 128 = true := by decide +kernel
theorem worth_b : worthB 4602678819172646912 65 128 = false := by decide +kernel
theorem fix_7 : fixW 4619567317775286272 = 4607182418800017408 := by decide +kernel
theorem eq_one : (FloatKind.f64.format.order 4607182418800017408 4607182418800017408 == some .eq) = true := by decide +kernel
theorem eq_two : (FloatKind.f64.format.order 4611686018427387904 4611686018427387904 == some .eq) = true := by decide +kernel

set_option maxHeartbeats 1000000 in
theorem awake1 (w : World) : Calls Try.prog 14 #[] w fun e w' => e = .returned (.bool true) ∧ Below w.heap.size w w' := by
  have h1 := worth_a
  have h2 := worth_b
  have h3 := fix_7
  have h4 := eq_one
  have h5 := eq_two
  go_enter Try.func14, Try.ntmps14
  go_wp2_with (first
    | (go_at_call 23; refine (nan_any _).mono ?_; rintro e w' ⟨rfl, rfl⟩)
    | (go_at_call 25; refine (mean_any [4607182418800017408, 9221120237041090561, 4613937818241073152] _ 3 3 _ _ (reads_new _ _ [vF 4607182418800017408, vF 9221120237041090561, vF 4613937818241073152] _ _ _ rfl (by rfl)) (by decide) (by decide) _ _ mean_awake 4611686018427387904 true (.inr ⟨rfl, by decide, by decide +kernel, div_awake⟩)).mono ?_; rintro e w' ⟨rfl, rfl⟩)
    | (go_at_call 16; refine (fix_any _ _ (by decide)).mono ?_; rintro e w' ⟨rfl, rfl⟩)
    | (go_at_call 15; refine (worth_any _ _ _ _ (by decide) (by decide)).mono ?_; rintro e w' ⟨rfl, rfl⟩))
  go_ret
  exact ⟨rfl, (Below.refl _ _).alloc (Nat.le_refl _) _⟩

end Go.Proofs.Ythhgmanoifpoiaa

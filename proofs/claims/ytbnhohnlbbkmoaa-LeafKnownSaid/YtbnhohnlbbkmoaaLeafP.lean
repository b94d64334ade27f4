/- The plain law: what a frame says when it is opened; and why Make makes none. -/
import Derived.Test.YtbnhohnlbbkmoaaOpenL
import Derived.Test.YtbnhohnlbbkmoaaMake
namespace Go.Proofs.Ytbnhohnlbbkmoaa
open Go.RowKit
set_option linter.unusedVariables false

theorem num4_leB (x : B32) : num4 (mb x 0) (mb x 1) (mb x 2) (mb x 3) = I32 x := by
  unfold num4
  rw [← mb_0, ← mb_1, ← mb_2, ← mb_3]
  have := I32.bd x
  omega

/-- Twelve bytes, a sum, data, the rest. -/
def frameX (kind : B8) (gen n s : B32) (ds rest : List B8) : List B8 := head12 kind gen n ++ leB s ++ ds ++ rest
theorem frameX_eq (kind : B8) (gen : B32) (ds : List B8) :
    frame kind gen ds = frameX kind gen (len32 ds.length) (frameSum kind gen ds) ds (List.replicate (64 * blocksN ds.length - 16 - ds.length) 0#8) := rfl

theorem fx_take (kind : B8) (gen n s : B32) (ds rest : List B8) : (frameX kind gen n s ds rest).take 12 = head12 kind gen n := rfl
theorem fx_gen (kind : B8) (gen n s : B32) (ds rest : List B8) : numAt (frameX kind gen n s ds rest) 4 = I32 gen := num4_leB gen
theorem fx_many (kind : B8) (gen n s : B32) (ds rest : List B8) : numAt (frameX kind gen n s ds rest) 8 = I32 n := num4_leB n
theorem fx_sum (kind : B8) (gen n s : B32) (ds rest : List B8) : numAt (frameX kind gen n s ds rest) 12 = I32 s := num4_leB s
theorem fx_drop (kind : B8) (gen n s : B32) (ds rest : List B8) : (frameX kind gen n s ds rest).drop 16 = ds ++ rest := rfl
theorem fx_len (kind : B8) (gen n s : B32) (ds rest : List B8) : (frameX kind gen n s ds rest).length = 16 + ds.length + rest.length := by
  unfold frameX head12 leB; simp; omega
theorem fx_head (kind : B8) (gen n s : B32) (ds rest : List B8) (hn : I32 n ≤ 4096) (hg : I32 gen ≤ 2147483647) : headE (frameX kind gen n s ds rest) = 0 := by
  unfold headE
  rw [if_neg (by rw [fx_len]; omega), fx_gen, fx_many]
  rw [if_neg]
  rintro (h | h | h | h | h)
  · exact h rfl
  · exact h rfl
  · exact h rfl
  · omega
  · omega

theorem frame_many (kind : B8) (gen : B32) (ds : List B8) (h : ds.length ≤ 4096) : manyN (frame kind gen ds) = ds.length := by
  unfold manyN
  rw [frameX_eq, fx_many, ← len32_eq (by omega)]
  omega
theorem frame_head (kind : B8) (gen : B32) (ds : List B8) (h : ds.length ≤ 4096) (hg : I32 gen ≤ 2147483647) : headE (frame kind gen ds) = 0 :=
  fx_head _ _ _ _ _ _ (by rw [← len32_eq (by omega)]; omega) hg

theorem frame_openE (kind kind' : B8) (gen : B32) (ds : List B8) (h : ds.length ≤ 4096) (hg : I32 gen ≤ 2147483647) :
    openE (frame kind gen ds) kind' = if kind = kind' then 0 else 4 := by
  unfold openE
  have hb : blocksN ds.length = (ds.length + 79) / 64 := rfl
  rw [frame_many kind gen ds h, frame_head kind gen ds h hg, frame_length, if_neg (by simp), if_neg (by omega), if_neg (by omega)]
  rw [if_neg]
  · have e : I8 (bt (frame kind gen ds) 2) = I8 kind := rfl
    rw [e]
    by_cases hk : kind = kind'
    · rw [if_pos hk, if_neg (by rw [hk]; simp)]
    · rw [if_neg hk, if_pos (fun h => hk (I8.inj h))]
  · rw [frameX_eq, fx_sum, fx_take, fx_drop, ← List.drop_drop, fx_drop]
    rw [List.take_append_of_le_length (Nat.le_refl _), List.take_of_length_le (Nat.le_refl _), List.drop_append, List.drop_of_length_le (Nat.le_refl _), Nat.sub_self, List.drop_zero, List.nil_append]
    rintro (h | h)
    · exact h rfl
    · apply h
      congr 1
      omega

theorem frame_openG (kind : B8) (gen : B32) (ds : List B8) (h : ds.length ≤ 4096) (hg : I32 gen ≤ 2147483647) : openG (frame kind gen ds) kind = I32 gen := by
  unfold openG
  rw [frame_openE _ _ _ _ h hg, if_pos rfl, if_pos rfl, frameX_eq, fx_gen]
theorem frame_openD (kind : B8) (gen : B32) (ds : List B8) (h : ds.length ≤ 4096) (hg : I32 gen ≤ 2147483647) : openD (frame kind gen ds) kind = ds := by
  unfold openD
  rw [frame_openE _ _ _ _ h hg, if_pos rfl, if_pos rfl, frame_many _ _ _ h, frameX_eq, fx_drop, List.take_append_of_le_length (Nat.le_refl _), List.take_of_length_le (Nat.le_refl _)]

/-- Make makes none of a generation that is none. -/
theorem make_gen (kind : B8) (gen : Int) (A : Option Addr) (n c : Nat) (w : World) (hg : gen < 0 ∨ 2147483647 < gen) :
    Calls Try.prog 21 #[.int .u8 (I8 kind), .int .i64 gen, .slice A n c] w fun e w' => e = .returned (.tuple #[.slice none 0 0, .int .i64 1]) ∧ w = w' := by
  by_cases h0 : gen < 0
  · clear hg
    go_enter Try.func21, Try.ntmps21
    go_wp2
    go_ret2
    exact ⟨rfl, rfl⟩
  · have h1 : 2147483647 < gen := by omega
    have h2 : 0 ≤ gen := by omega
    clear hg h0
    go_enter Try.func21, Try.ntmps21
    go_wp2
    go_ret2
    exact ⟨rfl, rfl⟩
theorem make_long (kind : B8) (gen : Int) (A : Option Addr) (n c : Nat) (w : World) (hg : ¬ (gen < 0 ∨ 2147483647 < gen)) (hn : 4096 < n) (hm : n ≤ 1000000) :
    Calls Try.prog 21 #[.int .u8 (I8 kind), .int .i64 gen, .slice A n c] w fun e w' => e = .returned (.tuple #[.slice none 0 0, .int .i64 3]) ∧ w = w' := by
  have h1 : gen ≤ 2147483647 := by omega
  have h2 : 0 ≤ gen := by omega
  clear hg
  go_enter Try.func21, Try.ntmps21
  go_wp2
  go_ret2
  exact ⟨rfl, rfl⟩
end Go.Proofs.Ytbnhohnlbbkmoaa

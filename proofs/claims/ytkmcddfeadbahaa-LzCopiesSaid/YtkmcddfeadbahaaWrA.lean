/- Contract of the writer's length. -/
import Derived.Test.YtkmcddfeadbahaaRdA
import Derived.IntWalk
import Derived.OwnWalk
namespace Go.Proofs.Ytkmcddfeadbahaa
open Go.RowKit
set_option linter.unusedVariables false

/-- All below B is as it was, but for block p. -/
structure Far (p B : Nat) (w w' : World) : Prop where
  os : w'.os = w.os
  tape : w'.tape = w.tape
  output : w'.output = w.output
  size : w.heap.size ≤ w'.heap.size
  block : ∀ i, i < B → i ≠ p → w'.heap[i]? = w.heap[i]?
theorem Far.refl (p B : Nat) (w : World) : Far p B w w := ⟨rfl, rfl, rfl, Nat.le_refl _, fun _ _ _ => rfl⟩
theorem Far.trans {p B : Nat} {a b c : World} (h : Far p B a b) (k : Far p B b c) : Far p B a c :=
  ⟨k.os.trans h.os, k.tape.trans h.tape, k.output.trans h.output, Nat.le_trans h.size k.size, fun i hi hne => (k.block i hi hne).trans (h.block i hi hne)⟩
theorem Far.of_grown {p B : Nat} {w w' : World} {row : Option Nat} (hB : B ≤ w.heap.size) (h : w.grownBy w' row) (hr : ∀ q, row = some q → q = p ∨ B ≤ q) : Far p B w w' :=
  ⟨h.os, h.tape, h.output, h.size, fun i hi hne => h.block i (by omega) (fun e => by rcases hr i e.symm with h | h <;> omega)⟩

/-- Block p is a writer that has written out. -/
structure Wtr (w : World) (p B : Nat) (vb vo : Value) (out : List B8) : Prop where
  blk : Blk w p 46 #[vb, vo]
  own : w.ownsRow B 5 1 vo out.length (out.map v8)
  low : p < B
  high : B ≤ w.heap.size

section
variable {w : World} {p B : Nat} {vb vo : Value} {out : List B8}
theorem Wtr.c1 (h : Wtr w p B vb vo out) : w.cell? ⟨p, 1, none⟩ = some vo := by rw [h.blk.cell]; rfl
theorem Wtr.f1 (h : Wtr w p B vb vo out) : w.frozen? ⟨p, 1, none⟩ = false := h.blk.frozen 1
theorem Wtr.alloc (h : Wtr w p B vb vo out) (o : Obj) : Wtr (w.alloc o) p B vb vo out := ⟨h.blk.alloc o, h.own.alloc o, h.low, by have := h.high; simp; omega⟩
theorem Wtr.ne (h : Wtr w p B vb vo out) : some p ≠ vo.ownBlock := fun e => by have := (h.own.lt p e.symm).1; have := h.low; omega
/-- An append to the out, and its store. -/
theorem Wtr.wrote (h : Wtr w p B vb vo out) {w2 : World} {v2 : Value} {l : List B8} {k : Nat} (hk : l.length = k) (hown : w2.ownsRow B 5 1 v2 (out.length + k) (out.map v8 ++ l.map v8)) (hg : w.grownBy w2 vo.ownBlock) :
    ∃ A c, v2 = .slice A (out.length + k) c ∧ w2.cell? ⟨p, 1, none⟩ = some vo ∧ w2.frozen? ⟨p, 1, none⟩ = false ∧
      Hid (Wtr (w2.setCell ⟨p, 1, none⟩ (.slice A (out.length + k) c)) p B vb (.slice A (out.length + k) c) (out ++ l) ∧ Far p B w (w2.setCell ⟨p, 1, none⟩ (.slice A (out.length + k) c))) := by
  subst hk
  obtain ⟨A, c, rfl⟩ : ∃ A c, v2 = .slice A (out.length + l.length) c := by
    rcases hown.2 with ⟨rfl, h0⟩ | ⟨g, cap, cur, rfl, _⟩
    · exact ⟨none, 0, by rw [h0]⟩
    · exact ⟨_, _, rfl⟩
  generalize hv2 : Value.slice A (out.length + l.length) c = v2 at *
  refine ⟨A, c, hv2.symm, ?_⟩
  rw [hv2]
  have hb := h.blk.grown hg h.ne
  have hlow := h.low
  have hhigh := h.high
  refine ⟨by rw [hb.cell]; rfl, hb.frozen 1, ⟨hb.set_ 1 v2, ?_, h.low, by have := hg.size; simp; omega⟩, ?_⟩
  · rw [List.length_append, List.map_append]
    refine hown.kept (only_setCell (g := p) (World.grownBy.refl w2 _) (p := ⟨p, 1, none⟩) (.inl rfl) v2) ?_
    cases hv : v2.ownBlock with
    | none => exact .inl rfl
    | some q => exact .inr (fun e => by injection e with e; have := (hown.lt q hv).1; omega)
  · exact (Far.of_grown h.high hg (fun q hq => .inr (h.own.lt q hq).1)).trans
      (Far.of_grown (by have := hg.size; omega) (only_setCell (g := p) (World.grownBy.refl w2 _) (p := ⟨p, 1, none⟩) (.inl rfl) v2) (fun q hq => .inl (by injection hq with hq; exact hq.symm)))
end

theorem info5' : (Try.prog.info? 5).map (fun i => (i.zero, i.size, i.bytes)) = some (some (.int .u8 0), 1, 1) := by kernel_rfl

theorem wlen_small (p n : Nat) (w : World) (hn : n < 15) : Calls Try.prog 26 #[.pointer (some ⟨p, 0, none⟩), .int .i64 (n : Int)] w fun e w' => e = .returned (.tuple #[]) ∧ w = w' := by
  have hI : (n : Int) < 15 := by omega
  go_enter Try.func26, Try.ntmps26
  go_wp2_with fail
  first | go_end0 | refine bodyPost_ret (results_none rfl _ _ _) rfl ?_
  exact ⟨rfl, rfl⟩

theorem low8 (n : Nat) (h : n < 256) : (n : Int) % 256 = I8 (BitVec.ofNat 8 n) := by
  unfold I8; rw [BitVec.toNat_ofNat]; omega

set_option maxRecDepth 100000 in
theorem wlen_big (p B : Nat) (vb vo : Value) (out : List B8) (n : Nat) (w : World) (h : Wtr w p B vb vo out) (hn : 15 ≤ n) (hm : n ≤ 5000) (ho : out.length ≤ 10000) :
    Calls Try.prog 26 #[.pointer (some ⟨p, 0, none⟩), .int .i64 (n : Int)] w fun e w' => e = .returned (.tuple #[]) ∧ ∃ v', Wtr w' p B vb v' (out ++ lenE n) ∧ Far p B w w' := by
  obtain ⟨i0, hi, hz0, hz1, hz2⟩ := info_parts info5'
  have hI : ¬ (n : Int) < 15 := by omega
  have HW := Lib.hid h
  obtain ⟨k, hk⟩ : ∃ k, n = k + 15 := ⟨n - 15, by omega⟩
  subst hk
  have hk5 : k ≤ 5000 := by omega
  go_enter Try.func26, Try.ntmps26
  go_wp2_with fail
  go_loopw [1] (fun m wr => ∃ (z q : Nat) (v : Value), m = .int .i64 (z : Int) ∧ z + 255 * q = k ∧ Wtr wr p B vb v (out ++ List.replicate q 255#8) ∧ Far p B w wr) (fun m _ => (intOf m).toNat)
  case atStart => exact ⟨k, 0, vo, by first | rfl | (congr 1; omega), rfl, by rw [List.replicate_zero, List.append_nil]; exact HW.out, Far.refl _ _ _⟩
  case round =>
    obtain ⟨z, q, v, rfl, hzq, hW, hF⟩ := hrel
    have hql : (out ++ List.replicate q 255#8).length ≤ 16000 := by rw [List.length_append, List.length_replicate]; omega
    have HWr := Lib.hid hW
    have HF := Lib.hid hF
    have HZ := Lib.hid hzq
    have hmx : Hid ((out ++ List.replicate q 255#8).length + 1 ≤ maxLen) := by show _ ≤ _; unfold maxLen; omega
    have hby : Hid (((out ++ List.replicate q 255#8).length + 1) * 1 ≤ 140737488355328) := by show _ ≤ _; omega
    generalize hxs : out ++ List.replicate q 255#8 = xs at *
    have HX := Lib.hid hxs
    by_cases hge : 255 ≤ z
    · have hgI : (255 : Int) ≤ (z : Int) := by omega
      have hW2 := hW.alloc (.cells #[.int .u8 255] 5)
      have HW2 := Lib.hid hW2
      have x1 := hW.c1
      have hA : Hid (B ≤ (wr.alloc (.cells #[.int .u8 255] 5)).heap.size) := by show _ ≤ _; have := hW.high; simp; omega
      clear hW2 hW hF hzq hge hxs hql
      go_wp2_with (first
        | (at_builtin
           refine wpList_append_any _ rfl (.tmp 16) (.tmp 17) 22 rfl B 5 i0 (.int .u8 0) 1 1 Try.underlying22 hi hz0 hz1 hz2 rfl (by decide) v xs.length _ rfl HW2.out.own (wr.heap.size + 1) _ 1 1 ([255#8].map v8) rfl (rd_lit wr [255#8] _ 5 (0, 0) rfl) (oneCell_v8 _) hmx.out hby.out hA.out ?_
           intro v6 w6 hown6 hg6 hat6
           obtain ⟨A6, c6, rfl, y1, g1, fin⟩ := HW2.out.wrote (l := [255#8]) rfl hown6 hg6
           clear hown6 hg6 hat6))
      have hzq := HZ.out
      have hz : wrap64 ((z : Int) - 255) = ((z - 255 : Nat) : Int) := by rw [IntWalk.wrap64_in _ (by omega)]; omega
      rw [hz]
      refine ⟨⟨z - 255, q + 1, .slice A6 (xs.length + 1) c6, rfl, by omega, ?_, (HF.out.trans (Far.of_grown HWr.out.high (World.grownBy_alloc _ _ none) (fun q hq => by cases hq))).trans fin.out.2⟩, ?_⟩
      · rw [List.replicate_succ', ← List.append_assoc, HX.out]
        exact fin.out.1
      · show (((z - 255 : Nat) : Int)).toNat < ((z : Nat) : Int).toNat
        rw [Int.toNat_natCast, Int.toNat_natCast]
        omega
    · have hgI : (z : Int) < 255 := by omega
      have hzz : z = k % 255 ∧ q = k / 255 := by omega
      have hcell : Hid ((#[Value.int .u8 (z : Int)] : Array Value) = ([BitVec.ofNat 8 z].map v8).toArray) := by show _ = _; rw [show (z : Int) = I8 (BitVec.ofNat 8 z) from by have := low8 z (by omega); omega]; rfl
      have hW2 := hW.alloc (.cells #[.int .u8 (z : Int)] 5)
      have HW2 := Lib.hid hW2
      have x1 := hW.c1
      have hA : Hid (B ≤ (wr.alloc (.cells #[.int .u8 (z : Int)] 5)).heap.size) := by show _ ≤ _; have := hW.high; simp; omega
      have HZZ := Lib.hid hzz
      clear hW2 hW hF hzq hge hxs hql hzz
      obtain ⟨zb, hzb⟩ : ∃ zb, zb = BitVec.ofNat 8 z := ⟨_, rfl⟩
      rw [← hzb] at hcell
      have HZB := Lib.hid hzb
      clear hzb
      go_wp2_with (first
        | (at_builtin
           refine wpList_append_any _ rfl (.tmp 25) (.tmp 28) 22 rfl B 5 i0 (.int .u8 0) 1 1 Try.underlying22 hi hz0 hz1 hz2 rfl (by decide) v xs.length _ rfl HW2.out.own (wr.heap.size + 1) _ 1 1 ([zb].map v8) rfl (rd_lit wr [zb] _ 5 (0, 0) hcell.out) (oneCell_v8 _) hmx.out hby.out hA.out ?_
           intro v6 w6 hown6 hg6 hat6
           obtain ⟨A6, c6, rfl, y1, g1, fin⟩ := HW2.out.wrote (l := [zb]) rfl hown6 hg6
           clear hown6 hg6 hat6))
      go_end0
      refine ⟨rfl, .slice A6 (xs.length + 1) c6, ?_, (HF.out.trans (Far.of_grown HWr.out.high (World.grownBy_alloc _ _ none) (fun q hq => by cases hq))).trans fin.out.2⟩
      have e : out ++ lenE (k + 15) = xs ++ [zb] := by
        obtain ⟨e1, e2⟩ := HZZ.out
        unfold lenE
        rw [if_neg (by omega), show k + 15 - 15 = k by omega, ← e2, ← e1, ← HZB.out, ← List.append_assoc, HX.out]
      rw [e]
      exact fin.out.1

/-- The rest of a length is written. -/
theorem wlen_any (p B : Nat) (vb vo : Value) (out : List B8) (n : Nat) (z : Int) (hz : z = (n : Int)) (w : World) (h : Wtr w p B vb vo out) (hm : n ≤ 5000) (ho : out.length ≤ 10000) :
    Calls Try.prog 26 #[.pointer (some ⟨p, 0, none⟩), .int .i64 z] w fun e w' => e = .returned (.tuple #[]) ∧ ∃ v', Wtr w' p B vb v' (out ++ lenE n) ∧ Far p B w w' := by
  subst hz
  by_cases hn : n < 15
  · refine (wlen_small p n w hn).mono ?_
    rintro e w' ⟨rfl, rfl⟩
    refine ⟨rfl, vo, ?_, Far.refl _ _ _⟩
    unfold lenE
    rw [if_pos hn, List.append_nil]
    exact h
  · exact wlen_big p B vb vo out n w h (by omega) hm ho
end Go.Proofs.Ytkmcddfeadbahaa

/- Contract of the closure that notes a place. -/
import Derived.Test.YtkmcddfeadbahaaNoteA
import Derived.BigRegion
import Derived.WalkLawsBesides
namespace Go.Proofs.Ytkmcddfeadbahaa
open Go.RowKit
set_option linter.unusedVariables false

/-- A place as a cell holds it. -/
def vI (k : Nat) : Value := .int .i64 (k : Int)

/-- The packer's tables in memory: the boxes of b, of the map and of the row; the map; the row. -/
structure Tabs (w : World) (gb ga gf M R : Nat) (A : Option Addr) (c cnt : Nat) (bs : List B8) (t : Tab) : Prop where
  b1 : Blk w gb 22 #[.slice A bs.length c]
  b2 : Blk w ga 47 #[.map (some M)]
  b3 : Blk w gf 48 #[.slice (some ⟨R, 0, none⟩) bs.length bs.length]
  row : Blk w R 3 (t.before.map vI).toArray
  len : t.before.length = bs.length
  tie : Tie w M cnt t.ahead
  rd : Rd w gb A bs.length bs
  le : bs.length ≤ c
  ord : gb < ga ∧ ga < M + 3 ∧ M ≠ R ∧ gb ≠ M ∧ ga ≠ M ∧ gf ≠ M ∧ gb ≠ R ∧ ga ≠ R ∧ gf ≠ R ∧ gb < M ∧ gb < R

/-- All but two blocks are as they were. -/
structure But2 (M R : Nat) (w w' : World) : Prop where
  os : w'.os = w.os
  tape : w'.tape = w.tape
  output : w'.output = w.output
  size : w.heap.size ≤ w'.heap.size
  block : ∀ i, i < w.heap.size → i ≠ M → i ≠ R → w'.heap[i]? = w.heap[i]?
theorem But2.refl (M R : Nat) (w : World) : But2 M R w w := ⟨rfl, rfl, rfl, Nat.le_refl _, fun _ _ _ _ => rfl⟩
theorem But2.trans {M R : Nat} {a b c : World} (h : But2 M R a b) (k : But2 M R b c) : But2 M R a c :=
  ⟨k.os.trans h.os, k.tape.trans h.tape, k.output.trans h.output, Nat.le_trans h.size k.size, fun i hi h1 h2 => (k.block i (Nat.lt_of_lt_of_le hi h.size) h1 h2).trans (h.block i hi h1 h2)⟩

theorem take4 {bs : List B8} {i : Nat} (h : i + 4 ≤ bs.length) : (bs.drop i).take 4 = four bs i := by
  rw [drop_cons (by omega), drop_cons (by omega), drop_cons (by omega), drop_cons (by omega)]
  rfl
theorem rd_four {w : World} {B : Nat} {A : Option Addr} {xs : List B8} {a b c d : B8} (h : Rd w B A 4 xs) (hx : xs = [a, b, c, d]) :
    ∃ bq oq, A = some ⟨bq, oq, none⟩ ∧ w.cell? ⟨bq, oq, none⟩ = some (.int .u8 (I8 a)) ∧ w.cell? ⟨bq, oq + 1, none⟩ = some (.int .u8 (I8 b)) ∧ w.cell? ⟨bq, oq + 2, none⟩ = some (.int .u8 (I8 c)) ∧ w.cell? ⟨bq, oq + 3, none⟩ = some (.int .u8 (I8 d)) ∧ bq < B := by
  subst hx
  obtain ⟨ad, x0, rfl, hlt, e0, c0⟩ := h.at_ (k := 0) (by omega)
  obtain ⟨_, x1, e, _, e1, c1⟩ := h.at_ (k := 1) (by omega)
  injection e with e; subst e
  obtain ⟨_, x2, e, _, e2, c2⟩ := h.at_ (k := 2) (by omega)
  injection e with e; subst e
  obtain ⟨_, x3, e, _, e3, c3⟩ := h.at_ (k := 3) (by omega)
  injection e with e; subst e
  simp at e0 e1 e2 e3
  subst e0 e1 e2 e3
  have c0' : w.cell? ad = some (.int .u8 (I8 a)) := c0
  obtain ⟨bq, oq, sp⟩ := ad
  have hs : sp = none := by simpa using World.cell?_spot c0'
  subst hs
  exact ⟨bq, oq, rfl, c0', c1, c2, c3, hlt⟩

set_option maxRecDepth 100000 in
theorem note_any (gb ga gf M R : Nat) (A : Option Addr) (c cnt : Nat) (bs : List B8) (t : Tab) (i : Nat) (w : World) (h : Tabs w gb ga gf M R A c cnt bs t) (hi : i + 4 ≤ bs.length) (hn : bs.length ≤ 4096) (hc : cnt ≤ 100000) :
    Calls Try.prog 18 #[.int .i64 (i : Int), .pointer (some ⟨gb, 0, none⟩), .pointer (some ⟨ga, 0, none⟩), .pointer (some ⟨gf, 0, none⟩)] w fun e w' => e = .returned (.tuple #[]) ∧ Tabs w' gb ga gf M R A c (cnt + 1) bs (note bs t i) ∧ But2 M R w w' := by
  obtain ⟨i0, hi0, hz0, hz1, hz2⟩ := info_parts info5
  have H := Lib.hid h
  have x1 : w.cell? ⟨gb, 0, none⟩ = some (.slice A bs.length c) := by rw [h.b1.cell]; rfl
  have x2 : w.cell? ⟨ga, 0, none⟩ = some (.map (some M)) := by rw [h.b2.cell]; rfl
  have x3 : w.cell? ⟨gf, 0, none⟩ = some (.slice (some ⟨R, 0, none⟩) bs.length bs.length) := by rw [h.b3.cell]; rfl
  obtain ⟨A2, hsl, hr2⟩ := slice_mid (P := Try.prog) 22 5 i0 Try.underlying22 hi0 hz1 h.rd i 4 hi h.le
  have hsl : ∀ W : World, (Instr.slice 22 (.slice A bs.length c) (some (.int .i64 (i : Int))) (some (.int .i64 ((i : Int) + 4))) none).run Try.prog W = .ok (.slice A2 4 (c - i)) W := hsl
  obtain ⟨bq, oq, rfl, q0, q1, q2, q3, hbq⟩ := rd_four hr2 (take4 hi)
  have hat : ∀ W : World, (Instr.arrayAt 49 (.slice (some ⟨bq, oq, none⟩) 4 (c - i))).run Try.prog W = .ok (.pointer (some ⟨bq, oq, none⟩)) W := fun W => by
    simp [Instr.arrayAt, run_underlying Try.underlying49]
  have hiI : (i : Int) + 4 ≤ (bs.length : Int) := by omega
  clear h hr2
  go_enter Try.func18, Try.ntmps18
  go_wp2_with fail
  have HN : Tie (w.alloc (.cells #[.int .u8 (I8 (bt bs i)), .int .u8 (I8 (bt bs (i + 1))), .int .u8 (I8 (bt bs (i + 2))), .int .u8 (I8 (bt bs (i + 3)))] 49)) M cnt t.ahead :=
    H.out.tie.kept (Below.heap_alloc w _ M H.out.tie.lt)
  obtain ⟨w1, hw1⟩ : ∃ w1, w1 = w.alloc (.cells #[.int .u8 (I8 (bt bs i)), .int .u8 (I8 (bt bs (i + 1))), .int .u8 (I8 (bt bs (i + 2))), .int .u8 (I8 (bt bs (i + 3)))] 49) := ⟨_, rfl⟩
  have y0 : Blk w1 w.heap.size 49 #[.int .u8 (I8 (bt bs i)), .int .u8 (I8 (bt bs (i + 1))), .int .u8 (I8 (bt bs (i + 2))), .int .u8 (I8 (bt bs (i + 3)))] := by rw [hw1]; exact Blk.new w 49 _
  have y1 : Blk w1 R 3 (t.before.map vI).toArray := by rw [hw1]; exact H.out.row.alloc _
  have y2 : Blk w1 ga 47 #[.map (some M)] := by rw [hw1]; exact H.out.b2.alloc _
  have y3 : Blk w1 gf 48 #[.slice (some ⟨R, 0, none⟩) bs.length bs.length] := by rw [hw1]; exact H.out.b3.alloc _
  have s1 : w1.heap.size = w.heap.size + 1 := by rw [hw1]; simp
  rw [← hw1] at HN ⊢
  have HW1 := Lib.hid hw1
  clear hw1
  have lk := HN.look (bt bs i) (bt bs (i + 1)) (bt bs (i + 2)) (bt bs (i + 3))
  have lk : ∀ n : Nat, (Instr.lookup 47 (.map (some M)) (keyV (bt bs i) (bt bs (i + 1)) (bt bs (i + 2)) (bt bs (i + 3))) false).run Try.prog w1.drew = .ok (.int .i64 ((t.ahead (four bs i) : Nat) : Int)) w1.drew := fun _ => (show Tie w1.drew M cnt t.ahead from HN).look _ _ _ _
  have lk := lk 0
  unfold keyV at lk
  have c2 : w1.cell? ⟨ga, 0, none⟩ = some (.map (some M)) := by rw [y2.cell]; rfl
  have c3 : w1.cell? ⟨gf, 0, none⟩ = some (.slice (some ⟨R, 0, none⟩) bs.length bs.length) := by rw [y3.cell]; rfl
  have d0 : w1.cell? ⟨w.heap.size, 0, none⟩ = some (.int .u8 (I8 (bt bs i))) := by rw [y0.cell]; rfl
  have d1 : w1.cell? ⟨w.heap.size, 1, none⟩ = some (.int .u8 (I8 (bt bs (i + 1)))) := by rw [y0.cell]; rfl
  have d2 : w1.cell? ⟨w.heap.size, 2, none⟩ = some (.int .u8 (I8 (bt bs (i + 2)))) := by rw [y0.cell]; rfl
  have d3 : w1.cell? ⟨w.heap.size, 3, none⟩ = some (.int .u8 (I8 (bt bs (i + 3)))) := by rw [y0.cell]; rfl
  have e0 : w1.cell? ⟨R, i, none⟩ = some (vI (t.before.getD i 0)) := by
    rw [y1.cell]
    have := H.out.len
    rw [List.getElem?_toArray, List.getElem?_map, List.getElem?_eq_getElem (by omega), List.getD_eq_getElem?_getD, List.getElem?_eq_getElem (by omega)]
    rfl
  have f0 : w1.frozen? ⟨R, i, none⟩ = false := y1.frozen i
  have hil : (i : Int) < (bs.length : Int) := by omega
  have hil2 : i < bs.length := by omega
  unfold vI at e0
  clear HN x1 x2 x3 q0 q1 q2 q3 hsl hat
  go_region
  obtain ⟨w2, hw2⟩ : ∃ w2, w2 = (w1.setCell ⟨R, i, none⟩ (.int .i64 ((t.ahead (four bs i) : Nat) : Int))).drew := ⟨_, rfl⟩
  have ho := H.out.ord
  have hRw := H.out.row.lt
  have hMw := H.out.tie.lt
  have gaR : ga ≠ R := by omega
  have z0 : Blk w2 w.heap.size 49 #[.int .u8 (I8 (bt bs i)), .int .u8 (I8 (bt bs (i + 1))), .int .u8 (I8 (bt bs (i + 2))), .int .u8 (I8 (bt bs (i + 3)))] := by
    rw [hw2]; exact (y0.far (p := ⟨R, i, none⟩) (by show w.heap.size ≠ R; omega) _).drew
  have z1 : Blk w2 R 3 ((t.before.set i (t.ahead (four bs i))).map vI).toArray := by
    rw [hw2]
    have := (y1.set_ i (vI (t.ahead (four bs i)))).drew
    rw [List.map_set]
    have e : (List.map vI t.before).toArray.setIfInBounds i (vI (t.ahead (four bs i))) = ((List.map vI t.before).set i (vI (t.ahead (four bs i)))).toArray := by simp
    rw [e] at this
    exact this
  have z2 : Blk w2 ga 47 #[.map (some M)] := by rw [hw2]; exact (y2.far (p := ⟨R, i, none⟩) gaR _).drew
  have zB : w2.heap.size = w.heap.size + 1 := by rw [hw2]; simp [s1]
  have zK : ∀ k, k < w.heap.size → k ≠ R → w2.heap[k]? = w.heap[k]? := by
    intro k hk hne
    rw [hw2, HW1.out]
    exact (Below.heap_setCell _ ⟨R, i, none⟩ _ k hne).trans (Below.heap_alloc w _ k hk)
  have zE : w2.os = w.os ∧ w2.tape = w.tape ∧ w2.output = w.output := by rw [hw2, HW1.out]; exact ⟨rfl, rfl, rfl⟩
  obtain ⟨D, hD1, hD2⟩ : Tie w2 M cnt t.ahead := H.out.tie.kept (zK M hMw (by omega))
  rw [← hw2]
  have c2 : w2.cell? ⟨ga, 0, none⟩ = some (.map (some M)) := by rw [z2.cell]; rfl
  have d0 : w2.cell? ⟨w.heap.size, 0, none⟩ = some (.int .u8 (I8 (bt bs i))) := by rw [z0.cell]; rfl
  have d1 : w2.cell? ⟨w.heap.size, 1, none⟩ = some (.int .u8 (I8 (bt bs (i + 1)))) := by rw [z0.cell]; rfl
  have d2 : w2.cell? ⟨w.heap.size, 2, none⟩ = some (.int .u8 (I8 (bt bs (i + 2)))) := by rw [z0.cell]; rfl
  have d3 : w2.cell? ⟨w.heap.size, 3, none⟩ = some (.int .u8 (I8 (bt bs (i + 3)))) := by rw [z0.cell]; rfl
  have hwf : Hid ((Lit.int .i64 ((i : Int) + 1)).wf = true) := WalkArith.wf_i64 (by omega)
  have hcm : Hid (cnt < maxLen) := by show _ < _; unfold maxLen; omega
  clear hw2 lk e0 f0 y0 y1 y2 y3
  go_wp2_with (first
    | (at_mapUpdate
       refine wpList_mapUpdate_own _ rfl _ _ _ 47 rfl 49 3 law49 Try.underlying47 _ M cnt D rfl hD1 hcm.out (keyV (bt bs i) (bt bs (i + 1)) (bt bs (i + 2)) (bt bs (i + 3))) (.int .i64 ((i : Int) + 1)) (keyL (bt bs i) (bt bs (i + 1)) (bt bs (i + 2)) (bt bs (i + 3))) rfl rfl (keyOf_four _ _ _ _) _ [] (plainElem_int Try.underlying3 hwf.out) ?_
       intro w3 hown3 hg3))
  go_end0
  have K3 : ∀ k, k < w.heap.size → k ≠ M → k ≠ R → w3.heap[k]? = w.heap[k]? := fun k hk h1 h2 => (hg3.block k (by omega) (fun e => h1 (by injection e))).trans (zK k hk h2)
  have l1 := H.out.b1.lt
  have l2 := H.out.b2.lt
  have l3 := H.out.b3.lt
  have hnote : note bs t i = { ahead := fun x => if x = four bs i then i + 1 else t.ahead x, before := t.before.set i (t.ahead (four bs i)) } := by
    unfold note; rw [if_pos hi]
  refine ⟨rfl, ?_, ⟨hg3.os.trans zE.1, hg3.tape.trans zE.2.1, hg3.output.trans zE.2.2, by have := hg3.size; omega, K3⟩⟩
  rw [hnote]
  exact {
    b1 := (K3 gb l1 (by omega) (by omega)).trans H.out.b1
    b2 := (K3 ga l2 (by omega) (by omega)).trans H.out.b2
    b3 := (K3 gf l3 (by omega) (by omega)).trans H.out.b3
    row := (hg3.block R (by omega) (fun e => by injection e with e; omega)).trans z1
    len := by rw [List.length_set]; exact H.out.len
    tie := Tie.put (bt bs i) (bt bs (i + 1)) (bt bs (i + 2)) (bt bs (i + 3)) (z := i + 1) hD1 hD2 hown3
    rd := H.out.rd.keep fun q hq => World.cell?_of_block (K3 q.block (by omega) (by omega) (by omega))
    le := H.out.le
    ord := H.out.ord }
end Go.Proofs.Ytkmcddfeadbahaa

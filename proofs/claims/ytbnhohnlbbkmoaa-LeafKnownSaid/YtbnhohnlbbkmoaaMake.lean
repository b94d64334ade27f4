/- Contract of leaf.Make. -/
import Derived.Test.YtbnhohnlbbkmoaaLeafC
import Derived.Laws.CopyOwn
import Derived.Deep.RegionWith
namespace Go.Proofs.Ytbnhohnlbbkmoaa
open Go.RowKit
set_option linter.unusedVariables false

/-- The first twelve bytes of a frame. -/
def head12 (kind : B8) (gen n : B32) : List B8 := [0xc5#8, 0x7e#8, kind, 0#8] ++ leB gen ++ leB n
def len32 (n : Nat) : B32 := BitVec.ofNat 32 n
theorem len32_eq {n : Nat} (h : n ≤ 1000000) : (n : Int) = I32 (len32 n) := by unfold I32 len32; rw [BitVec.toNat_ofNat]; omega
/-- The sum of a frame. -/
def frameSum (kind : B8) (gen : B32) (ds : List B8) : B32 := more (sum (head12 kind gen (len32 ds.length))) ds
/-- A frame. -/
def frame (kind : B8) (gen : B32) (ds : List B8) : List B8 :=
  head12 kind gen (len32 ds.length) ++ leB (frameSum kind gen ds) ++ ds ++ List.replicate (64 * blocksN ds.length - 16 - ds.length) 0#8

theorem frame_length (kind : B8) (gen : B32) (ds : List B8) : (frame kind gen ds).length = 64 * blocksN ds.length := by
  unfold frame head12 leB blocksN
  simp
  omega

/-- The row after the first stores. -/
def L1 (kind : B8) (N : Nat) : List B8 := (((List.replicate N 0#8).set 0 0xc5#8).set 1 0x7e#8).set 2 kind
def L3 (kind : B8) (gen n : B32) (N : Nat) : List B8 := putK (putK (L1 kind N) 4 gen 4) 8 n 4

theorem L3_eq (kind : B8) (gen n : B32) (N : Nat) (hN : 16 ≤ N) : L3 kind gen n N = head12 kind gen n ++ ([0#8, 0#8, 0#8, 0#8] ++ List.replicate (N - 16) 0#8) := by
  obtain ⟨M, rfl⟩ : ∃ M, N = 16 + M := ⟨N - 16, by omega⟩
  unfold L3 L1 head12 leB
  rw [show 16 + M - 16 = M by omega, Nat.add_comm 16 M]
  rfl
theorem L3_take (kind : B8) (gen n : B32) (N : Nat) (hN : 16 ≤ N) : (L3 kind gen n N).take 12 = head12 kind gen n := by
  rw [L3_eq kind gen n N hN]
  rfl
theorem L5_eq (kind : B8) (gen n s : B32) (N : Nat) (ds : List B8) (hN : 16 + ds.length ≤ N) :
    splice (putK (L3 kind gen n N) 12 s 4) 16 ds = head12 kind gen n ++ leB s ++ ds ++ List.replicate (N - 16 - ds.length) 0#8 := by
  have h : putK (L3 kind gen n N) 12 s 4 = head12 kind gen n ++ leB s ++ List.replicate (N - 16) 0#8 := by
    rw [L3_eq kind gen n N (by omega)]
    rfl
  rw [h]
  have hl : (head12 kind gen n ++ leB s).length = 16 := rfl
  generalize head12 kind gen n ++ leB s = H at *
  unfold splice
  rw [List.take_append_of_le_length (by omega), List.take_of_length_le (by omega), List.drop_append, List.drop_of_length_le (by omega), hl, List.nil_append, List.drop_replicate]
  rw [← List.append_assoc]
  congr 2
  omega

theorem own_block {w : World} {base g N : Nat} {xs : List Value} (h : w.ownsRow base 5 1 (.slice (some ⟨g, 0, none⟩) N N) N xs) : w.heap[g]? = some (.cells xs.toArray 5 (0, 0)) := by
  rcases h.2 with ⟨h', _⟩ | ⟨g', cap', cur, h', _, hg, _, _, hs, htake⟩
  · simp at h'
  · simp only [Value.slice.injEq, Option.some.injEq, Addr.mk.injEq, and_true, true_and] at h'
    obtain ⟨rfl, rfl⟩ := h'
    rw [hg, ← htake, List.take_of_length_le (by rw [Array.length_toList, hs]; exact Nat.le_refl _)]
theorem block_own {w : World} {base g N : Nat} {xs : List Value} (h : w.heap[g]? = some (.cells xs.toArray 5 (0, 0))) (hb : base ≤ g) (hl : xs.length = N) (hN : N ≤ 1000000) : w.ownsRow base 5 1 (.slice (some ⟨g, 0, none⟩) N N) N xs :=
  ⟨by omega, .inr ⟨g, N, xs.toArray, rfl, hb, h, Nat.le_refl _, by unfold maxLen; omega, by simp [hl], by simp; exact List.take_of_length_le (by omega)⟩⟩

theorem blocks_ok (n : Nat) (w : World) (hn : n ≤ 4096) : Calls Try.prog 23 #[.int .i64 (n : Int)] w fun e w' => e = .returned (.int .i64 ((blocksN n : Nat) : Int)) ∧ w = w' := by
  have := blocks_any (n : Int) w
  rw [if_pos ⟨by omega, by omega⟩] at this
  exact this

theorem lay_int (g o n c N cap base : Nat) (L : List B8) (z : Int) (x : B32) (hz : z = I32 x) (w : World) (hown : w.ownsRow base 5 1 (.slice (some ⟨g, 0, none⟩) N cap) N (L.map v8)) (ho : o + 4 ≤ N) (hn : 4 ≤ n) (hN : n ≤ 1000000) :
    Calls Try.prog 29 #[.slice (some ⟨g, o, none⟩) n c, .int .u32 z] w fun e w' => e = .returned (.tuple #[]) ∧ w'.ownsRow base 5 1 (.slice (some ⟨g, 0, none⟩) N cap) N ((putK L o x 4).map v8) ∧ w.grownBy w' (some g) := by
  subst hz
  exact lay_any g o n c N cap base L x w hown ho hn hN

theorem frame_eq (kind : B8) (gen : B32) (ds : List B8) (n N : Nat) (hl : ds.length = n) (hN : N = 64 * blocksN n) (hNn : 16 + n ≤ N) :
    frame kind gen ds = splice (putK (L3 kind gen (len32 n) N) 12 (more (sum ((L3 kind gen (len32 n) N).take 12)) ds) 4) 16 ds := by
  rw [L5_eq _ _ _ _ _ _ (by omega), L3_take _ _ _ _ (by omega)]
  unfold frame frameSum
  rw [hl, ← hN]

theorem made {w w1 : World} {N : Nat} (hown1 : w1.ownsRow w.heap.size 5 1 (.slice (some ⟨w.heap.size, 0, none⟩) N N) N (madeCells (Value.int .u8 0).cells (N * 1)).toList) (hgr1 : w.grownBy w1 none) (hN : 64 ≤ N) :
    Below w.heap.size w w1 ∧ w1.ownsRow w.heap.size 5 1 (.slice (some ⟨w.heap.size, 0, none⟩) N N) N ((List.replicate N 0#8).map v8) ∧
      (∃ v, w1.cell? ⟨w.heap.size, 0, none⟩ = some v) ∧ (∃ v, w1.cell? ⟨w.heap.size, 1, none⟩ = some v) ∧ (∃ v, w1.cell? ⟨w.heap.size, 2, none⟩ = some v) ∧
      w1.frozen? ⟨w.heap.size, 0, none⟩ = false ∧ w1.frozen? ⟨w.heap.size, 1, none⟩ = false ∧ w1.frozen? ⟨w.heap.size, 2, none⟩ = false := by
  have e : (madeCells (Value.int .u8 0).cells (N * 1)).toList = (List.replicate N 0#8).map v8 := by
    rw [Nat.mul_one]
    show (madeCells #[Value.int .u8 0] N).toList = _
    rw [zeros_made]; simp [zeros]
  rw [e] at hown1
  have cc (j : Nat) (hj : j < 64) : ∃ v, w1.cell? ⟨w.heap.size, j, none⟩ = some v := by
    have := hown1.cellAt j (by omega)
    rw [List.getElem?_eq_getElem (by simp; omega)] at this
    exact ⟨_, this⟩
  exact ⟨(Below.refl _ _).grown hgr1 (Nat.le_refl _) (fun q hq => by cases hq), hown1, cc 0 (by omega), cc 1 (by omega), cc 2 (by omega), hown1.frozenAt 0, hown1.frozenAt 1, hown1.frozenAt 2⟩

theorem len_of {w : World} {base N : Nat} {v : Value} {xs : List Value} (h : w.ownsRow base 5 1 v N xs) : xs.length = N := by have := h.1; omega
theorem splice_map (L : List B8) (o : Nat) (ds : List B8) : (splice L o ds).map v8 = splice (L.map v8) o (ds.map v8) := by
  unfold splice; simp

theorem hsz5 : (Try.prog.info? 5).map (·.size) = some 1 := by kernel_rfl

theorem copyRun {w : World} {B g o d dc n c : Nat} {A : Option Addr} {ds : List B8} {cur : List Value} (ty : TypeId) (hblk : w.heap[g]? = some (.cells cur.toArray 5 (0, 0))) (hr : Rd w B A n ds) (hfit : o + n ≤ cur.length) (hd : n ≤ d) :
    ∃ w', (Builtin.copy_ #[22, 22] ty #[.slice (some ⟨g, o, none⟩) d dc, .slice A n c]).run Try.prog w = .ok (.int .i64 (n : Int)) w' ∧ w'.heap[g]? = some (.cells (splice cur o (ds.map v8)).toArray 5 (0, 0)) ∧ (∀ B w0, Below B w0 w → B ≤ g → Below B w0 w') := by
  have hl := hr.len
  by_cases h0 : n = 0
  · subst h0
    have hds : ds = [] := List.eq_nil_of_length_eq_zero hl
    subst hds
    refine ⟨w, run_copy_none (P := Try.prog) w 22 22 ty 5 _ A d dc 0 c Try.underlying22 hsz5 (Nat.zero_min _), ?_, fun _ _ h _ => h⟩
    rw [hblk]; simp [splice]
  · obtain ⟨ad, rfl, _, hcell⟩ := hr.2 (by omega)
    have hcl : (ds.map v8).length = n := by rw [List.length_map, hl]
    have hrun := run_copy_row (P := Try.prog) w 22 22 ty 5 g o d dc ad n c cur.toArray 5 (ds.map v8) Try.underlying22 hsz5 hblk (by rw [hcl]; exact (Nat.min_eq_left hd).symm) hcell (by rw [hcl]; simpa using hfit) (oneCell_v8 ds)
    have e : goInt ((ds.map v8).length : Int) = .int .i64 (n : Int) := by rw [hcl]; rfl
    rw [e] at hrun
    refine ⟨_, hrun, ?_, fun _ _ h hB => below_setRow h hB _⟩
    have := setRow_heap w g cur.toArray (cur.toArray.toList.take o ++ (ds.map v8 ++ cur.toArray.toList.drop (o + (ds.map v8).length))).toArray 5 _ hblk
    simpa [splice] using this

set_option maxHeartbeats 400000 in
theorem make_ok (kind : B8) (gen : B32) (A : Option Addr) (n c : Nat) (ds : List B8) (w : World) (hr : Rd w w.heap.size A n ds) (hn : n ≤ 4096) (hg : I32 gen ≤ 2147483647) :
    Calls Try.prog 21 #[.int .u8 (I8 kind), .int .i64 (I32 gen), .slice A n c] w fun e w' =>
      e = .returned (.tuple #[.slice (some ⟨w.heap.size, 0, none⟩) (64 * blocksN n) (64 * blocksN n), .int .i64 0]) ∧ w'.heap[w.heap.size]? = some (.cells ((frame kind gen ds).map v8).toArray 5 (0, 0)) ∧ Below w.heap.size w w' := by
  obtain ⟨i0, hi, hz0, hz1, hz2⟩ := info_parts info5
  have hg0 := (I32.bd gen).1
  have hk := I8.bd kind
  obtain ⟨N, hN⟩ : ∃ N, N = 64 * blocksN n := ⟨_, rfl⟩
  have hNn : 16 + n ≤ N ∧ N ≤ 4160 ∧ 64 ≤ N := by rw [hN]; unfold blocksN; omega
  have hcast : (64 : Int) * ((blocksN n : Nat) : Int) = (N : Int) := by omega
  rw [← hN]
  have hbN : blocksN n ≤ 65 := by omega
  have hN4 : ¬ N = 4 := by omega
  have hN8 : ¬ N = 8 := by omega
  have hN12 : ¬ N = 12 := by omega
  have hN16 : ¬ N = 16 := by omega
  have HN := Lib.hid hN
  have HC := Lib.hid hcast
  clear hN hcast
  go_enter Try.func21, Try.ntmps21
  go_wp2_with (first
    | (go_at_call 23; refine (blocks_ok n _ hn).mono ?_; rintro e w' ⟨rfl, rfl⟩)
    | (at_make
       refine wpList_make_full _ rfl (.tmp 23) (.tmp 23) 22 rfl w.heap.size 5 i0 (.int .u8 0) 1 Try.underlying22 hi hz0 hz1 .i64 .i64 _ _ N rfl rfl HC.out HC.out (by rw [hz2]; omega) (by unfold maxLen; omega) (Nat.le_refl _) ?_
       intro w1 hown1 hgr1
       obtain ⟨hb1, hown2, ⟨v0, hc0⟩, ⟨v1, hc1⟩, ⟨v2, hc2⟩, hf0, hf1, hf2⟩ := made hown1 hgr1 (by omega)
       clear hown1 hgr1))
  have HO := Lib.hid hown2
  clear hown2 hc0 hc1 hc2 hf0 hf1 hf2
  have o1 : ∀ W : World, W = ((w1.setCell ⟨w.heap.size, 0, none⟩ (.int .u8 197)).setCell ⟨w.heap.size, 1, none⟩ (.int .u8 126)).setCell ⟨w.heap.size, 2, none⟩ (.int .u8 (I8 kind)) →
      W.ownsRow w.heap.size 5 1 (.slice (some ⟨w.heap.size, 0, none⟩) N N) N ((L1 kind N).map v8) ∧ Below w.heap.size w W := by
    rintro _ rfl
    unfold L1
    rw [List.map_set, List.map_set, List.map_set]
    exact ⟨(((HO.out.stored 0 _).1.stored 1 _).1.stored 2 _).1, ((hb1.setCell (Nat.le_refl _) _).setCell (Nat.le_refl _) _).setCell (Nat.le_refl _) _⟩
  obtain ⟨p1, p2⟩ := o1 _ rfl
  have P1 := Lib.hid p1
  have P2 := Lib.hid p2
  clear o1 p1 p2 HO hb1
  refine (lay_any w.heap.size 4 _ _ N N w.heap.size (L1 kind N) gen _ P1.out (by omega) (by omega) (by omega)).mono ?_
  rintro e w2 ⟨rfl, q1, q2⟩
  have Q1 := Lib.hid q1
  have Q2 := Lib.hid (P2.out.grown q2 P2.out.size (fun q hq => by injection hq with hq; omega))
  clear q1 q2 P1 P2
  go_wp2_with fail
  refine (lay_int w.heap.size 8 _ _ N N w.heap.size _ _ (len32 n) (len32_eq (by omega)) _ Q1.out (by omega) (by omega) (by omega)).mono ?_
  rintro e w3 ⟨rfl, q1, q2⟩
  have R1 := Lib.hid q1
  have R2 := Lib.hid (Q2.out.grown q2 Q2.out.size (fun q hq => by injection hq with hq; omega))
  clear q1 q2 Q1 Q2
  go_wp2_with fail
  have r1 : w3.ownsRow w.heap.size 5 1 (.slice (some ⟨w.heap.size, 0, none⟩) N N) N ((L3 kind gen (len32 n) N).map v8) := R1.out
  have S1 := Lib.hid (Rd.of_own r1).drew
  have S2 := Lib.hid (hr.below R2.out).drew
  have S3 := Lib.hid r1.drew
  have hn6 : n ≤ 1000000 := by omega
  have hN12' : 12 ≤ N := by omega
  have hNN : N ≤ N := Nat.le_refl _
  have a1 : 12 + 4 ≤ N := by omega
  have a2 : 4 ≤ N - 12 := by omega
  have a3 : N - 12 ≤ 1000000 := by omega
  clear r1 R1
  go_region_with (first
    | (go_at_call 30; ((with_reducible refine (sumHead_any _ _ _ _ _ _ _ _ _ _ _ S1.out S2.out hN12' hNN hn6).mono ?_)); rintro e w' ⟨rfl, rfl⟩)
    | (go_at_call 29; ((with_reducible refine (lay_any _ 12 _ _ N N w.heap.size _ _ _ S3.out a1 a2 a3).mono ?_)); rintro e w4 ⟨rfl, q1, q2⟩; have T1 := Lib.hid q1; have T2 := Lib.hid q2; clear q1 q2))
  all_goals
    have hl4 : (putK (L3 kind gen (len32 n) N) 12 (more (sum ((L3 kind gen (len32 n) N).take 12)) ds) 4).length = N := by
      have := len_of T1.out
      rwa [List.length_map] at this
    have HB4 := Lib.hid (own_block T1.out)
    have U2 := Lib.hid (R2.out.drew.grown T2.out R2.out.size (fun q hq => by injection hq with hq; omega))
    have hr4 := Lib.hid (hr.below U2.out)
    have hdl := Lib.hid hr.len
    clear T1 T2 S1 S2 S3
    go_wp2_with fail
    obtain ⟨w5, hrun, hg5, hb5⟩ := copyRun (o := 16) (d := N - 16) (dc := N - 16) (c := c) 3 HB4.out hr4.out (by rw [List.length_map, hl4]; omega) (by omega)
    rw [hrun]
    have HG5 := Lib.hid hg5
    have HB5 := hb5 _ _ U2.out (Nat.le_refl _)
    clear hrun hg5 hb5
    go_wp2_with fail
    go_ret2
    refine ⟨rfl, ?_, HB5⟩
    rw [frame_eq kind gen ds n N hdl.out HN.out (by omega), splice_map]
    exact HG5.out

end Go.Proofs.Ytbnhohnlbbkmoaa

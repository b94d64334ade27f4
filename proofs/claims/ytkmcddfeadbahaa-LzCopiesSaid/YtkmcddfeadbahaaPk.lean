/- Contract of lz.Pack. -/
import Derived.Test.YtkmcddfeadbahaaNoteB
import Derived.Test.YtkmcddfeadbahaaWrB
import Derived.Test.YtkmcddfeadbahaaAlk
import Derived.Test.YtkmcddfeadbahaaCln
import Derived.Test.YtkmcddfeadbahaaLzQ
import Derived.Deep.CutRange
namespace Go.Proofs.Ytkmcddfeadbahaa
open Go.RowKit
set_option linter.unusedVariables false

theorem info3 : (Try.prog.info? 3).map (fun i => (i.zero, i.size, i.bytes)) = some (some (.int .i64 0), 1, 8) := by kernel_rfl
/-- A row of noughts, closed to the walk's simp. -/
def zeroI (n : Nat) : Array Value := ((List.replicate n 0).map vI).toArray
theorem zeroI_made (n : Nat) : madeCells #[.int .i64 0] n = zeroI n := by
  apply Array.ext
  · simp [madeCells, zeroI]
  · intro i h1 h2
    simp only [madeCells, zeroI, Array.getElem_map, List.getElem_toArray, List.getElem_map, List.getElem_replicate]
    show #[Value.int .i64 0][_ % 1]! = _
    rw [Nat.mod_one]
    rfl
theorem make_ints (n : Nat) (hn : n ≤ 5000) (w : World) : (Instr.makeSlice 48 (.int .i64 (n : Int)) (.int .i64 (n : Int))).run Try.prog w = .ok (.slice (some ⟨w.heap.size, 0, none⟩) n n) (w.alloc (.cells (zeroI n) 3)) := by
  obtain ⟨i0, hi, hz, h1, h2⟩ := info_parts info3
  have := run_make_rowN (P := Try.prog) 48 3 i0 _ Try.underlying48 hi hz .i64 .i64 n n (Nat.le_refl _) (by rw [h2]; omega) (by omega) w
  rw [h1] at this
  rw [this, ← zeroI_made]
  simp [Value.cells]

/-- The world ahead of the loop. -/
def W6 (w : World) (A : Option Addr) (n c : Nat) : World :=
  (((((w.alloc (.cells #[.slice A n c] 22)).alloc (.cells #[.slice A n c, .slice none 0 0] 46)).alloc (.map #[] 0)).alloc (.cells #[.map (some (w.heap.size + 1 + 1))] 47)).alloc (.cells (zeroI n) 3)).alloc
    (.cells #[.slice (some ⟨w.heap.size + 1 + 1 + 1 + 1, 0, none⟩) n n] 48)

theorem pack_start (A : Option Addr) (c : Nat) (bs : List B8) (w : World) (hr : Rd w w.heap.size A bs.length bs) (hc : bs.length ≤ c) :
    Tabs (W6 w A bs.length c) w.heap.size (w.heap.size + 1 + 1 + 1) (w.heap.size + 1 + 1 + 1 + 1 + 1) (w.heap.size + 1 + 1) (w.heap.size + 1 + 1 + 1 + 1) A c 0 bs (start bs).tab ∧
    Wtr (W6 w A bs.length c) (w.heap.size + 1) (w.heap.size + 1 + 1 + 1 + 1 + 1 + 1) (.slice A bs.length c) (.slice none 0 0) [] ∧ Below w.heap.size w (W6 w A bs.length c) := by
  unfold W6
  generalize hn : bs.length = n at *
  obtain ⟨w1, hw1⟩ : ∃ w1, w1 = w.alloc (.cells #[.slice A n c] 22) := ⟨_, rfl⟩
  have s1 : w1.heap.size = w.heap.size + 1 := by rw [hw1]; simp
  have b1 : Blk w1 w.heap.size 22 #[.slice A n c] := by rw [hw1]; exact Blk.new w 22 _
  have B1 : Below w.heap.size w w1 := by rw [hw1]; exact (Below.refl _ _).alloc (Nat.le_refl _) _
  rw [← hw1]
  obtain ⟨w2, hw2⟩ : ∃ w2, w2 = w1.alloc (.cells #[.slice A n c, .slice none 0 0] 46) := ⟨_, rfl⟩
  have s2 : w2.heap.size = w.heap.size + 1 + 1 := by rw [hw2]; simp [s1]
  have b2 : Blk w2 (w.heap.size + 1) 46 #[.slice A n c, .slice none 0 0] := by rw [hw2, ← s1]; exact Blk.new w1 46 _
  have B2 : Below w.heap.size w w2 := by rw [hw2]; exact B1.alloc (by omega) _
  have b1 : Blk w2 w.heap.size 22 #[.slice A n c] := by rw [hw2]; exact b1.alloc _
  rw [← hw2]
  obtain ⟨w3, hw3⟩ : ∃ w3, w3 = w2.alloc (.map #[] 0) := ⟨_, rfl⟩
  have s3 : w3.heap.size = w.heap.size + 1 + 1 + 1 := by rw [hw3]; simp [s2]
  have b3 : Tie w3 (w.heap.size + 1 + 1) 0 (fun _ => 0) := by rw [hw3, ← s2]; exact Tie.made w2
  have B3 : Below w.heap.size w w3 := by rw [hw3]; exact B2.alloc (by omega) _
  have b1 : Blk w3 w.heap.size 22 #[.slice A n c] := by rw [hw3]; exact b1.alloc _
  have b2 : Blk w3 (w.heap.size + 1) 46 #[.slice A n c, .slice none 0 0] := by rw [hw3]; exact b2.alloc _
  rw [← hw3]
  obtain ⟨w4, hw4⟩ : ∃ w4, w4 = w3.alloc (.cells #[.map (some (w.heap.size + 1 + 1))] 47) := ⟨_, rfl⟩
  have s4 : w4.heap.size = w.heap.size + 1 + 1 + 1 + 1 := by rw [hw4]; simp [s3]
  have b4 : Blk w4 (w.heap.size + 1 + 1 + 1) 47 #[.map (some (w.heap.size + 1 + 1))] := by rw [hw4, ← s3]; exact Blk.new w3 47 _
  have B4 : Below w.heap.size w w4 := by rw [hw4]; exact B3.alloc (by omega) _
  have b1 : Blk w4 w.heap.size 22 #[.slice A n c] := by rw [hw4]; exact b1.alloc _
  have b2 : Blk w4 (w.heap.size + 1) 46 #[.slice A n c, .slice none 0 0] := by rw [hw4]; exact b2.alloc _
  have b3 : Tie w4 (w.heap.size + 1 + 1) 0 (fun _ => 0) := by rw [hw4]; exact b3.kept (Below.heap_alloc _ _ _ (by omega))
  rw [← hw4]
  obtain ⟨w5, hw5⟩ : ∃ w5, w5 = w4.alloc (.cells (zeroI n) 3) := ⟨_, rfl⟩
  have s5 : w5.heap.size = w.heap.size + 1 + 1 + 1 + 1 + 1 := by rw [hw5]; simp [s4]
  have b5 : Blk w5 (w.heap.size + 1 + 1 + 1 + 1) 3 (zeroI n) := by rw [hw5, ← s4]; exact Blk.new w4 3 _
  have B5 : Below w.heap.size w w5 := by rw [hw5]; exact B4.alloc (by omega) _
  have b1 : Blk w5 w.heap.size 22 #[.slice A n c] := by rw [hw5]; exact b1.alloc _
  have b2 : Blk w5 (w.heap.size + 1) 46 #[.slice A n c, .slice none 0 0] := by rw [hw5]; exact b2.alloc _
  have b3 : Tie w5 (w.heap.size + 1 + 1) 0 (fun _ => 0) := by rw [hw5]; exact b3.kept (Below.heap_alloc _ _ _ (by omega))
  have b4 : Blk w5 (w.heap.size + 1 + 1 + 1) 47 #[.map (some (w.heap.size + 1 + 1))] := by rw [hw5]; exact b4.alloc _
  rw [← hw5]
  have b6 : Blk (w5.alloc (.cells #[.slice (some ⟨w.heap.size + 1 + 1 + 1 + 1, 0, none⟩) n n] 48)) (w.heap.size + 1 + 1 + 1 + 1 + 1) 48 #[.slice (some ⟨w.heap.size + 1 + 1 + 1 + 1, 0, none⟩) n n] := by rw [← s5]; exact Blk.new w5 48 _
  have B6 := B5.alloc (by omega) (.cells #[.slice (some ⟨w.heap.size + 1 + 1 + 1 + 1, 0, none⟩) n n] 48)
  subst hn
  refine ⟨⟨b1.alloc _, b4.alloc _, b6, b5.alloc _, by simp [start], b3.kept (Below.heap_alloc _ _ _ (by omega)), hr.below B6, hc, by omega⟩, ⟨b2.alloc _, World.ownsRow_nil _ _ _ _, by omega, by simp [s5]⟩, B6⟩

theorem pack_much (A : Option Addr) (n c : Nat) (w : World) (hn : 4096 < n) :
    Calls Try.prog 13 #[.slice A n c] w fun e w' => e = .returned (.slice none 0 0) ∧ Below w.heap.size w w' := by
  have hI : (4096 : Int) < (n : Int) := by omega
  go_enter Try.func13, Try.ntmps13
  go_wp2_with fail
  go_ret
  exact ⟨rfl, (Below.refl _ _).alloc (Nat.le_refl _) _⟩

theorem Tabs.keep {w w' : World} {gb ga gf M R : Nat} {A : Option Addr} {c cnt : Nat} {bs : List B8} {t : Tab} (h : Tabs w gb ga gf M R A c cnt bs t)
    (hk : ∀ k, (k = ga ∨ k = gf ∨ k = M ∨ k = R ∨ k ≤ gb) → w'.heap[k]? = w.heap[k]?) : Tabs w' gb ga gf M R A c cnt bs t where
  b1 := (hk gb (by omega)).trans h.b1
  b2 := (hk ga (by omega)).trans h.b2
  b3 := (hk gf (by omega)).trans h.b3
  row := (hk R (by omega)).trans h.row
  len := h.len
  tie := h.tie.kept (hk M (by omega))
  rd := h.rd.keep fun q hq => World.cell?_of_block (hk q.block (by omega))
  le := h.le
  ord := h.ord
theorem Tabs.drewN {w : World} {gb ga gf M R : Nat} {A : Option Addr} {c cnt : Nat} {bs : List B8} {t : Tab} (h : Tabs w gb ga gf M R A c cnt bs t) (n : Nat) : Tabs (w.drewN n) gb ga gf M R A c cnt bs t := h.keep fun _ _ => rfl
theorem Wtr.drewN {w : World} {p B : Nat} {vb vo : Value} {out : List B8} (h : Wtr w p B vb vo out) (n : Nat) : Wtr (w.drewN n) p B vb vo out := ⟨h.blk, h.own, h.low, h.high⟩
theorem Wtr.but2 {w w' : World} {p B M R : Nat} {vb vo : Value} {out : List B8} (h : Wtr w p B vb vo out) (hb : But2 M R w w') (h1 : p ≠ M) (h2 : p ≠ R) (h3 : M < B) (h4 : R < B) : Wtr w' p B vb vo out := by
  refine ⟨(hb.block p h.blk.lt h1 h2).trans h.blk, ?_, h.low, Nat.le_trans h.high hb.size⟩
  rcases h.own with ⟨e, hh⟩
  refine ⟨e, ?_⟩
  rcases hh with hh | ⟨g, cap, cur, e1, e2, e3, e4⟩
  · exact .inl hh
  · exact .inr ⟨g, cap, cur, e1, e2, (hb.block g (by
      rcases Nat.lt_or_ge g w.heap.size with hlt | hge
      · exact hlt
      · rw [Array.getElem?_eq_none hge] at e3; cases e3) (by omega) (by omega)).trans e3, e4⟩
theorem below_but2 {g M R : Nat} {a b c : World} (h : Below g a b) (k : But2 M R b c) (hg : g ≤ b.heap.size) (h1 : g ≤ M) (h2 : g ≤ R) : Below g a c :=
  ⟨k.os.trans h.os, k.tape.trans h.tape, k.output.trans h.output, Nat.le_trans h.size k.size, fun i hi => (k.block i (by omega) (by omega) (by omega)).trans (h.block i hi)⟩
theorem below_far {g p B : Nat} {a b c : World} (h : Below g a b) (k : Far p B b c) (h1 : g ≤ p) (h2 : g ≤ B) : Below g a c :=
  ⟨k.os.trans h.os, k.tape.trans h.tape, k.output.trans h.output, Nat.le_trans h.size k.size, fun i hi => (k.block i (by omega) (by omega)).trans (h.block i hi)⟩
theorem Tabs.far {w w' : World} {gb ga gf M R p B : Nat} {A : Option Addr} {c cnt : Nat} {bs : List B8} {t : Tab} (h : Tabs w gb ga gf M R A c cnt bs t) (hF : Far p B w w') (ho : gb < p ∧ p ≠ ga ∧ p ≠ gf ∧ p ≠ M ∧ p ≠ R ∧ ga < B ∧ gf < B ∧ M < B ∧ R < B) : Tabs w' gb ga gf M R A c cnt bs t :=
  h.keep fun k hk => hF.block k (by have := h.ord; omega) (by omega)

set_option maxRecDepth 100000 in
set_option maxHeartbeats 4000000 in
theorem pack_in (A : Option Addr) (n c : Nat) (bs : List B8) (w : World) (hr : Rd w w.heap.size A n bs) (hc : n ≤ c) (hn : n ≤ 4096) :
    Calls Try.prog 13 #[.slice A n c] w fun e w' => ∃ A' c', e = .returned (.slice A' (pack bs).length c') ∧ Rd w' w'.heap.size A' (pack bs).length (pack bs) ∧ Below w.heap.size w w' ∧ (pack bs).length ≤ c' := by
  have hmf : ∀ (fn : Fn) (first cap : Array Value) (w : World), (Instr.makeFunc fn first cap).run Try.prog w = .ok (.func fn first cap) w := fun _ _ _ _ => rfl
  have hmm := @run_makeMap Try.prog
  obtain ⟨i0, hi0, hz0, hz1, hz2⟩ := info_parts info5
  have hI : ¬ (4096 : Int) < (n : Int) := by omega
  have hmk := make_ints n (by omega)
  obtain ⟨U, hU⟩ : ∃ U, U = pack bs := ⟨_, rfl⟩
  rw [← hU]
  have HU := Lib.hid hU
  clear hU
  go_enter Try.func13, Try.ntmps13
  go_wp2_with fail
  obtain rfl := hr.len
  have st := pack_start A c bs w hr hc
  have hW : ∀ W, W = W6 w A bs.length c → True := fun _ _ => trivial
  show Code.wp _ _ _ _ (W6 w A bs.length c)
  obtain ⟨T0, W0, B0⟩ := st
  generalize W6 w A bs.length c = w6 at *
  have hg0 : Hid (w.heap.size + 1 + 1 + 1 + 1 + 1 + 1 ≤ w6.heap.size) := W0.high
  generalize hp : w.heap.size + 1 = p at *
  generalize hM : p + 1 = M at *
  generalize hga : M + 1 = ga at *
  generalize hR : ga + 1 = R at *
  generalize hgf : R + 1 = gf at *
  generalize hB : gf + 1 = B at *
  generalize hg : w.heap.size = g at *
  have HP := Lib.hid hp
  have HM := Lib.hid hM
  have HGA := Lib.hid hga
  have HRR := Lib.hid hR
  have HGF := Lib.hid hgf
  have HBB := Lib.hid hB
  have HG := Lib.hid hg
  have T0 := Lib.hid T0
  have W0 := Lib.hid W0
  have B0 := Lib.hid B0
  clear hp hM hga hR hgf hB hg hmk hW hr
  go_loopw [6, 8] (fun from_ i wr => ∃ (s : St) (vo : Value) (cnt f : Nat), from_ = .int .i64 (s.from_ : Int) ∧ i = .int .i64 (s.i : Int) ∧ cnt ≤ s.i ∧ Tabs wr g ga gf M R A c cnt bs s.tab ∧ Wtr wr p B (.slice A bs.length c) vo s.out ∧ StOk bs s ∧ Below g w wr ∧ packF bs f s = U ∧ bs.length - s.i < f) (fun _ i _ => bs.length - (intOf i).toNat)
  case atStart => exact ⟨start bs, .slice none 0 0, 0, bs.length + 1, rfl, rfl, Nat.zero_le _, T0.out, W0.out, start_ok bs, B0.out, HU.out.symm, by show bs.length - 0 < _; omega⟩
  case round =>
    obtain ⟨s, vo, cnt, f, rfl, rfl, hcnt, hT, hW, hok, hBl, hpk, hf⟩ := hrel
    obtain ⟨tab, i, fr, out⟩ := s
    simp only [] at *
    have HT := Lib.hid hT
    have HW := Lib.hid hW
    have HOK := Lib.hid hok
    have HBL := Lib.hid hBl
    have HPK := Lib.hid hpk
    have HF := Lib.hid hf
    have x1 : wr.cell? ⟨g, 0, none⟩ = some (.slice A bs.length c) := by rw [hT.b1.cell]; rfl
    have x2 : wr.cell? ⟨ga, 0, none⟩ = some (.map (some M)) := by rw [hT.b2.cell]; rfl
    have x3 : wr.cell? ⟨gf, 0, none⟩ = some (.slice (some ⟨R, 0, none⟩) bs.length bs.length) := by rw [hT.b3.cell]; rfl
    by_cases hi : i + 12 ≤ bs.length
    · obtain ⟨A2, hsl, hr2⟩ := slice_mid (P := Try.prog) 22 5 i0 Try.underlying22 hi0 hz1 hT.rd i 4 (by omega) hT.le
      have hsl : ∀ W : World, (Instr.slice 22 (.slice A bs.length c) (some (.int .i64 (i : Int))) (some (.int .i64 ((i : Int) + 4))) none).run Try.prog W = .ok (.slice A2 4 (c - i)) W := hsl
      obtain ⟨bq, oq, rfl, q0, q1, q2, q3, hbq⟩ := rd_four hr2 (take4 (by omega))
      have hat : ∀ W : World, (Instr.arrayAt 49 (.slice (some ⟨bq, oq, none⟩) 4 (c - i))).run Try.prog W = .ok (.pointer (some ⟨bq, oq, none⟩)) W := fun W => by
        simp [Instr.arrayAt, run_underlying Try.underlying49]
      have hiI : (i : Int) + 12 ≤ (bs.length : Int) := by omega
      have lk : ∀ n : Nat, (Instr.lookup 47 (.map (some M)) (keyV (bt bs i) (bt bs (i + 1)) (bt bs (i + 2)) (bt bs (i + 3))) false).run Try.prog (wr.drewN n) = .ok (.int .i64 ((tab.ahead (four bs i) : Nat) : Int)) (wr.drewN n) := fun n => (show Tie (wr.drewN n) M cnt tab.ahead from hT.tie).look _ _ _ _
      unfold keyV at lk
      have HI := Lib.hid hi
      clear hr2 hT hW hok hBl hpk hf hi
      obtain ⟨k0, hk0⟩ : ∃ k0, k0 = tab.ahead (four bs i) := ⟨_, rfl⟩
      rw [← hk0] at lk
      have HK0 := Lib.hid hk0
      clear hk0
      go_wp2_with fail
      go_quiet (fail)
      clear lk q0 q1 q2 q3 hsl hat
      go_upto_region 12 with fail
      have X1 := Lib.hid x1
      have X2 := Lib.hid x2
      have X3 := Lib.hid x3
      have hob := HOK.out.tab
      have hile : k0 ≤ i := by rw [HK0.out]; exact hob.2.1 _
      have hbest : Hid (chain bs tab.before i 32 k0 0 0 = best bs tab i) := by show _ = _; rw [HK0.out]; rfl
      have HOB := Lib.hid hob
      clear x1 x2 x3 hob
      go_cut [38] from 24 to 37 (fun r wx => r = .int .i64 0 ∧ wr.drewN nq = wx)
      case first =>
        go_wp2_with fail
        go_meet
        exact ⟨rfl, rfl⟩
      case rest =>
      obtain ⟨rfl, rfl⟩ := hcut
      apply_assumption
      go_cut [9, 10] from 24 to 88 (fun a m wx => a = .int .i64 (((best bs tab i).1 : Nat) : Int) ∧ m = .int .i64 (((best bs tab i).2 : Nat) : Int) ∧ ∃ nq, wx = wr.drewN nq)
      case first =>
        go_wp2_with fail
        go_loopw [9, 10, 11, 38] (fun a m k r wx => ∃ (za zm zk zr nq : Nat), a = .int .i64 (za : Int) ∧ m = .int .i64 (zm : Int) ∧ k = .int .i64 (zk : Int) ∧ r = .int .i64 (zr : Int) ∧ zr ≤ 32 ∧ zk ≤ i ∧ Match bs i (za, zm) ∧ chain bs tab.before i (32 - zr) zk za zm = best bs tab i ∧ wx = wr.drewN nq) (fun _ _ _ r _ => 32 - (intOf r).toNat)
        case atStart => exact ⟨0, 0, k0, 0, nq, rfl, rfl, rfl, rfl, Nat.zero_le _, hile, fun h => absurd h (Nat.lt_irrefl 0), hbest.out, rfl⟩
        case round =>
          obtain ⟨za, zm, zk, zr, nq1, rfl, rfl, rfl, rfl, hzr, hzk, hmt, hch, rfl⟩ := hrel
          by_cases h32 : zr < 32
          · have hrI : (zr : Int) < 32 := by omega
            by_cases hk0 : zk = 0
            · subst hk0
              rw [show 32 - zr = (31 - zr) + 1 by omega, chain, if_pos rfl] at hch
              have HCH := Lib.hid hch
              clear hch hmt
              go_wp2_with fail
              go_meet
              exact ⟨by rw [← HCH.out], by rw [← HCH.out], nq1, rfl⟩
            · obtain ⟨K1, hK1⟩ : ∃ K1, K1 = zk - 1 := ⟨_, rfl⟩
              obtain ⟨E, hE⟩ : ∃ E, E = bs.length - 5 := ⟨_, rfl⟩
              obtain ⟨al, hal⟩ : ∃ al, al = alike bs K1 i E := ⟨_, rfl⟩
              have hi12 := HI.out
              have hspec := alike_spec bs K1 i E (by omega)
              rw [← hal] at hspec
              have hkI : (zk : Int) - 1 = (K1 : Int) := by omega
              have hEI : (bs.length : Int) - 5 = (E : Int) := by omega
              have hk0I : ((zk : Int) == 0) = false := by rw [beq_eq_false_iff_ne]; omega
              have AL := Lib.hid (alike_any A bs.length c bs g (wr.drewN nq1) (HT.out.rd.drewN nq1) (by omega) K1 i E (K1 : Int) (i : Int) (E : Int) rfl rfl rfl (by omega) (by omega) (by omega))
              rw [← hal] at AL
              rw [show 32 - zr = (31 - zr) + 1 by omega, chain, if_neg hk0, ← hK1, ← hE, ← hal] at hch
              have hK1l : K1 < bs.length := by omega
              have hK1I : (K1 : Int) < (bs.length : Int) := by omega
              have e0 : wr.cell? ⟨R, K1, none⟩ = some (.int .i64 ((tab.before.getD K1 0 : Nat) : Int)) := by
                rw [HT.out.row.cell]
                have := HT.out.len
                rw [List.getElem?_toArray, List.getElem?_map, List.getElem?_eq_getElem (by omega), List.getD_eq_getElem?_getD, List.getElem?_eq_getElem (by omega)]
                rfl
              have hnx : tab.before.getD K1 0 ≤ i := HOB.out.2.2 K1
              generalize tab.before.getD K1 0 = nx at *
              have x1 := X1.out
              have x3 := X3.out
              have HSP := Lib.hid hspec
              have HMT := Lib.hid hmt
              have HKE : Hid (K1 = zk - 1 ∧ E = bs.length - 5) := ⟨hK1, hE⟩
              have halb : al ≤ 4096 := by omega
              by_cases hlt : zm < al
              · rw [if_pos hlt] at hch
                have HCH := Lib.hid hch
                have hltI : (zm : Int) < (al : Int) := by omega
                clear hch hspec hmt hK1 hE hal hi12
                go_wp2_with (go_at_call 19; with_reducible refine AL.out.mono ?_; rintro e w' ⟨rfl, nq2, rfl⟩)
                refine ⟨⟨K1, al, nx, zr + 1, nq1 + nq2, rfl, rfl, rfl, rfl, h32, hnx, fun _ => ?_, by rw [show 32 - (zr + 1) = 31 - zr by omega]; exact HCH.out, rfl⟩, ?_⟩
                · obtain ⟨q1, q2⟩ := HSP.out
                  obtain ⟨e1, e2⟩ := HKE.out
                  exact ⟨by show K1 < i; omega, by show i + al ≤ _; omega, q2⟩
                · show 32 - ((zr + 1 : Nat) : Int).toNat < 32 - ((zr : Nat) : Int).toNat
                  rw [Int.toNat_natCast, Int.toNat_natCast]
                  omega
              · rw [if_neg hlt] at hch
                have HCH := Lib.hid hch
                have hltI : ¬ (zm : Int) < (al : Int) := by omega
                clear hch hspec hmt hK1 hE hal hi12
                go_wp2_with (go_at_call 19; with_reducible refine AL.out.mono ?_; rintro e w' ⟨rfl, nq2, rfl⟩)
                refine ⟨⟨za, zm, nx, zr + 1, nq1 + nq2, rfl, rfl, rfl, rfl, h32, hnx, HMT.out, by rw [show 32 - (zr + 1) = 31 - zr by omega]; exact HCH.out, rfl⟩, ?_⟩
                show 32 - ((zr + 1 : Nat) : Int).toNat < 32 - ((zr : Nat) : Int).toNat
                rw [Int.toNat_natCast, Int.toNat_natCast]
                omega
          · obtain rfl : zr = 32 := by omega
            rw [Nat.sub_self, chain] at hch
            have HCH := Lib.hid hch
            clear hch hmt
            go_wp2_with fail
            go_meet
            exact ⟨by rw [← HCH.out], by rw [← HCH.out], nq1, rfl⟩
      case rest =>
      obtain ⟨rfl, rfl, nq2, rfl⟩ := hcut
      have hbm := best_match HOB.out HI.out
      have hsk := step_ok HOK.out HI.out hn
      have hpk2 : ∃ f2, packF bs f2 (stepP bs ⟨tab, i, fr, out⟩) = U ∧ bs.length - (stepP bs ⟨tab, i, fr, out⟩).i < f2 := by
        have h1 := HPK.out
        have h2 := HF.out
        have h3 := hsk.2
        obtain ⟨f2, rfl⟩ : ∃ f2, f = f2 + 1 := ⟨f - 1, by omega⟩
        rw [packF, if_pos HI.out] at h1
        exact ⟨f2, h1, by simp only [] at h3; omega⟩
      have HSK := Lib.hid hsk
      have HPK2 := Lib.hid hpk2
      clear hsk hpk2
      obtain ⟨ba, hba⟩ : ∃ ba, ba = (best bs tab i).1 := ⟨_, rfl⟩
      obtain ⟨m, hm⟩ : ∃ m, m = (best bs tab i).2 := ⟨_, rfl⟩
      rw [← hba, ← hm]
      have hi12 := HI.out
      have HT2 := Lib.hid (HT.out.drewN nq2)
      have HW2 := Lib.hid (HW.out.drewN nq2)
      by_cases h4 : m < 4
      · have hmI : (m : Int) < 4 := by omega
        have hst : stepP bs ⟨tab, i, fr, out⟩ = { tab := note bs tab i, i := i + 1, from_ := fr, out := out } := by
          unfold stepP
          simp only []
          rw [← hm, if_pos h4]
        have HST := Lib.hid hst
        have NT := Lib.hid (note_any g ga gf M R A c cnt bs tab i _ HT2.out (by omega) hn (by omega))
        clear hst hba hm hbm h4 hi12
        go_wp2_with (go_at_call 18; with_reducible refine NT.out.mono ?_; rintro e w5 ⟨rfl, hT5, hB5⟩)
        have e1 := HP.out
        have e2 := HM.out
        have e3 := HGA.out
        have e4 := HRR.out
        have e5 := HGF.out
        have e6 := HBB.out
        have e7 := HT.out.ord
        have e8 := HT.out.b1.lt
        obtain ⟨f2, p1, p2⟩ := HPK2.out
        have hok2 := HSK.out.1
        rw [HST.out] at p1 p2 hok2
        refine ⟨⟨⟨note bs tab i, i + 1, fr, out⟩, vo, cnt + 1, f2, rfl, rfl, Nat.succ_le_succ hcnt, hT5, HW2.out.but2 hB5 (by omega) (by omega) (by omega) (by omega), hok2, below_but2 (below_drewN HBL.out nq2) hB5 (by show g ≤ wr.heap.size; omega) (by omega) (by omega), p1, p2⟩, ?_⟩
        show bs.length - ((i + 1 : Nat) : Int).toNat < bs.length - ((i : Nat) : Int).toNat
        have := HI.out
        rw [Int.toNat_natCast, Int.toNat_natCast]
        omega
      · obtain ⟨k, hk⟩ : ∃ k, m = k + 4 := ⟨m - 4, by omega⟩
        have hmt : ba < i ∧ i + m ≤ bs.length - 5 := by
          have := hbm (by rw [← hm]; omega)
          rw [← hba, ← hm] at this
          exact ⟨this.1, this.2.1⟩
        obtain ⟨d, hd⟩ : ∃ d, d = i - ba := ⟨_, rfl⟩
        have hle := HOK.out.le
        simp only [] at hle
        obtain ⟨l, hl⟩ : ∃ l, l = i - fr := ⟨_, rfl⟩
        obtain ⟨lits, hlits⟩ : ∃ lits, lits = (bs.take i).drop fr := ⟨_, rfl⟩
        have hst : stepP bs ⟨tab, i, fr, out⟩ = { tab := notes bs tab i m, i := i + m, from_ := i + m, out := out ++ seqM lits d m } := by
          unfold stepP
          simp only []
          rw [← hm, if_neg h4, ← hba, ← hd, ← hlits]
        obtain ⟨A3, hsl3, hr3⟩ := slice_mid (P := Try.prog) 22 5 i0 Try.underlying22 hi0 hz1 HT2.out.rd fr l (by omega) HT.out.le
        rw [show ((fr : Int) + (l : Int)) = (i : Int) by omega] at hsl3
        have hlt2 : (bs.drop fr).take l = lits := by rw [hlits, hl, List.drop_take]
        rw [hlt2] at hr3
        have hgp : g ≤ p := by have := HP.out; omega
        have hout : out.length ≤ 5000 := by have := HOK.out.size; simp only [] at this; have := HOK.out.len; simp only [] at this; omega
        have SQ := Lib.hid (seq_match p B (.slice A bs.length c) vo out A3 l (c - fr) lits d k (d : Int) (m : Int) (by omega) rfl (by omega) (by omega) _ HW2.out (hr3.more hgp) (by omega) hout)
        have hdI : (i : Int) - (ba : Int) = (d : Int) := by omega
        have hmI : ¬ (m : Int) < 4 := by omega
        have x1 := X1.out
        have HST := Lib.hid hst
        have HK := Lib.hid hk
        have HMT := Lib.hid hmt
        clear hst hba hm hbm h4 hi12 hk hmt hd hl hlits hlt2 hr3 hle
        go_wp2_with fail
        refine SQ.out.mono ?_
        rintro e w5 ⟨rfl, v5, hW5, hF5⟩
        have e1 := HP.out
        have e2 := HM.out
        have e3 := HGA.out
        have e4 := HRR.out
        have e5 := HGF.out
        have e6 := HBB.out
        have e7 := HT.out.b1.lt
        have HT5 := Lib.hid (HT2.out.far hF5 (by omega))
        have HB5 := Lib.hid (below_far (below_drewN HBL.out nq2) hF5 (by omega) (by omega))
        have HW5 := Lib.hid hW5
        have hMR : Hid (p ≠ M ∧ p ≠ R ∧ M < B ∧ R < B ∧ g ≤ M ∧ g ≤ R) := by show _ ∧ _; omega
        rw [← HK.out] at HW5
        clear e1 e2 e3 e4 e5 e6 e7 hW5 hF5 hsl3 x1 hdI
        go_wp2_with fail
        go_loopw [8, 80] (fun a r wx => ∃ j : Nat, a = .int .i64 ((i : Int) + (j : Int)) ∧ r = .int .i64 (j : Int) ∧ j ≤ m ∧ Tabs wx g ga gf M R A c (cnt + j) bs (notes bs tab i j) ∧ Wtr wx p B (.slice A bs.length c) v5 (out ++ seqM lits d m) ∧ Below g w wx) (fun _ r _ => m - (intOf r).toNat)
        case atStart => exact ⟨0, by simp, rfl, Nat.zero_le _, HT5.out, HW5.out, HB5.out⟩
        case round =>
          obtain ⟨j, rfl, rfl, hj, hT, hW, hBl⟩ := hrel
          by_cases hjm : j < m
          · have hjI : (j : Int) < (m : Int) := by omega
            have hmt := HMT.out
            have NT := Lib.hid (note_any g ga gf M R A c (cnt + j) bs (notes bs tab i j) (i + j) _ hT (by omega) hn (by omega))
            obtain ⟨ij, hij⟩ : ∃ ij, ij = i + j := ⟨_, rfl⟩
            have hijI : (i : Int) + (j : Int) = (ij : Int) := by omega
            have hijb : ij ≤ 5000 := by omega
            rw [← hij] at NT
            have HTr := Lib.hid hT
            have HWr := Lib.hid hW
            have HBr := Lib.hid hBl
            have HIJ := Lib.hid hij
            clear hT hW hBl hij hmt
            go_wp2_with (go_at_call 18; with_reducible refine NT.out.mono ?_; rintro e w7 ⟨rfl, hT7, hB7⟩)
            obtain ⟨q1, q2, q3, q4, q5, q6⟩ := hMR.out
            have e8 := HTr.out.b1.lt
            have e9 := HIJ.out
            refine ⟨⟨j + 1, by congr 1; omega, rfl, hjm, ?_, HWr.out.but2 hB7 q1 q2 q3 q4, below_but2 HBr.out hB7 (by omega) q5 q6⟩, meas hjm⟩
            rw [← Nat.add_assoc, notes, ← e9]
            exact hT7
          · obtain rfl : j = m := by omega
            have hjI : ¬ (j : Int) < (j : Int) := by omega
            have HTr := Lib.hid hT
            have HWr := Lib.hid hW
            have HBr := Lib.hid hBl
            clear hT hW hBl
            go_wp2_with fail
            have hmt := HMT.out
            obtain ⟨f2, p1, p2⟩ := HPK2.out
            have hok2 := HSK.out.1
            rw [HST.out] at p1 p2 hok2
            refine ⟨⟨⟨notes bs tab i j, i + j, i + j, out ++ seqM lits d j⟩, v5, cnt + j, f2, rfl, rfl, by show cnt + j ≤ i + j; omega, HTr.out, HWr.out, hok2, HBr.out, p1, p2⟩, ?_⟩
            have h12 := HI.out
            have hk4 := HK.out
            show bs.length - ((i : Int) + (j : Int)).toNat < bs.length - ((i : Nat) : Int).toNat
            omega
    · obtain ⟨A3, hsl3, hr3⟩ := slice_from (P := Try.prog) 22 5 i0 Try.underlying22 hi0 hz1 hT.rd (k := fr) (cap := c) (by have := hok.le; have := hok.len; simp only [] at *; omega) hT.le
      have hiI : (bs.length : Int) < (i : Int) + 12 := by omega
      have hib : (i : Int) ≤ 4096 := by have := hok.len; simp only [] at this; omega
      have hgp : g ≤ p := by have := HP.out; omega
      have hle := hok.le
      have hln := hok.len
      have hsz := hok.size
      simp only [] at hle hln hsz
      have hU : U = out ++ seqL (bs.drop fr) := by
        rw [← hpk]
        obtain ⟨f2, rfl⟩ : ∃ f2, f = f2 + 1 := ⟨f - 1, by omega⟩
        rw [packF, if_neg hi]
      have SQ := Lib.hid (seq_last p B (.slice A bs.length c) vo out A3 (bs.length - fr) (c - fr) (bs.drop fr) 0 wr hW (hr3.more hgp) (by omega) (by omega))
      have HUU := Lib.hid hU
      clear hT hW hok hBl hpk hf hi hr3 hle hln hsz hU
      go_wp2_with fail
      refine SQ.out.mono ?_
      rintro e w5 ⟨rfl, v5, hW5, hF5⟩
      have hE : out ++ seqL (bs.drop fr) = U := HUU.out.symm
      rw [hE] at hW5
      have x5 := hW5.c1
      obtain ⟨A9, c9, rfl, hc9⟩ := own_cap hW5.own
      have hr5 := Rd.of_own hW5.own
      have hB5 := below_far HBL.out hF5 (by have := HP.out; omega) (by have := HP.out; have := HM.out; have := HGA.out; have := HRR.out; have := HGF.out; have := HBB.out; omega)
      have hUl : U.length ≤ 1000000 := by
        rw [HU.out]
        have := pack_length bs hn
        omega
      have CL := Lib.hid (clone_any A9 U.length c9 U w5 hr5 hUl)
      clear hW5 hF5 hr5 hUl hE hsl3
      go_wp2_with fail
      refine CL.out.mono ?_
      rintro e w7 ⟨A7, c7, rfl, hr7, hB7, hc7⟩
      go_wp2_with fail
      go_ret
      rw [← HG.out] at hB5
      exact ⟨A7, c7, rfl, hr7, hB5.trans (hB7.mono hB5.size), hc7⟩
end Go.Proofs.Ytkmcddfeadbahaa

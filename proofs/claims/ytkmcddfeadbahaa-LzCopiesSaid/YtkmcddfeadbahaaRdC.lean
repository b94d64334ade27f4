/- Contract of the reader's all. -/
import Derived.Test.YtkmcddfeadbahaaRdB
import Derived.IntWalk
import Derived.BigQuiet
import Derived.Deep.QuietTactic
import Derived.Deep.RegionLaw
import Derived.Deep.CutRange
namespace Go.Proofs.Ytkmcddfeadbahaa
open Go.RowKit
set_option linter.unusedVariables false

theorem below_at {p : Nat} {a b c : World} (h : Below p a b) (hp : p < b.heap.size) (k : b.grownBy c (some p)) : Below p a c :=
  h.grown k (by omega) (fun q hq => by injection hq with hq; omega)

/-- What reading ends in. -/
def Ends (p N : Nat) (w : World) : Res → Ending → World → Prop
  | .bad E, e, w' => e = .panicked (faultV E) ∧ Below p w w'
  | .good out, e, w' => e = .returned (.tuple #[]) ∧ Below p w w' ∧ ∃ A Ao co, Blk w' p 43 #[A, .slice Ao out.length co] ∧ w'.ownsRow (p + 1) 5 1 (.slice Ao out.length co) out.length (out.map v8)

theorem rd_grown {w w' : World} {p n : Nat} {A : Option Addr} {bs : List B8} (h : Rd w p A n bs) (hp : p < w.heap.size) (hg : w.grownBy w' (some p)) : Rd w' p A n bs :=
  h.grown hg (by omega) (fun q hq => by injection hq with hq; omega)
/-- The reader's out is the call's own row. -/
structure Out (w : World) (p : Nat) (out : List B8) (vo : Value) : Prop where
  own : w.ownsRow (p + 1) 5 1 vo out.length (out.map v8)
theorem Out.grown {w w' : World} {p : Nat} {out : List B8} {vo : Value} (h : Out w p out vo) (hg : w.grownBy w' (some p)) : Out w' p out vo :=
  ⟨h.own.kept hg (by
    cases hv : vo.ownBlock with
    | none => exact .inl rfl
    | some q => exact .inr (fun e => by injection e with e; have := h.own.lt q hv; omega))⟩

theorem info5 : (Try.prog.info? 5).map (fun i => (i.zero, i.size, i.bytes)) = some (some (.int .u8 0), 1, 1) := by kernel_rfl
theorem own_cap {w : World} {base e n : Nat} {v : Value} {xs : List Value} (h : w.ownsRow base e 1 v n xs) : ∃ A c, v = .slice A n c ∧ n ≤ c := by
  rcases h.2 with ⟨rfl, h0⟩ | ⟨g, cap, cur, rfl, _, _, hc, _⟩
  · exact ⟨none, 0, by rw [h0], by omega⟩
  · exact ⟨_, _, rfl, hc⟩
theorem Out.drewN {w : World} {p : Nat} {out : List B8} {vo : Value} (h : Out w p out vo) (k : Nat) : Out (w.drewN k) p out vo := ⟨h.own⟩
theorem Out.ne {w : World} {p : Nat} {out : List B8} {vo : Value} (h : Out w p out vo) : some p ≠ vo.ownBlock := fun e => by have := h.own.lt p e.symm; omega
/-- Behind an append: block p stands, but for its out. -/
theorem appended {w w2 : World} {p : Nat} {A : Option Addr} {n c : Nat} {vo v2 : Value} {out l : List B8} (hb : Blk w p 43 #[.slice A n c, vo]) (ho : Out w p out vo)
    (hown : w2.ownsRow (p + 1) 5 1 v2 (out.length + l.length) (out.map v8 ++ l.map v8)) (hg : w.grownBy w2 vo.ownBlock) :
    ∃ A2 c2, v2 = .slice A2 (out.length + l.length) c2 ∧ Blk w2 p 43 #[.slice A n c, vo] ∧ w2.cell? ⟨p, 1, none⟩ = some vo ∧ w2.frozen? ⟨p, 1, none⟩ = false ∧ Out w2 p (out ++ l) v2 := by
  obtain ⟨A2, c2, rfl, _⟩ := own_cap hown
  have hb2 := hb.grown hg ho.ne
  refine ⟨A2, c2, rfl, hb2, by rw [hb2.cell]; rfl, hb2.frozen 1, ⟨?_⟩⟩
  rw [List.length_append, List.map_append]
  exact hown

theorem Rdr.drewN {w : World} {p : Nat} {bs : List B8} {vo : Value} {A : Option Addr} {c : Nat} (h : Rdr w p bs vo A c) (k : Nat) : Rdr (w.drewN k) p bs vo A c := ⟨h.blk.drewN k, h.rd.drewN k, h.le⟩

theorem ofInt_i64 (a : Nat) (ha : a < 9223372036854775808) : (BitVec.ofInt 64 (a : Int)).toNat = a := by
  rw [BitVec.ofInt_natCast, BitVec.toNat_ofNat]; exact Nat.mod_eq_of_lt (by omega)
theorem i64_or_nat (a b : Nat) (ha : a < 9223372036854775808) (hb : b < 9223372036854775808) : bits .or .i64 (a : Int) (b : Int) = ((a ||| b : Nat) : Int) := by
  have hx : a ||| b < 2 ^ 63 := Nat.or_lt_two_pow (by omega) (by omega)
  show IntKind.i64.wrap ((BitVec.ofInt 64 (a : Int) ||| BitVec.ofInt 64 (b : Int)).toNat : Int) = _
  rw [BitVec.toNat_or, ofInt_i64 a ha, ofInt_i64 b hb, IntKind.wrap_i64]
  omega
theorem i64_and_nat (a b : Nat) (ha : a < 9223372036854775808) (hb : b < 9223372036854775808) : bits .and .i64 (a : Int) (b : Int) = ((a &&& b : Nat) : Int) := by
  have hx : a &&& b < 2 ^ 63 := Nat.and_lt_two_pow a (by omega)
  show IntKind.i64.wrap ((BitVec.ofInt 64 (a : Int) &&& BitVec.ofInt 64 (b : Int)).toNat : Int) = _
  rw [BitVec.toNat_and, ofInt_i64 a ha, ofInt_i64 b hb, IntKind.wrap_i64]
  omega
theorem low4 (t : B8) : bits .and .i64 (I8 t) 15 = ((t.toNat % 16 : Nat) : Int) := by
  have := t.isLt
  have h := i64_and_nat t.toNat 15 (by omega) (by omega)
  rw [show (15 : Nat) = 2 ^ 4 - 1 from rfl, Nat.and_two_pow_sub_one_eq_mod] at h
  exact h
theorem or_two (x y : B8) : bits .or .i64 (I8 x) (I8 y * 256) = ((x.toNat + 256 * y.toNat : Nat) : Int) := by
  have hx := x.isLt
  have hy := y.isLt
  have e : I8 y * 256 = ((y.toNat * 256 : Nat) : Int) := by unfold I8; omega
  have h := i64_or_nat x.toNat (y.toNat * 256) (by omega) (by omega)
  rw [Nat.or_comm x.toNat, nat_join 8 (y.toNat * 256) x.toNat (by omega) (by omega)] at h
  rw [e]
  show bits .or .i64 ((x.toNat : Nat) : Int) _ = _
  rw [h]
  omega

theorem lenN_le : ∀ (b : List B8) (n m : Nat) (r : List B8), lenN n b = some (m, r) → m ≤ n + 255 * b.length
  | [], _, _, _, h => by simp [lenN] at h
  | c :: b, n, m, r, h => by
    unfold lenN at h
    have := c.isLt
    split at h
    · injection h with h; injection h with h _; subst h; simp; omega
    · have := lenN_le b _ _ _ h; simp; omega
theorem lenG_le {b : List B8} {n m : Nat} {r : List B8} (h : lenG n b = some (m, r)) : m ≤ n + 255 * b.length := by
  unfold lenG at h
  split at h
  · injection h with h; injection h with h _; subst h; omega
  · exact lenN_le b _ _ _ h

theorem must_no {q : Prop} [Decidable q] (h : ¬ q) (e : Int) : Hid (∀ w, Calls Try.prog 25 #[.bool (decide q), .int .i64 e] w fun x w' => x = .panicked (faultV e) ∧ w = w') := by
  show ∀ w, _
  intro w; rw [decide_eq_false h]; exact must_bad e w
theorem must_yes {q : Prop} [Decidable q] (h : q) (e : Int) : Hid (∀ w, Calls Try.prog 25 #[.bool (decide q), .int .i64 e] w fun x w' => x = .returned (.tuple #[]) ∧ w = w') := by
  show ∀ w, _
  intro w; rw [decide_eq_true h]; exact must_ok e w

theorem must_eqY {x y : Nat} (h : x = y) (e : Int) : Hid (∀ w, Calls Try.prog 25 #[.bool ((x : Int) == (y : Int)), .int .i64 e] w fun r w' => r = .returned (.tuple #[]) ∧ w = w') := by
  show ∀ w, _
  intro w
  subst h
  rw [beq_self_eq_true]
  exact must_ok e w
theorem must_eqN {x y : Nat} (h : x ≠ y) (e : Int) : Hid (∀ w, Calls Try.prog 25 #[.bool ((x : Int) == (y : Int)), .int .i64 e] w fun r w' => r = .panicked (faultV e) ∧ w = w') := by
  show ∀ w, _
  intro w
  have e1 : ((x : Int) == (y : Int)) = false := by rw [beq_eq_false_iff_ne]; omega
  rw [e1]
  exact must_bad e w
/-- The out is laid into the reader. -/
theorem laid {w : World} {p : Nat} {A : Option Addr} {n c : Nat} {vo v2 : Value} {out : List B8} (hb : Blk w p 43 #[.slice A n c, vo]) (ho : Out w p out v2) :
    Blk (w.setCell ⟨p, 1, none⟩ v2) p 43 #[.slice A n c, v2] ∧ Out (w.setCell ⟨p, 1, none⟩ v2) p out v2 ∧ w.grownBy (w.setCell ⟨p, 1, none⟩ v2) (some p) :=
  ⟨hb.set_ 1 v2, ho.grown (only_setCell (World.grownBy.refl w _) (.inl rfl) _), only_setCell (World.grownBy.refl w _) (.inl rfl) _⟩
theorem below_own {p : Nat} {a b c : World} {row : Option Nat} (h : Below p a b) (hp : p < b.heap.size) (k : b.grownBy c row) (hr : ∀ q, row = some q → p + 1 ≤ q) : Below p a c :=
  h.grown k (by omega) (fun q hq => by have := hr q hq; omega)

theorem appended1 {w w2 : World} {p K : Nat} {A : Option Addr} {n c : Nat} {vo v2 : Value} {out : List B8} {x : B8} {o : Obj} (hg : (w.alloc o).drew.grownBy w2 vo.ownBlock) (hown : w2.ownsRow (p + 1) 5 1 v2 (K + 1) (out.map v8 ++ [x].map v8))
    (hb : Blk w p 43 #[.slice A n c, vo]) (ho : Out w p out vo) (hK : out.length = K) :
    ∃ A2 c2, v2 = .slice A2 (K + 1) c2 ∧ Blk w2 p 43 #[.slice A n c, vo] ∧ w2.cell? ⟨p, 1, none⟩ = some vo ∧ w2.frozen? ⟨p, 1, none⟩ = false ∧ Out w2 p (out ++ [x]) v2 := by
  subst hK
  exact appended (w := (w.alloc o).drew) (l := [x]) (hb.alloc o) ⟨ho.own.alloc o⟩ hown hg

theorem below_drew {B : Nat} {a w : World} (h : Below B a w) : Below B a w.drew := ⟨h.os, h.tape, h.output, h.size, h.block⟩
/-- One byte is copied. -/
theorem copied {w wr w2 : World} {p K j d ix : Nat} {A : Option Addr} {n c : Nat} {vo v2 : Value} {o1 rest : List B8} {x : B8} {o : Obj} (hg : (wr.alloc o).drew.grownBy w2 vo.ownBlock) (hown : w2.ownsRow (p + 1) 5 1 v2 (K + j + 1) ((copyN o1 d j).map v8 ++ [x].map v8))
    (hb : Blk wr p 43 #[.slice A n c, vo]) (ho : Out wr p (copyN o1 d j) vo) (hl : (copyN o1 d j).length = K + j) (hix : ix = K + j - d) (hx : (copyN o1 d j)[ix]? = some x) (hB : Below p w wr) (hr : Rd wr p A n rest) :
    ∃ A2 c2, v2 = .slice A2 (K + j + 1) c2 ∧ w2.cell? ⟨p, 1, none⟩ = some vo ∧ w2.frozen? ⟨p, 1, none⟩ = false ∧
      Hid (Blk (w2.setCell ⟨p, 1, none⟩ (.slice A2 (K + j + 1) c2)) p 43 #[.slice A n c, .slice A2 (K + j + 1) c2] ∧ Out (w2.setCell ⟨p, 1, none⟩ (.slice A2 (K + j + 1) c2)) p (copyN o1 d (j + 1)) (.slice A2 (K + j + 1) c2) ∧
        Below p w (w2.setCell ⟨p, 1, none⟩ (.slice A2 (K + j + 1) c2)) ∧ Rd (w2.setCell ⟨p, 1, none⟩ (.slice A2 (K + j + 1) c2)) p A n rest) := by
  obtain ⟨A2, c2, rfl, hb2, h1, h2, ho2⟩ := appended1 hg hown hb ho hl
  obtain ⟨q1, q2, q3⟩ := laid hb2 ho2
  have hpl := hb.lt
  have hs : p < (wr.alloc o).drew.heap.size := by show p < (wr.alloc o).heap.size; simp; omega
  have hlt : ∀ q, vo.ownBlock = some q → p + 1 ≤ q := fun q hq => (ho.own.lt q hq).1
  have hB2 : Below p w w2 := below_own (below_drew (hB.alloc (by omega) o)) hs hg hlt
  have hr2 : Rd w2 p A n rest := Rd.grown (w := (wr.alloc o).drew) (hr.alloc (by omega) o) hg (Nat.le_of_lt hs) (fun q hq => by have := hlt q hq; omega)
  refine ⟨A2, c2, rfl, h1, h2, q1, ?_, below_at hB2 hb2.lt q3, rd_grown hr2 hb2.lt q3⟩
  rw [bt_at (by
    rcases Nat.lt_or_ge ix (copyN o1 d j).length with h | h
    · exact h
    · rw [List.getElem?_eq_none h] at hx; cases hx)] at hx
  injection hx with hx
  have e : copyN o1 d (j + 1) = copyN o1 d j ++ [x] := by rw [copyN, hl, ← hix, hx]
  rw [e]
  exact q2

theorem meas {j M : Nat} (h : j < M) : M - (intOf (.int .i64 ((j + 1 : Nat) : Int))).toNat < M - (intOf (.int .i64 (j : Int))).toNat := by
  simp [intOf]; omega

set_option maxRecDepth 100000 in
set_option maxHeartbeats 4000000 in
theorem all_any (p : Nat) (A : Option Addr) (c : Nat) (bs : List B8) (w : World) (h : Rdr w p bs (.slice none 0 0) A c) (hn : bs.length ≤ 1000000) (N : Nat) (hN : N ≤ 4096) :
    Calls Try.prog 17 #[.pointer (some ⟨p, 0, none⟩), .int .i64 (N : Int)] w (fun e w' => Ends p N w (unp bs [] N) e w') := by
  obtain ⟨i0, hi, hz0, hz1, hz2⟩ := info_parts info5
  have hU : ∃ U, U = unp bs [] N := ⟨_, rfl⟩
  obtain ⟨U, hU⟩ := hU
  rw [← hU]
  have HU := Lib.hid hU
  have HH := Lib.hid h
  clear hU h
  go_enter Try.func17, Try.ntmps17
  go_wp2_with fail
  go_loopw [4] (fun _ wr => ∃ (rest out : List B8) (A : Option Addr) (c : Nat) (Ao : Option Addr) (co : Nat), rest.length ≤ 1000000 ∧ Rdr wr p rest (.slice Ao out.length co) A c ∧ Out wr p out (.slice Ao out.length co) ∧ out.length ≤ N ∧ unp rest out N = U ∧ Below p w wr) (fun _ wr => left wr p)
  case atStart => exact ⟨bs, [], A, c, none, 0, hn, HH.out, ⟨World.ownsRow_nil _ _ _ _⟩, Nat.zero_le _, HU.out.symm, Below.refl _ _⟩
  case round =>
    clear hn
    obtain ⟨rest, out, A2, c2, Ao, co, hrl, hR, hO, hle, hu, hB⟩ := hrel
    have hue := unp_eq rest out N
    rw [hu] at hue
    have HUE := Lib.hid hue
    have HO := Lib.hid hO
    have HB := Lib.hid hB
    have HR := Lib.hid hR
    have HP := Lib.hid hR.lt
    clear hue hO hB hu
    cases rest with
    | nil =>
      have TB := Lib.hid (take1_bad p A2 c2 _ wr hR)
      clear hR
      go_wp2_with (go_at_call 23; with_reducible refine TB.out.mono ?_; rintro e w' ⟨rfl, rfl⟩)
      refine ⟨rfl, ?_⟩
      have hue := HUE.out
      simp only [seqOf] at hue
      subst hue
      exact ⟨rfl, HB.out⟩
    | cons t b1 =>
      obtain ⟨ad, rfl⟩ := rd_some hR.rd
      have T := Lib.hid (take_cons p ad c2 _ t b1 wr hR)
      have hb1 : Hid (b1.length ≤ 1000000) := by show _ ≤ _; have := hrl; simp at this; omega
      clear hR hrl
      have hbd := I8.bd t
      cases hg1 : lenG (t.toNat / 16) b1 with
      | none =>
        have LB := fun w1 A3 c3 h => Lib.hid (length_bad p A3 c3 (.slice Ao out.length co) b1 w1 h hb1.out (I8 t / 16) (t.toNat / 16) (by unfold I8; omega) (by have := t.isLt; omega) hg1)
        go_wp2_with (first
          | (go_at_call 23; with_reducible refine T.out.mono ?_; rintro e w1 ⟨rfl, A3, hR3, hg3, hc3⟩)
          | (go_at_call 24; with_reducible refine (LB _ _ _ hR3).out.mono ?_; rintro e w2 ⟨rfl, hg2⟩))
        refine ⟨rfl, ?_⟩
        have hue := HUE.out
        simp only [seqOf, hg1] at hue
        subst hue
        exact ⟨rfl, below_at HB.out HP.out (grown_then hg3 hg2)⟩
      | some q =>
        obtain ⟨l, b2⟩ := q
        have hb2 : Hid (b2.length ≤ 1000000) := by show _ ≤ _; have := lenG_length hg1; have := hb1.out; omega
        have LG := fun w1 A3 c3 h => Lib.hid (length_ok p A3 c3 (.slice Ao out.length co) b1 w1 h hb1.out (I8 t / 16) (t.toNat / 16) l b2 (by unfold I8; omega) (by have := t.isLt; omega) hg1)
        by_cases hlb : b2.length < l
        · have TB := fun w2 A4 c4 (h : Rdr w2 p b2 (.slice Ao out.length co) A4 c4) => Lib.hid (take_bad p A4 b2.length c4 _ l w2 h.blk hlb)
          have HLB := Lib.hid hlb
          have HG1 := Lib.hid hg1
          clear hlb hg1
          go_wp2_with (first
            | (go_at_call 23; with_reducible refine T.out.mono ?_; rintro e w1 ⟨rfl, A3, hR3, hg3, hc3⟩)
            | (go_at_call 24; with_reducible refine (LG _ _ _ hR3).out.mono ?_; rintro e w2 ⟨rfl, A4, c4, hR4, hg4⟩)
            | (go_at_call 23; with_reducible refine (TB _ _ _ hR4).out.mono ?_; rintro e w3 ⟨rfl, rfl⟩))
          refine ⟨rfl, ?_⟩
          have hue := HUE.out
          simp only [seqOf, HG1.out, if_pos HLB.out] at hue
          subst hue
          exact ⟨rfl, below_at HB.out HP.out (grown_then hg3 hg4)⟩
        · have hseq := HUE.out
          simp only [seqOf, hg1, if_neg hlb] at hseq
          have HSQ := Lib.hid hseq
          have hll : (b2.take l).length = l := by rw [List.length_take]; omega
          generalize hlits : b2.take l = lits at *
          generalize hb3 : b2.drop l = b3 at *
          have TK := fun w2 A4 c4 (h : Rdr w2 p b2 (.slice Ao out.length co) A4 c4) => Lib.hid (take_any p A4 c4 _ l b2 lits b3 w2 h (by omega) hlits hb3)
          have HLL := Lib.hid hll
          have HB3L : Hid (b3.length ≤ b1.length) := by show _ ≤ _; rw [← hb3, List.length_drop]; have := lenG_length hg1; omega
          have HB3 : Hid (b3.length ≤ 1000000) := by show _ ≤ _; rw [← hb3, List.length_drop]; have := hb2.out; omega
          clear hlb hg1 hlits hb3 hseq hll HUE
          cases b3 with
          | nil =>
            by_cases hfit : N < out.length + l
            · have hfi : ¬ (l : Int) ≤ (N : Int) - (out.length : Int) := by omega
              have M3 := must_no hfi 3
              have HF := Lib.hid hfit
              clear hfit hfi
              go_wp2_with (first
                | (go_at_call 23; with_reducible refine T.out.mono ?_; rintro e w1 ⟨rfl, A3, hR3, hg3, hc3⟩)
                | (go_at_call 24; with_reducible refine (LG _ _ _ hR3).out.mono ?_; rintro e w2 ⟨rfl, A4, c4, hR4, hg4⟩)
                | (go_at_call 23; with_reducible refine (TK _ _ _ hR4).out.mono ?_; rintro e w3 ⟨rfl, A5, hR5, hg5, hr5⟩; have x0 := hR5.c0; have x1 := hR5.c1; have f1 := hR5.f1)
                | (go_at_call 25; with_reducible refine (M3.out _).mono ?_; rintro e w' ⟨rfl, rfl⟩))
              refine ⟨rfl, ?_⟩
              have hue := HSQ.out
              rw [HLL.out, if_pos HF.out] at hue
              subst hue
              exact ⟨rfl, below_at HB.out HP.out (grown_then hg3 (grown_then hg4 hg5))⟩
            · have hfi : (l : Int) ≤ (N : Int) - (out.length : Int) := by omega
              have hmx : out.length + l ≤ maxLen := by unfold maxLen; omega
              have hby : (out.length + l) * 1 ≤ 140737488355328 := by omega
              have M3 := must_yes hfi 3
              have HF := Lib.hid hfit
              clear hfit hfi
              by_cases hfin : out.length + lits.length = N
              · have EQ := must_eqY hfin 2
                rw [show ((out.length + lits.length : Nat) : Int) = (out.length : Int) + (lits.length : Int) by omega] at EQ
                have HFN := Lib.hid hfin
                clear hfin
                go_wp2_with (first
                  | (go_at_call 23; with_reducible refine T.out.mono ?_; rintro e w1 ⟨rfl, A3, hR3, hg3, hc3⟩)
                  | (go_at_call 24; with_reducible refine (LG _ _ _ hR3).out.mono ?_; rintro e w2 ⟨rfl, A4, c4, hR4, hg4⟩)
                  | (go_at_call 23; with_reducible refine (TK _ _ _ hR4).out.mono ?_; rintro e w3 ⟨rfl, A5, hR5, hg5, hr5⟩; have x0 := hR5.c0; have x1 := hR5.c1; have f1 := hR5.f1)
                  | (go_at_call 25; with_reducible refine (M3.out _).mono ?_; rintro e w' ⟨rfl, rfl⟩)
                  | (go_at_call 25; with_reducible refine (EQ.out _).mono ?_; rintro e w' ⟨rfl, rfl⟩)
                  | (at_builtin
                     have hO3 := ((HO.out.grown hg3).grown hg4).grown hg5
                     refine wpList_append_any _ rfl (.tmp 61) (.tmp 62) 22 rfl (p + 1) 5 i0 (.int .u8 0) 1 1 Try.underlying22 hi hz0 hz1 hz2 rfl (by decide) _ out.length _ rfl hO3.own p A4 l c4 (lits.map v8) rfl hr5 (oneCell_v8 _) hmx hby hR5.lt ?_
                     intro v6 w6 hown6 hg6 hat6
                     obtain ⟨A6, c6, rfl, hb6, y6, f6, hO6⟩ := appended (l := lits) hR5.blk hO3 (HLL.out.symm ▸ hown6) hg6))
                go_end0
                have hue := HSQ.out
                rw [if_neg (by rw [HLL.out]; exact HF.out)] at hue
                obtain ⟨h1, h2, h3⟩ := laid hb6 hO6
                have hB6 : Below p w w6 := below_own (below_at HB.out HP.out (grown_then hg3 (grown_then hg4 hg5))) hR5.lt hg6 (fun q hq => (hO3.own.lt q hq).1)
                rw [if_pos (by rw [List.length_append]; exact HFN.out)] at hue
                subst hue
                refine ⟨rfl, below_at hB6 hb6.lt h3, .slice A5 0 (c4 - l), A6, c6, ?_, ?_⟩
                · rw [List.length_append]
                  exact h1
                · have h4 := h2.own
                  rw [List.length_append] at h4 ⊢
                  exact h4
              · have EQ := must_eqN hfin 2
                rw [show ((out.length + lits.length : Nat) : Int) = (out.length : Int) + (lits.length : Int) by omega] at EQ
                have HFN := Lib.hid hfin
                clear hfin
                go_wp2_with (first
                  | (go_at_call 23; with_reducible refine T.out.mono ?_; rintro e w1 ⟨rfl, A3, hR3, hg3, hc3⟩)
                  | (go_at_call 24; with_reducible refine (LG _ _ _ hR3).out.mono ?_; rintro e w2 ⟨rfl, A4, c4, hR4, hg4⟩)
                  | (go_at_call 23; with_reducible refine (TK _ _ _ hR4).out.mono ?_; rintro e w3 ⟨rfl, A5, hR5, hg5, hr5⟩; have x0 := hR5.c0; have x1 := hR5.c1; have f1 := hR5.f1)
                  | (go_at_call 25; with_reducible refine (M3.out _).mono ?_; rintro e w' ⟨rfl, rfl⟩)
                  | (go_at_call 25; with_reducible refine (EQ.out _).mono ?_; rintro e w' ⟨rfl, rfl⟩)
                  | (at_builtin
                     have hO3 := ((HO.out.grown hg3).grown hg4).grown hg5
                     refine wpList_append_any _ rfl (.tmp 61) (.tmp 62) 22 rfl (p + 1) 5 i0 (.int .u8 0) 1 1 Try.underlying22 hi hz0 hz1 hz2 rfl (by decide) _ out.length _ rfl hO3.own p A4 l c4 (lits.map v8) rfl hr5 (oneCell_v8 _) hmx hby hR5.lt ?_
                     intro v6 w6 hown6 hg6 hat6
                     obtain ⟨A6, c6, rfl, hb6, y6, f6, hO6⟩ := appended (l := lits) hR5.blk hO3 (HLL.out.symm ▸ hown6) hg6))
                refine ⟨rfl, ?_⟩
                have hue := HSQ.out
                rw [if_neg (by rw [HLL.out]; exact HF.out)] at hue
                obtain ⟨h1, h2, h3⟩ := laid hb6 hO6
                have hB6 : Below p w w6 := below_own (below_at HB.out HP.out (grown_then hg3 (grown_then hg4 hg5))) hR5.lt hg6 (fun q hq => (hO3.own.lt q hq).1)
                rw [if_neg (by rw [List.length_append]; exact HFN.out)] at hue
                subst hue
                exact ⟨rfl, below_at hB6 hb6.lt h3⟩
          | cons x b3 =>
            have hb3 : Hid ((x :: b3).length ≤ 1000000) := HB3
            cases b3 with
            | nil =>
              have T2 := fun w3 A5 c5 h => Lib.hid (take2_bad p A5 c5 (.slice Ao out.length co) x w3 h)
              go_wp2_with (first
                | (go_at_call 23; with_reducible refine T.out.mono ?_; rintro e w1 ⟨rfl, A3, hR3, hg3, hc3⟩)
                | (go_at_call 24; with_reducible refine (LG _ _ _ hR3).out.mono ?_; rintro e w2 ⟨rfl, A4, c4, hR4, hg4⟩)
                | (go_at_call 23; with_reducible refine (TK _ _ _ hR4).out.mono ?_; rintro e w3 ⟨rfl, A5, hR5, hg5, hr5⟩; have x0 := hR5.c0; have x1 := hR5.c1; have f1 := hR5.f1)
                | (go_at_call 23; with_reducible refine (T2 _ _ _ hR5).out.mono ?_; rintro e w4 ⟨rfl, rfl⟩))
              refine ⟨rfl, ?_⟩
              have hue := HSQ.out
              subst hue
              exact ⟨rfl, below_at HB.out HP.out (grown_then hg3 (grown_then hg4 hg5))⟩
            | cons y b4 =>
              have T2 := fun w3 A5 c5 h => Lib.hid (take_cons2 p A5 c5 (.slice Ao out.length co) x y b4 w3 h)
              have hbx := I8.bd x
              have hby := I8.bd y
              obtain ⟨d, hd⟩ : ∃ d, d = x.toNat + 256 * y.toNat := ⟨_, rfl⟩
              have hor := or_two x y
              rw [← hd] at hor
              have HSQ2 := HSQ.out
              simp only [← hd] at HSQ2
              have HSQ2 := Lib.hid HSQ2
              have HD : Hid (d < 65536) := by show _ < _; have := x.isLt; have := y.isLt; omega
              obtain ⟨tl, htl⟩ : ∃ tl, tl = t.toNat % 16 := ⟨_, rfl⟩
              have hand := low4 t
              rw [← htl] at hand HSQ2
              have HTL : Hid (tl ≤ 15) := by show _ ≤ _; omega
              have hov : ((b4.length : Int) + 1 + 1 == 0) = false := by rw [beq_eq_false_iff_ne]; omega
              clear hd htl
              go_wp2_with (first
                | (go_at_call 23; with_reducible refine T.out.mono ?_; rintro e w1 ⟨rfl, A3, hR3, hg3, hc3⟩)
                | (go_at_call 24; with_reducible refine (LG _ _ _ hR3).out.mono ?_; rintro e w2 ⟨rfl, A4, c4, hR4, hg4⟩)
                | (go_at_call 23; with_reducible refine (TK _ _ _ hR4).out.mono ?_; rintro e w3 ⟨rfl, A5, hR5, hg5, hr5⟩; have x0 := hR5.c0; have x1 := hR5.c1; have f1 := hR5.f1)
                | (go_at_call 23; with_reducible refine (T2 _ _ _ hR5).out.mono ?_; rintro e w4 ⟨bq, oq, rfl, A7, hR7, hg7, q1, q2⟩))
              go_quiet (fail)
              have hR8 := hR7.drewN nq
              cases hg2 : lenG tl b4 with
              | none =>
                have LB := fun w1 A3 c3 h => Lib.hid (length_bad p A3 c3 (.slice Ao out.length co) b4 w1 h (by have := hb3.out; simp at this; omega) (tl : Int) tl rfl HTL.out hg2)
                go_wp2_with (go_at_call 24; with_reducible refine (LB _ _ _ hR8).out.mono ?_; rintro e w9 ⟨rfl, hg9⟩)
                refine ⟨rfl, ?_⟩
                have hue := HSQ2.out
                simp only [hg2] at hue
                subst hue
                exact ⟨rfl, below_at (below_drewN (below_at HB.out HP.out (grown_then hg3 (grown_then hg4 (grown_then hg5 hg7)))) nq) hR8.lt hg9⟩
              | some q =>
                obtain ⟨m, b5⟩ := q
                have LG := fun w1 A3 c3 h => Lib.hid (length_ok p A3 c3 (.slice Ao out.length co) b4 w1 h (by have := hb3.out; simp at this; omega) (tl : Int) tl m b5 rfl HTL.out hg2)
                obtain ⟨M, hM⟩ : ∃ M, M = m + 4 := ⟨_, rfl⟩
                have hmw : wrap64 ((m : Int) + 4) = (M : Int) := by have h1 := lenG_le hg2; have h2 := hb3.out; have h3 := HTL.out; simp at h2; rw [IntWalk.wrap64_in _ (by omega)]; omega
                have HSQ3 := HSQ2.out
                simp only [hg2, ← hM] at HSQ3
                have HSQ3 := Lib.hid HSQ3
                have HG2 := Lib.hid (lenG_length hg2)
                clear HSQ2 hg2
                go_wp2_with (go_at_call 24; with_reducible refine (LG _ _ _ hR8).out.mono ?_; rintro e w9 ⟨rfl, A9, c9, hR9, hg9⟩; have y0 := hR9.c0; have y1 := hR9.c1; have g1 := hR9.f1)
                rw [hmw]
                have hB9 : Below p w w9 := below_at (below_drewN (below_at HB.out HP.out (grown_then hg3 (grown_then hg4 (grown_then hg5 hg7)))) nq) hR8.lt hg9
                have hO9 : Out w9 p out (.slice Ao out.length co) := (((((HO.out.grown hg3).grown hg4).grown hg5).grown hg7).drewN nq).grown hg9
                have hr9 : Rd w9 p A4 l lits := rd_grown ((rd_grown hr5 hR5.lt hg7).drewN nq) hR8.lt hg9
                have HB9 := Lib.hid hB9
                have HO9 := Lib.hid hO9
                have HR9 := Lib.hid hR9
                have Hr9 := Lib.hid hr9
                clear hmw hM hB9 hO9 hr9 hg3 hg4 hg5 hg7 hg9 hR3 hR4 hR5 hR7 hR8 hR9 hr5 q1 q2 x0 x1 f1 hc3 T TK LG T2 hor hand hov HO HB HSQ
                by_cases hfit : N < out.length + l
                · have M3 := must_no (show ¬ (l : Int) ≤ (N : Int) - (out.length : Int) by omega) 3
                  refine (M3.out _).mono ?_
                  rintro e w' ⟨rfl, rfl⟩
                  go_wp2_with fail
                  refine ⟨rfl, ?_⟩
                  have hue := HSQ3.out
                  rw [if_pos (by rw [HLL.out]; exact hfit)] at hue
                  subst hue
                  exact ⟨rfl, HB9.out⟩
                · have M3 := must_yes (show (l : Int) ≤ (N : Int) - (out.length : Int) by omega) 3
                  have hmx : out.length + l ≤ maxLen := by unfold maxLen; omega
                  have hby' : (out.length + l) * 1 ≤ 140737488355328 := by omega
                  have HF := Lib.hid hfit
                  clear hfit
                  by_cases hd0 : d = 0
                  · subst hd0
                    go_wp2_with (first
                      | (go_at_call 25; with_reducible refine (M3.out _).mono ?_; rintro e w' ⟨rfl, rfl⟩)
                      | (at_builtin
                         refine wpList_append_any _ rfl (.tmp 61) (.tmp 62) 22 rfl (p + 1) 5 i0 (.int .u8 0) 1 1 Try.underlying22 hi hz0 hz1 hz2 rfl (by decide) _ out.length _ rfl HO9.out.own p A4 l c4 (lits.map v8) rfl Hr9.out (oneCell_v8 _) hmx hby' HR9.out.lt ?_
                         intro v6 w6 hown6 hg6 hat6
                         obtain ⟨A6, c6, rfl, hb6, y6, f6, hO6⟩ := appended (l := lits) HR9.out.blk HO9.out (HLL.out.symm ▸ hown6) hg6))
                    refine (must_bad 4 _).mono ?_
                    rintro e w' ⟨rfl, rfl⟩
                    go_wp2_with fail
                    refine ⟨rfl, ?_⟩
                    have hue := HSQ3.out
                    rw [if_neg (by rw [HLL.out]; exact HF.out), if_pos (by simp)] at hue
                    subst hue
                    obtain ⟨h1, h2, h3⟩ := laid hb6 hO6
                    exact ⟨rfl, below_at (below_own HB9.out HR9.out.lt hg6 (fun q hq => (HO9.out.own.lt q hq).1)) hb6.lt h3⟩
                  · have hd1 : (0 : Int) < (d : Int) := by omega
                    have HD0 := Lib.hid hd0
                    clear hd0
                    by_cases hd2 : out.length + lits.length < d
                    · have M4 := must_no (show ¬ (d : Int) ≤ (out.length : Int) + (lits.length : Int) by omega) 4
                      have HD2 := Lib.hid hd2
                      clear hd2
                      go_wp2_with (first
                      | (go_at_call 25; with_reducible refine (M3.out _).mono ?_; rintro e w' ⟨rfl, rfl⟩)
                      | (at_builtin
                         refine wpList_append_any _ rfl (.tmp 61) (.tmp 62) 22 rfl (p + 1) 5 i0 (.int .u8 0) 1 1 Try.underlying22 hi hz0 hz1 hz2 rfl (by decide) _ out.length _ rfl HO9.out.own p A4 l c4 (lits.map v8) rfl Hr9.out (oneCell_v8 _) hmx hby' HR9.out.lt ?_
                         intro v6 w6 hown6 hg6 hat6
                         obtain ⟨A6, c6, rfl, hb6, y6, f6, hO6⟩ := appended (l := lits) HR9.out.blk HO9.out (HLL.out.symm ▸ hown6) hg6)
                      | (go_at_call 25; with_reducible refine (M4.out _).mono ?_; rintro e w' ⟨rfl, rfl⟩))
                      refine ⟨rfl, ?_⟩
                      have hue := HSQ3.out
                      rw [if_neg (by rw [HLL.out]; exact HF.out), if_pos (.inr (by rw [List.length_append]; exact HD2.out))] at hue
                      subst hue
                      obtain ⟨h1, h2, h3⟩ := laid hb6 hO6
                      exact ⟨rfl, below_at (below_own HB9.out HR9.out.lt hg6 (fun q hq => (HO9.out.own.lt q hq).1)) hb6.lt h3⟩
                    · have M4 := must_yes (show (d : Int) ≤ (out.length : Int) + (lits.length : Int) by omega) 4
                      have HD2 := Lib.hid hd2
                      clear hd2
                      by_cases hm2 : N < out.length + lits.length + M
                      · have M5 := must_no (show ¬ (M : Int) ≤ (N : Int) - ((out.length : Int) + (lits.length : Int)) by omega) 3
                        have hwN : wrap64 ((N : Int) - ((out.length : Int) + (lits.length : Int))) = (N : Int) - ((out.length : Int) + (lits.length : Int)) := IntWalk.wrap64_in _ (by have := HLL.out; omega)
                        have HM2 := Lib.hid hm2
                        clear hm2
                        go_wp2_with (first
                        | (go_at_call 25; with_reducible refine (M3.out _).mono ?_; rintro e w' ⟨rfl, rfl⟩)
                        | (at_builtin
                           refine wpList_append_any _ rfl (.tmp 61) (.tmp 62) 22 rfl (p + 1) 5 i0 (.int .u8 0) 1 1 Try.underlying22 hi hz0 hz1 hz2 rfl (by decide) _ out.length _ rfl HO9.out.own p A4 l c4 (lits.map v8) rfl Hr9.out (oneCell_v8 _) hmx hby' HR9.out.lt ?_
                           intro v6 w6 hown6 hg6 hat6
                           obtain ⟨A6, c6, rfl, hb6, y6, f6, hO6⟩ := appended (l := lits) HR9.out.blk HO9.out (HLL.out.symm ▸ hown6) hg6)
                        | (go_at_call 25; with_reducible refine (M4.out _).mono ?_; rintro e w' ⟨rfl, rfl⟩)
                        | (go_at_call 25; with_reducible refine (M5.out _).mono ?_; rintro e w' ⟨rfl, rfl⟩))
                        refine ⟨rfl, ?_⟩
                        have hue := HSQ3.out
                        rw [if_neg (by rw [HLL.out]; exact HF.out), if_neg (by rw [List.length_append]; have := HD0.out; have := HD2.out; omega), if_pos (by rw [List.length_append]; exact HM2.out)] at hue
                        subst hue
                        obtain ⟨h1, h2, h3⟩ := laid hb6 hO6
                        exact ⟨rfl, below_at (below_own HB9.out HR9.out.lt hg6 (fun q hq => (HO9.out.own.lt q hq).1)) hb6.lt h3⟩
                      · have M5 := must_yes (show (M : Int) ≤ (N : Int) - ((out.length : Int) + (lits.length : Int)) by omega) 3
                        have hwN : wrap64 ((N : Int) - ((out.length : Int) + (lits.length : Int))) = (N : Int) - ((out.length : Int) + (lits.length : Int)) := IntWalk.wrap64_in _ (by have := HLL.out; omega)
                        have HM2 := Lib.hid hm2
                        clear hm2
                        go_upto_region 13 with (first
                        | (go_at_call 25; with_reducible refine (M3.out _).mono ?_; rintro e w' ⟨rfl, rfl⟩)
                        | (at_builtin
                           refine wpList_append_any _ rfl (.tmp 61) (.tmp 62) 22 rfl (p + 1) 5 i0 (.int .u8 0) 1 1 Try.underlying22 hi hz0 hz1 hz2 rfl (by decide) _ out.length _ rfl HO9.out.own p A4 l c4 (lits.map v8) rfl Hr9.out (oneCell_v8 _) hmx hby' HR9.out.lt ?_
                           intro v6 w6 hown6 hg6 hat6
                           obtain ⟨A6, c6, rfl, hb6, y6, f6, hO6⟩ := appended (l := lits) HR9.out.blk HO9.out (HLL.out.symm ▸ hown6) hg6)
                        | (go_at_call 25; with_reducible refine (M4.out _).mono ?_; rintro e w' ⟨rfl, rfl⟩)
                        | (go_at_call 25; with_reducible refine (M5.out _).mono ?_; rintro e w' ⟨rfl, rfl⟩))
                        obtain ⟨h1, h2, h3⟩ := laid hb6 hO6
                        have hB7 := below_at (below_own HB9.out HR9.out.lt hg6 (fun q hq => (HO9.out.own.lt q hq).1)) hb6.lt h3
                        have hr7 := rd_grown (HR9.out.rd.grown hg6 (Nat.le_of_lt HR9.out.lt) (fun q hq => by have := (HO9.out.own.lt q hq).1; omega)) hb6.lt h3
                        generalize hw7 : w6.setCell { block := p, off := 1, spot := none } (Value.slice A6 (out.length + lits.length) c6) = w7 at *
                        have K1 := Lib.hid h1
                        have K2 := Lib.hid h2
                        have KB := Lib.hid hB7
                        have KR := Lib.hid hr7
                        clear h1 h2 h3 hB7 hr7 hb6 hO6 y6 f6 hg6 hat6 hown6 hw7 M3 M4 M5 hwN
                        obtain ⟨o1, ho1⟩ : ∃ o1, o1 = out ++ lits := ⟨_, rfl⟩
                        have ho1l : o1.length = out.length + lits.length := by rw [ho1, List.length_append]
                        rw [← ho1] at K2
                        rw [← ho1l] at K1 K2
                        have HK1 := Lib.hid ho1l
                        have HO1 := Lib.hid ho1
                        clear ho1 ho1l
                        go_cut [89, 90] from 9 to 88 (fun mm ii wx => mm = .int .i64 (M : Int) ∧ ii = .int .i64 0 ∧ Hid (Blk wx p 43 #[.slice A9 b5.length c9, .slice A6 o1.length c6]) ∧ Hid (Out wx p o1 (.slice A6 o1.length c6)) ∧ Hid (Below p w wx) ∧ Hid (Rd wx p A9 b5.length b5))
                        case first =>
                          go_wp2_with fail
                          go_meet
                          exact ⟨rfl, rfl, K1, K2, KB, KR⟩
                        case rest =>
                        obtain ⟨rfl, rfl, K1, K2, KB, KR⟩ := hcut
                        go_wp2_with fail
                        go_loopw [90] (fun i wx => ∃ (j : Nat) (Ax : Option Addr) (cx : Nat), j ≤ M ∧ i = .int .i64 (j : Int) ∧ Blk wx p 43 #[.slice A9 b5.length c9, .slice Ax (o1.length + j) cx] ∧ Out wx p (copyN o1 d j) (.slice Ax (o1.length + j) cx) ∧ Below p w wx ∧ Rd wx p A9 b5.length b5) (fun i _ => M - (intOf i).toNat)
                        case atStart => exact ⟨0, A6, c6, Nat.zero_le _, rfl, K1.out, K2.out, KB.out, KR.out⟩
                        case round =>
                          obtain ⟨j, Ax, cx, hj, rfl, hBk, hOk, hBl, hRk⟩ := hrel
                          have hlen := copyN_length o1 d j
                          have hown := hOk.own
                          rw [hlen] at hown
                          have hr := Rd.of_own hown
                          by_cases hlt : j < M
                          · have hdl : d ≤ o1.length := by have := HK1.out; have := HD2.out; omega
                            have hd0' := HD0.out
                            obtain ⟨ix, hix⟩ : ∃ ix, ix = o1.length + j - d := ⟨_, rfl⟩
                            have e1 := HM2.out
                            have e2 := HK1.out
                            obtain ⟨ad, xb, rfl, hltb, hxb, hcx⟩ := hr.at_ (k := ix) (by omega)
                            have hiw : IntKind.i64.wrap ((o1.length : Int) + (j : Int) - (d : Int)) = (ix : Int) := by rw [IntWalk.i64_in _ (by omega)]; omega
                            have hix2 : (ix : Int) < (o1.length : Int) + (j : Int) := by omega
                            have HJW : Hid (wrap64 ((j : Int) + 1) = ((j + 1 : Nat) : Int)) := by show _ = _; rw [IntWalk.wrap64_in _ (by omega)]; omega
                            have hcap : Hid (o1.length + j + 1 ≤ maxLen) := by show _ ≤ _; unfold maxLen; omega
                            have hbt2 : Hid ((o1.length + j + 1) * 1 ≤ 140737488355328) := by show _ ≤ _; omega
                            have HIX := Lib.hid hix
                            have HXB := Lib.hid hxb
                            clear e1 e2 hdl hd0' hix hxb
                            have X1 : wr.cell? ⟨p, 1, none⟩ = some (.slice (some ad) (o1.length + j) cx) := by rw [hBk.cell]; rfl
                            have F1 := hBk.frozen 1
                            have HLEN := Lib.hid hlen
                            have hpl := hBk.lt
                            clear hlen hr
                            go_wp2_with fail
                            go_region_law (first
                              | (refine step_append_any _ rfl (.tmp 96) (.tmp 110) 22 rfl (p + 1) 5 i0 (.int .u8 0) 1 1 Try.underlying22 hi hz0 hz1 hz2 rfl (by decide) _ (o1.length + j) ((copyN o1 d j).map v8) rfl (hown.alloc _) (wr.heap.size + 1) _ 1 1 ([xb].map v8) rfl (rd_lit _ [xb] _ 5 (0, 0) rfl) (oneCell_v8 _) hcap.out hbt2.out (by simp; omega) ?_
                                 intro v2 w2 hown2 hg2 hat2
                                 have hg3 : (wr.alloc (.cells #[.int .u8 (I8 xb)] 5)).drew.grownBy w2 (Value.slice (some ad) (o1.length + j) cx).ownBlock := hg2
                                 obtain ⟨A7, c7, rfl, y7, f7, fin7⟩ := copied hg3 hown2 hBk hOk HLEN.out HIX.out HXB.out hBl hRk
                                 clear hg2 hg3 hown2 hat2))
                            all_goals
                              go_wp2_with fail
                              rw [HJW.out]
                              exact ⟨⟨j + 1, A7, c7, hlt, rfl, fin7.out⟩, meas hlt⟩
                          · obtain rfl : j = M := by omega
                            go_wp2_with fail
                            have hue := HSQ3.out
                            have e1 := HLL.out
                            have e2 := HF.out
                            have e3 := HD0.out
                            have e4 := HD2.out
                            have e5 := HM2.out
                            have e6 := HK1.out
                            rw [if_neg (by omega), if_neg (by rw [List.length_append]; omega), if_neg (by rw [List.length_append]; omega), ← HO1.out] at hue
                            have e7 := HG2.out
                            have e8 := hb3.out
                            have e9 := HB3L.out
                            have h9 := HR9.out.le
                            have hR9 : Rdr wr p b5 (.slice Ax (copyN o1 d j).length cx) A9 c9 := ⟨by rw [hlen]; exact hBk, hRk, h9⟩
                            refine ⟨⟨b5, copyN o1 d j, A9, c9, Ax, cx, by simp at e8; omega, hR9, by rw [hlen]; exact hOk, by rw [hlen]; omega, hue.symm, hBl⟩, ?_⟩
                            rw [hR9.left, HR.out.left]
                            simp at e8 e9 ⊢
                            omega
end Go.Proofs.Ytkmcddfeadbahaa

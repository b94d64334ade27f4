/- The contract of Decode. -/
import Derived.Test.YthhgmanoifpoiaaCrE
import Derived.Deep.RegionHeld3
import Derived.Deep.CutRange
namespace Go.Proofs.Ythhgmanoifpoiaa
open Go.RowKit
set_option linter.unusedVariables false

def zeroV : Value := .agg #[.int .i64 0, .int .i64 0, .int .i64 0, .float .f64 0, .int .i64 0, .int .i64 0, .int .i64 0, .int .i64 0]
def gainAt (bs : List B8) : Nat := numL ((bs.drop 30).take 8)
def crownV (bs : List B8) : Value := .agg #[.int .i64 (numAt bs 2), .int .i64 (numAt bs 6), .int .i64 (numAt bs 10), .float .f64 (gainAt bs), .int .i64 (numAt bs 14), .int .i64 (numAt bs 18), .int .i64 (numAt bs 22), .int .i64 (numAt bs 26)]
def mayAt (bs : List B8) : Bool := mayB (numAt bs 2) (numAt bs 6) (numAt bs 10) (gainAt bs) (numAt bs 14) (numAt bs 18) (numAt bs 22) (numAt bs 26)
def sumAt (bs : List B8) : Bool := decide (numAt bs 60 = I32 (sum (bs.take 60)))
def zerosAt (bs : List B8) : Bool := decide ((bs.drop 38).take 22 = List.replicate 22 0#8)
def headAt (bs : List B8) : Bool := decide (bs.take 2 = [0xc0#8, 0x9e#8])
def decE (bs : List B8) : Int := if bs.length = 64 then (if sumAt bs then (if headAt bs && (mayAt bs && zerosAt bs) then 0 else 4) else 5) else 1
def decV (bs : List B8) : Value := if decE bs = 0 then crownV bs else zeroV

/-- The numbers read so far. -/
def lK (bs : List B8) (j : Nat) : Array Value := ((List.range 7).map fun i => Value.int .i64 (if i < j then numAt bs (2 + 4 * i) else 0)).toArray
theorem head_at {bs : List B8} {b0 b1 : B8} (h0 : bs[0]? = some b0) (h1 : bs[1]? = some b1) : headAt bs = (decide (b0 = 0xc0#8) && decide (b1 = 0x9e#8)) := by
  match bs, h0, h1 with
  | x :: y :: l, h0, h1 =>
    simp at h0 h1
    subst h0 h1
    unfold headAt
    simp
theorem ne_lit (b : B8) (k : B8) : ((I8 b != I8 k)) = !decide (b = k) := by
  by_cases h : b = k
  · subst h; simp
  · rw [decide_eq_false h]; simp only [Bool.not_false, bne_iff_ne]; exact fun e => h (I8.inj e)
theorem equal_val {xs ys : List B8} (v : Bool) (hv : decide (xs = ys) = v) (A : Option Addr) (n c : Nat) (A2 : Option Addr) (n2 c2 : Nat) (B B2 : Nat) (w : World) (hr : Rd w B A n xs) (hr2 : Rd w B2 A2 n2 ys) :
    Calls Try.prog 49 #[.slice A n c, .slice A2 n2 c2] w fun e w' => e = .returned (.bool v) ∧ w = w' := by
  subst hv
  exact equal_any A n c xs A2 n2 c2 ys B B2 w hr hr2
theorem rd_at {w : World} {B n k m : Nat} {ad : Addr} {bs : List B8} (h : Rd w B (some ad) n bs) (hk : k + m ≤ n) (h0 : 0 < k) : Rd w B (some ⟨ad.block, ad.off + k, none⟩) m ((bs.drop k).take m) := by
  have := (h.drop (k := k) (cap := k + n + 1) (by omega) (by omega)).take (k := m) (by omega)
  rw [if_neg (by omega)] at this
  simpa [Addr.add, show ¬ k = 0 by omega] using this
theorem num_at {k : Nat} {ad : Addr} {bs : List B8} {B n : Nat} (c : Nat) (w : World) (h : Rd w B (some ad) n bs) (hk : k + 4 ≤ n) (h0 : 0 < k) (hn : n ≤ 1000000) :
    Calls Try.prog 48 #[.slice (some ⟨ad.block, ad.off + k, none⟩) 4 c] w fun e w' => e = .returned (.int .u64 (numAt bs k)) ∧ w = w' :=
  num_any _ 4 c _ B w (rd_at h hk h0) (by decide)
theorem dec_arg (A : Option Addr) (n c : Nat) (w : World) (hn : ¬ n = 64) :
    Calls Try.prog 32 #[.slice A n c] w fun e w' => e = .returned (.tuple #[zeroV, .int .i64 1]) ∧ Below w.heap.size w w' := by
  have hne : ((n : Int) == 64) = false := by rw [beq_eq_false_iff_ne]; omega
  have hst := storeFloat
  go_enter Try.func32, Try.ntmps32
  go_wp2
  go_returns
  exact ⟨rfl, (Below.refl _ _).alloc (Nat.le_refl _) _⟩
set_option maxHeartbeats 2000000 in
theorem dec_sum (A : Option Addr) (c : Nat) (bs : List B8) (w : World) (hr : Rd w w.heap.size A 64 bs) (hc : 64 ≤ c) (hs : sumAt bs = false) :
    Calls Try.prog 32 #[.slice A 64 c] w fun e w' => e = .returned (.tuple #[zeroV, .int .i64 5]) ∧ Below w.heap.size w w' := by
  obtain ⟨hS0, hS1⟩ := I32.bd (sum (bs.take 60))
  obtain ⟨Z, hZ⟩ : ∃ Z, Z = I32 (sum (bs.take 60)) := ⟨_, rfl⟩
  have hq : (numAt bs 60 != Z) = true := by rw [hZ, bne_iff_ne]; exact of_decide_eq_false hs
  rw [← hZ] at hS0 hS1
  have HZ := Lib.hid hZ.symm
  have hst := storeFloat
  obtain ⟨ad, _, rfl, _⟩ := hr.at_ (k := 0) (by decide)
  have h60 : ¬ c = 60 := by omega
  have HR := Lib.hid (hr.alloc (Nat.le_refl _) (.cells #[.int .i64 0, .int .i64 0, .int .i64 0, .float .f64 0, .int .i64 0, .int .i64 0, .int .i64 0, .int .i64 0] 51))
  have HSM := fun k c => by
    have := sum_any _ 60 c _ _ _ ((HR.out.drewN k).take (k := 60) (by decide)) (by decide)
    rw [HZ.out] at this
    exact Lib.hid this
  clear hr hs hZ
  go_enter Try.func32, Try.ntmps32
  go_wp2
  go_quiet (first
    | (go_at_call 48; exact quietSame (num_at (k := 60) _ _ (HR.out.drewN _) (by decide) (by decide) (by decide)))
    | (go_at_call 44; exact quietSame (HSM _ _).out))
  go_wp2_with fail
  go_returns
  refine ⟨rfl, ?_⟩
  repeat (first | with_reducible exact Below.refl _ _ | (with_reducible refine Below.setCell ?_ (by simp) _) | (with_reducible refine below_drewN ?_ _) | (with_reducible refine Below.alloc ?_ (by simp) _))

set_option maxHeartbeats 8000000 in
theorem dec_rest (A : Option Addr) (c : Nat) (bs : List B8) (w : World) (hr : Rd w w.heap.size A 64 bs) (hc : 64 ≤ c) (hs : sumAt bs = true) :
    Calls Try.prog 32 #[.slice A 64 c] w fun e w' => e = .returned (.tuple #[decV bs, .int .i64 (decE bs)]) ∧ Below w.heap.size w w' := by
  obtain ⟨hS0, hS1⟩ := I32.bd (sum (bs.take 60))
  obtain ⟨Z, hZ⟩ : ∃ Z, Z = I32 (sum (bs.take 60)) := ⟨_, rfl⟩
  have hq : (numAt bs 60 != Z) = false := by rw [hZ, bne_eq_false_iff_eq]; exact of_decide_eq_true hs
  rw [← hZ] at hS0 hS1
  have HZ := Lib.hid hZ.symm
  have hst := storeFloat
  obtain ⟨ad, _, rfl, _⟩ := hr.at_ (k := 0) (by decide)
  have h60 : ¬ c = 60 := by omega
  have HR := Lib.hid (hr.alloc (Nat.le_refl _) (.cells #[.int .i64 0, .int .i64 0, .int .i64 0, .float .f64 0, .int .i64 0, .int .i64 0, .int .i64 0, .int .i64 0] 51))
  have HSM := fun k c => by
    have := sum_any _ 60 c _ _ _ ((HR.out.drewN k).take (k := 60) (by decide)) (by decide)
    rw [HZ.out] at this
    exact Lib.hid this
  have HR0 := Lib.hid hr
  have HSS := Lib.hid hs
  clear hr hs hZ
  go_enter Try.func32, Try.ntmps32
  go_wp2
  go_quiet (first
    | (go_at_call 48; exact quietSame (num_at (k := 60) _ _ (HR.out.drewN _) (by decide) (by decide) (by decide)))
    | (go_at_call 44; exact quietSame (HSM _ _).out))
  go_upto_region 6 with fail
  have L5 := Lib.hid (Blk.new ((w.alloc (.cells #[.int .i64 0, .int .i64 0, .int .i64 0, .float .f64 0, .int .i64 0, .int .i64 0, .int .i64 0, .int .i64 0] 51)).drewN nq) 82 #[.int .i64 0, .int .i64 0, .int .i64 0, .int .i64 0, .int .i64 0, .int .i64 0, .int .i64 0])
  have HB5 := Lib.hid ((below_drewN ((Below.refl w.heap.size w).alloc (Nat.le_refl _) (.cells #[.int .i64 0, .int .i64 0, .int .i64 0, .float .f64 0, .int .i64 0, .int .i64 0, .int .i64 0, .int .i64 0] 51)) nq).alloc (by simp) (.cells #[.int .i64 0, .int .i64 0, .int .i64 0, .int .i64 0, .int .i64 0, .int .i64 0, .int .i64 0] 82))
  have Q5 := Lib.hid (((Blk.new w 51 #[.int .i64 0, .int .i64 0, .int .i64 0, .float .f64 0, .int .i64 0, .int .i64 0, .int .i64 0, .int .i64 0]).drewN nq).alloc (.cells #[.int .i64 0, .int .i64 0, .int .i64 0, .int .i64 0, .int .i64 0, .int .i64 0, .int .i64 0] 82))
  generalize hW : ((w.alloc (.cells #[.int .i64 0, .int .i64 0, .int .i64 0, .float .f64 0, .int .i64 0, .int .i64 0, .int .i64 0, .int .i64 0] 51)).drewN nq).alloc (.cells #[.int .i64 0, .int .i64 0, .int .i64 0, .int .i64 0, .int .i64 0, .int .i64 0, .int .i64 0] 82) = w5 at *
  have hs5 : w5.heap.size = w.heap.size + 2 := by rw [← hW]; simp
  have L5' : Hid (Blk w5 (w.heap.size + 1) 82 (lK bs 0)) := by have := L5.out; simp at this; exact this
  clear L5 hW HR HSM hq hS0 hS1 HZ
  have bd2 := numAt_bd bs 2
  have bd6 := numAt_bd bs 6
  have bd10 := numAt_bd bs 10
  have bd14 := numAt_bd bs 14
  have bd18 := numAt_bd bs 18
  have bd22 := numAt_bd bs 22
  have bd26 := numAt_bd bs 26
  have c2 : ¬ c = 2 := by omega
  have c6 : ¬ c = 6 := by omega
  have c10 : ¬ c = 10 := by omega
  have c14 : ¬ c = 14 := by omega
  have c18 : ¬ c = 18 := by omega
  have c22 : ¬ c = 22 := by omega
  have c26 : ¬ c = 26 := by omega
  go_wp2_with fail
  go_loopw [24] (fun i wr => ∃ j : Nat, j ≤ 7 ∧ i = .int .i64 (j : Int) ∧ Blk wr (w.heap.size + 1) 82 (lK bs j) ∧ Blk wr w.heap.size 51 #[.int .i64 0, .int .i64 0, .int .i64 0, .float .f64 0, .int .i64 0, .int .i64 0, .int .i64 0, .int .i64 0] ∧ Below w.heap.size w wr ∧ w5.heap.size ≤ wr.heap.size) (fun i _ => 7 - (intOf i).toNat)
  case atStart => exact ⟨0, by omega, rfl, L5'.out, Q5.out, HB5.out, Nat.le_refl _⟩
  case round =>
    clear L5' HB5 Q5
    obtain ⟨j, hj, rfl, hL, hQ, hB, hsz⟩ := hrel
    have QQ := Lib.hid hQ
    have LL := Lib.hid hL
    have BB := Lib.hid hB
    have SZ := Lib.hid hsz
    have RR := Lib.hid (HR0.out.below hB)
    clear hL hQ hB hsz
    rcases (by omega : j = 0 ∨ j = 1 ∨ j = 2 ∨ j = 3 ∨ j = 4 ∨ j = 5 ∨ j = 6 ∨ j = 7) with rfl | rfl | rfl | rfl | rfl | rfl | rfl | rfl
    · have x := LL.out.cell 0
      have y := LL.out.frozen 0
      have z : (lK bs 0)[0]? = some (.int .i64 0) := rfl
      rw [z] at x
      clear z
      go_wp2_with (go_at_call 48; with_reducible refine (num_at (k := 2) _ _ RR.out (by decide) (by decide) (by decide)).mono ?_; rintro e w' ⟨rfl, rfl⟩)
      exact ⟨⟨1, by omega, rfl, LL.out.set_ 0 _, QQ.out.far (by simp) _, BB.out.setCell (by simp) _, by simp; exact SZ.out⟩, by simp only [intOf]; omega⟩
    · have x := LL.out.cell 1
      have y := LL.out.frozen 1
      have z : (lK bs 1)[1]? = some (.int .i64 0) := rfl
      rw [z] at x
      clear z
      go_wp2_with (go_at_call 48; with_reducible refine (num_at (k := 6) _ _ RR.out (by decide) (by decide) (by decide)).mono ?_; rintro e w' ⟨rfl, rfl⟩)
      exact ⟨⟨2, by omega, rfl, LL.out.set_ 1 _, QQ.out.far (by simp) _, BB.out.setCell (by simp) _, by simp; exact SZ.out⟩, by simp only [intOf]; omega⟩
    · have x := LL.out.cell 2
      have y := LL.out.frozen 2
      have z : (lK bs 2)[2]? = some (.int .i64 0) := rfl
      rw [z] at x
      clear z
      go_wp2_with (go_at_call 48; with_reducible refine (num_at (k := 10) _ _ RR.out (by decide) (by decide) (by decide)).mono ?_; rintro e w' ⟨rfl, rfl⟩)
      exact ⟨⟨3, by omega, rfl, LL.out.set_ 2 _, QQ.out.far (by simp) _, BB.out.setCell (by simp) _, by simp; exact SZ.out⟩, by simp only [intOf]; omega⟩
    · have x := LL.out.cell 3
      have y := LL.out.frozen 3
      have z : (lK bs 3)[3]? = some (.int .i64 0) := rfl
      rw [z] at x
      clear z
      go_wp2_with (go_at_call 48; with_reducible refine (num_at (k := 14) _ _ RR.out (by decide) (by decide) (by decide)).mono ?_; rintro e w' ⟨rfl, rfl⟩)
      exact ⟨⟨4, by omega, rfl, LL.out.set_ 3 _, QQ.out.far (by simp) _, BB.out.setCell (by simp) _, by simp; exact SZ.out⟩, by simp only [intOf]; omega⟩
    · have x := LL.out.cell 4
      have y := LL.out.frozen 4
      have z : (lK bs 4)[4]? = some (.int .i64 0) := rfl
      rw [z] at x
      clear z
      go_wp2_with (go_at_call 48; with_reducible refine (num_at (k := 18) _ _ RR.out (by decide) (by decide) (by decide)).mono ?_; rintro e w' ⟨rfl, rfl⟩)
      exact ⟨⟨5, by omega, rfl, LL.out.set_ 4 _, QQ.out.far (by simp) _, BB.out.setCell (by simp) _, by simp; exact SZ.out⟩, by simp only [intOf]; omega⟩
    · have x := LL.out.cell 5
      have y := LL.out.frozen 5
      have z : (lK bs 5)[5]? = some (.int .i64 0) := rfl
      rw [z] at x
      clear z
      go_wp2_with (go_at_call 48; with_reducible refine (num_at (k := 22) _ _ RR.out (by decide) (by decide) (by decide)).mono ?_; rintro e w' ⟨rfl, rfl⟩)
      exact ⟨⟨6, by omega, rfl, LL.out.set_ 5 _, QQ.out.far (by simp) _, BB.out.setCell (by simp) _, by simp; exact SZ.out⟩, by simp only [intOf]; omega⟩
    · have x := LL.out.cell 6
      have y := LL.out.frozen 6
      have z : (lK bs 6)[6]? = some (.int .i64 0) := rfl
      rw [z] at x
      clear z
      go_wp2_with (go_at_call 48; with_reducible refine (num_at (k := 26) _ _ RR.out (by decide) (by decide) (by decide)).mono ?_; rintro e w' ⟨rfl, rfl⟩)
      exact ⟨⟨7, by omega, rfl, LL.out.set_ 6 _, QQ.out.far (by simp) _, BB.out.setCell (by simp) _, by simp; exact SZ.out⟩, by simp only [intOf]; omega⟩
    · have x0 := LL.out.cell 0
      have x1 := LL.out.cell 1
      have x2 := LL.out.cell 2
      rw [show (lK bs 7)[0]? = some (.int .i64 (numAt bs 2)) from rfl] at x0
      rw [show (lK bs 7)[1]? = some (.int .i64 (numAt bs 6)) from rfl] at x1
      rw [show (lK bs 7)[2]? = some (.int .i64 (numAt bs 10)) from rfl] at x2
      obtain ⟨G, hG⟩ : ∃ G : Int, G = ((gainAt bs : Nat) : Int) := ⟨_, rfl⟩
      have hub := fun w => run_unbits ((gainAt bs : Nat) : Int) w
      simp only [Int.toNat_natCast] at hub
      rw [← hG] at hub
      have c30 : ¬ c = 30 := by omega
      have N8 : ∀ W c', Rd W w.heap.size (some ad) 64 bs → Calls Try.prog 48 #[.slice (some ⟨ad.block, ad.off + 30, none⟩) 8 c'] W fun e w' => e = .returned (.int .u64 G) ∧ W = w' := fun W c' h => by
        rw [hG]; exact num_any _ 8 c' _ _ W (rd_at h (by decide) (by decide)) (by decide)
      have N8' := Lib.hid N8
      have hgl : w.heap.size + 2 ≤ wr.heap.size := by rw [← hs5]; exact SZ.out
      clear N8 hG bd2 bd6 bd10 bd14 bd18 bd22 bd26
      go_upto_region 12 with fail
      have h7 : ((7 : Nat) : Int) = 7 := rfl
      simp only [h7]
      go_cut [7] from 40 to 50 (fun q wx => q = .pointer (some ⟨wr.heap.size, 0, none⟩) ∧ wx = (wr.alloc (.cells #[.int .i64 (numAt bs 2), .int .i64 (numAt bs 6), .int .i64 (numAt bs 10), .float .f64 (gainAt bs), .int .i64 0, .int .i64 0, .int .i64 0, .int .i64 0] 51)).drew)
      case first =>
        have y0 : wr.drew.cell? ⟨w.heap.size + 1, 0, none⟩ = _ := x0
        have y1 : wr.drew.cell? ⟨w.heap.size + 1, 1, none⟩ = _ := x1
        have y2 : wr.drew.cell? ⟨w.heap.size + 1, 2, none⟩ = _ := x2
        have RD := Lib.hid RR.out.drew
        have RA := fun o => Lib.hid (RR.out.alloc BB.out.size o)
        have hcI : (38 : Int) ≤ (c : Int) := by omega
        have hcN : 38 ≤ c := by omega
        go_region_held3 (fun w' => w'.cell? ⟨w.heap.size + 1, 0, none⟩ = some (.int .i64 (numAt bs 2)) ∧ w'.cell? ⟨w.heap.size + 1, 1, none⟩ = some (.int .i64 (numAt bs 6)) ∧ w'.cell? ⟨w.heap.size + 1, 2, none⟩ = some (.int .i64 (numAt bs 10))) (first | assumption | exact ⟨y0, y1, y2⟩ | go_keep) (first
          | (go_at_call 48
             first
               | with_reducible refine (N8'.out _ _ RD.out).mono ?_
               | with_reducible refine (N8'.out _ _ (RA _).out).mono ?_
               | with_reducible refine (N8'.out _ _ (RA _).out.drew).mono ?_
             rintro e w' ⟨rfl, rfl⟩)
          | fail)
        all_goals
          go_wp2_with fail
          go_meet
          exact ⟨rfl, rfl⟩
      case rest =>
      obtain ⟨rfl, hW⟩ := hcut
      have C6 := Lib.hid (Blk.new wr 51 #[.int .i64 (numAt bs 2), .int .i64 (numAt bs 6), .int .i64 (numAt bs 10), .float .f64 (gainAt bs), .int .i64 0, .int .i64 0, .int .i64 0, .int .i64 0]).drew
      have L6 := Lib.hid (LL.out.alloc (.cells #[.int .i64 (numAt bs 2), .int .i64 (numAt bs 6), .int .i64 (numAt bs 10), .float .f64 (gainAt bs), .int .i64 0, .int .i64 0, .int .i64 0, .int .i64 0] 51)).drew
      have Q6 := Lib.hid (QQ.out.alloc (.cells #[.int .i64 (numAt bs 2), .int .i64 (numAt bs 6), .int .i64 (numAt bs 10), .float .f64 (gainAt bs), .int .i64 0, .int .i64 0, .int .i64 0, .int .i64 0] 51)).drew
      have B6 := Lib.hid (below_drewN (BB.out.alloc BB.out.size (.cells #[.int .i64 (numAt bs 2), .int .i64 (numAt bs 6), .int .i64 (numAt bs 10), .float .f64 (gainAt bs), .int .i64 0, .int .i64 0, .int .i64 0, .int .i64 0] 51)) 1)
      have R6 := Lib.hid (RR.out.alloc BB.out.size (.cells #[.int .i64 (numAt bs 2), .int .i64 (numAt bs 6), .int .i64 (numAt bs 10), .float .f64 (gainAt bs), .int .i64 0, .int .i64 0, .int .i64 0, .int .i64 0] 51)).drew
      have S6 : wc.heap.size = wr.heap.size + 1 := by rw [hW]; simp
      change Hid (Below _ _ (World.drew _)) at B6
      rw [← hW] at C6 L6 Q6 B6 R6
      clear hW x0 x1 x2 hub N8' RR LL BB SZ QQ
      have x3 := L6.out.cell 3
      have x4 := L6.out.cell 4
      have x5 := L6.out.cell 5
      have x6 := L6.out.cell 6
      rw [show (lK bs 7)[3]? = some (.int .i64 (numAt bs 14)) from rfl] at x3
      rw [show (lK bs 7)[4]? = some (.int .i64 (numAt bs 18)) from rfl] at x4
      rw [show (lK bs 7)[5]? = some (.int .i64 (numAt bs 22)) from rfl] at x5
      rw [show (lK bs 7)[6]? = some (.int .i64 (numAt bs 26)) from rfl] at x6
      have z4 := C6.out.cell 4
      have z5 := C6.out.cell 5
      have z6 := C6.out.cell 6
      have z7 := C6.out.cell 7
      have f4 := C6.out.frozen 4
      have f5 := C6.out.frozen 5
      have f6 := C6.out.frozen 6
      have f7 := C6.out.frozen 7
      simp at z4 z5 z6 z7
      go_upto_region 14 with fail
      have C7 := Lib.hid ((((C6.out.set_ 4 (.int .i64 (numAt bs 14))).set_ 5 (.int .i64 (numAt bs 18))).set_ 6 (.int .i64 (numAt bs 22))).set_ 7 (.int .i64 (numAt bs 26)))
      have ng : ¬ w.heap.size = wr.heap.size := by omega
      have Q7 := Lib.hid ((((Q6.out.far (p := ⟨wr.heap.size, 4, none⟩) ng (.int .i64 (numAt bs 14))).far (p := ⟨wr.heap.size, 5, none⟩) ng (.int .i64 (numAt bs 18))).far (p := ⟨wr.heap.size, 6, none⟩) ng (.int .i64 (numAt bs 22))).far (p := ⟨wr.heap.size, 7, none⟩) ng (.int .i64 (numAt bs 26)))
      have lg : w.heap.size ≤ wr.heap.size := by omega
      have B7 := Lib.hid ((((B6.out.setCell (p := ⟨wr.heap.size, 4, none⟩) lg (.int .i64 (numAt bs 14))).setCell (p := ⟨wr.heap.size, 5, none⟩) lg (.int .i64 (numAt bs 18))).setCell (p := ⟨wr.heap.size, 6, none⟩) lg (.int .i64 (numAt bs 22))).setCell (p := ⟨wr.heap.size, 7, none⟩) lg (.int .i64 (numAt bs 26)))
      have R7 := Lib.hid ((((R6.out.setCell (p := ⟨wr.heap.size, 4, none⟩) lg (.int .i64 (numAt bs 14))).setCell (p := ⟨wr.heap.size, 5, none⟩) lg (.int .i64 (numAt bs 18))).setCell (p := ⟨wr.heap.size, 6, none⟩) lg (.int .i64 (numAt bs 22))).setCell (p := ⟨wr.heap.size, 7, none⟩) lg (.int .i64 (numAt bs 26)))
      generalize hW : (((wc.setCell ⟨wr.heap.size, 4, none⟩ (.int .i64 (numAt bs 14))).setCell ⟨wr.heap.size, 5, none⟩ (.int .i64 (numAt bs 18))).setCell ⟨wr.heap.size, 6, none⟩ (.int .i64 (numAt bs 22))).setCell ⟨wr.heap.size, 7, none⟩ (.int .i64 (numAt bs 26)) = w7 at *
      have S7 : w7.heap.size = wr.heap.size + 1 := by rw [← hW]; simp [S6]
      have C7' : Hid (Blk w7 wr.heap.size 51 #[.int .i64 (numAt bs 2), .int .i64 (numAt bs 6), .int .i64 (numAt bs 10), .float .f64 (gainAt bs), .int .i64 (numAt bs 14), .int .i64 (numAt bs 18), .int .i64 (numAt bs 22), .int .i64 (numAt bs 26)]) := by have := C7.out; simp at this; exact this
      clear hW C6 L6 B6 R6 Q6 C7 x3 x4 x5 x6 z4 z5 z6 z7 f4 f5 f6 f7
      generalize wr.heap.size = gc at *
      have v0 := C7'.out.cell 0
      have v1 := C7'.out.cell 1
      have v2 := C7'.out.cell 2
      have v3 := C7'.out.cell 3
      have v4 := C7'.out.cell 4
      have v5 := C7'.out.cell 5
      have v6 := C7'.out.cell 6
      have v7 := C7'.out.cell 7
      simp at v0 v1 v2 v3 v4 v5 v6 v7
      obtain ⟨_, b0, e0, _, hb0, hc0⟩ := R7.out.at_ (k := 0) (by decide)
      injection e0 with e0; subst e0
      obtain ⟨_, b1, e1, _, hb1, hc1⟩ := R7.out.at_ (k := 1) (by decide)
      injection e1 with e1; subst e1
      simp only [Addr.add, if_true, if_false, show ¬ (1 : Nat) = 0 by decide] at hc0 hc1
      have HH := Lib.hid (head_at hb0 hb1)
      clear hb0 hb1
      have hcI : (60 : Int) ≤ (c : Int) := by omega
      have c38 : ¬ c = 38 := by omega
      have hgb : gainAt bs < 18446744073709551616 := by
        have h1 := numL_lt ((bs.drop 30).take 8)
        have h2 : 256 ^ ((bs.drop 30).take 8).length ≤ 256 ^ 8 := Nat.pow_le_pow_right (by decide) (by simp; omega)
        unfold gainAt
        simp only [Nat.reducePow] at h2
        omega
      obtain ⟨i0, hi, hz0, hz1, hz2⟩ := info_parts info5
      have hmz : ∀ W : World, (Instr.makeSlice 43 (.int .i64 22) (.int .i64 22)).run Try.prog W = .ok (.slice (some ⟨W.heap.size, 0, none⟩) 22 22) (W.alloc (.cells (zeros 22) 5)) := fun W => make_zeros (P := Try.prog) 43 5 i0 Try.underlying43 hi hz0 hz1 hz2 22 (by decide) W
      obtain ⟨Z22, hZ22⟩ : ∃ Z, zeros 22 = Z := ⟨_, rfl⟩
      rw [hZ22] at hmz
      have hlen : bs.length = 64 := R7.out.len
      have hh := HH.out
      have n0 := ne_lit b0 0xc0#8
      have n1 := ne_lit b1 0x9e#8
      rw [show I8 (0xc0#8) = 192 from rfl] at n0
      rw [show I8 (0x9e#8) = 158 from rfl] at n1
      rcases tf (decide (b0 = 0xc0#8)) with t0 | t0 <;> rw [t0] at n0 hh
      rcases tf (decide (b1 = 0x9e#8)) with t1 | t1 <;> rw [t1] at n1 hh
      rcases tf (mayAt bs) with t2 | t2
      rcases tf (zerosAt bs) with t3 | t3
      · have HV : Hid (Value.tuple #[crownV bs, .int .i64 0] = Value.tuple #[decV bs, .int .i64 (decE bs)]) := by
          have hE : decE bs = 0 := by unfold decE; rw [if_pos hlen, if_pos HSS.out, if_pos (by rw [hh, t2, t3]; rfl)]
          show _ = _
          unfold decV
          rw [hE]; rfl
        simp only [Bool.not_true, Bool.not_false] at n0 n1
        have hm : mayB (numAt bs 2) (numAt bs 6) (numAt bs 10) (gainAt bs) (numAt bs 14) (numAt bs 18) (numAt bs 22) (numAt bs 26) = true := t2
        have HZZ : Hid (decide ((bs.drop 38).take 22 = List.replicate 22 0#8) = true) := t3
        clear hh t0 t1 t2 t3 HH
        go_upto_region 17 with (first
          | (go_at_call 30
             refine (may_any _ _ _ _ _ _ _ _ _ hgb).mono ?_
             rintro e w8 ⟨rfl, hb8⟩
             have S8 := hb8.size
             have C8 := Lib.hid (C7'.out.below hb8 (by omega))
             have Q8 := Lib.hid (Q7.out.below hb8 (by omega))
             have B8' := Lib.hid (B7.out.trans (hb8.mono (by omega)))
             have E1 := Lib.hid (((rd_at (k := 38) (m := 22) (R7.out.below (hb8.mono (by omega))) (by decide) (by decide)).more (B' := w8.heap.size) (by omega)).alloc (Nat.le_refl _) (.cells (zeros 22) 5))
             have E2 := Lib.hid (rd_zeros w8 w8.heap.size 22 5 (0, 0) rfl)
             rw [hZ22] at E1 E2
             clear hb8)
          | (go_at_call 49; with_reducible refine (equal_val true HZZ.out _ _ _ _ _ _ _ _ _ E1.out E2.out).mono ?_; rintro e w' ⟨rfl, rfl⟩)
          | fail)
        have Q9 := Lib.hid (Q8.out.alloc (.cells Z22 5))
        have C9 := Lib.hid (C8.out.alloc (.cells Z22 5))
        have B9 := Lib.hid (B8'.out.alloc (by omega) (.cells Z22 5))
        have S9 : (w8.alloc (.cells Z22 5)).heap.size = w8.heap.size + 1 := by simp
        clear E1 E2
        generalize hX : w8.alloc (.cells Z22 5) = w9 at *
        clear hX
        clear v0 v1 v2 v3 v4 v5 v6 v7
        have q0 := Q9.out.cell 0
        have g0 := Q9.out.frozen 0
        have q1 := Q9.out.cell 1
        have g1 := Q9.out.frozen 1
        have q2 := Q9.out.cell 2
        have g2 := Q9.out.frozen 2
        have q3 := Q9.out.cell 3
        have g3 := Q9.out.frozen 3
        have q4 := Q9.out.cell 4
        have g4 := Q9.out.frozen 4
        have q5 := Q9.out.cell 5
        have g5 := Q9.out.frozen 5
        have q6 := Q9.out.cell 6
        have g6 := Q9.out.frozen 6
        have q7 := Q9.out.cell 7
        have g7 := Q9.out.frozen 7
        simp at q0 q1 q2 q3 q4 q5 q6 q7
        have v0 := C9.out.cell 0
        have v1 := C9.out.cell 1
        have v2 := C9.out.cell 2
        have v3 := C9.out.cell 3
        have v4 := C9.out.cell 4
        have v5 := C9.out.cell 5
        have v6 := C9.out.cell 6
        have v7 := C9.out.cell 7
        simp at v0 v1 v2 v3 v4 v5 v6 v7
        go_wp2_with fail
        have Y := ((((((((Q9.out).set_ 0 (.int .i64 (numAt bs 2))).set_ 1 (.int .i64 (numAt bs 6))).set_ 2 (.int .i64 (numAt bs 10))).set_ 3 (.float .f64 (gainAt bs))).set_ 4 (.int .i64 (numAt bs 14))).set_ 5 (.int .i64 (numAt bs 18))).set_ 6 (.int .i64 (numAt bs 22))).set_ 7 (.int .i64 (numAt bs 26))
        have BY := ((((((((B9.out).setCell (p := ⟨w.heap.size, 0, none⟩) (Nat.le_refl _) (.int .i64 (numAt bs 2))).setCell (p := ⟨w.heap.size, 1, none⟩) (Nat.le_refl _) (.int .i64 (numAt bs 6))).setCell (p := ⟨w.heap.size, 2, none⟩) (Nat.le_refl _) (.int .i64 (numAt bs 10))).setCell (p := ⟨w.heap.size, 3, none⟩) (Nat.le_refl _) (.float .f64 (gainAt bs))).setCell (p := ⟨w.heap.size, 4, none⟩) (Nat.le_refl _) (.int .i64 (numAt bs 14))).setCell (p := ⟨w.heap.size, 5, none⟩) (Nat.le_refl _) (.int .i64 (numAt bs 18))).setCell (p := ⟨w.heap.size, 6, none⟩) (Nat.le_refl _) (.int .i64 (numAt bs 22))).setCell (p := ⟨w.heap.size, 7, none⟩) (Nat.le_refl _) (.int .i64 (numAt bs 26))
        generalize ((((((((w9.setCell ⟨w.heap.size, 0, none⟩ (.int .i64 (numAt bs 2))).setCell ⟨w.heap.size, 1, none⟩ (.int .i64 (numAt bs 6))).setCell ⟨w.heap.size, 2, none⟩ (.int .i64 (numAt bs 10))).setCell ⟨w.heap.size, 3, none⟩ (.float .f64 (gainAt bs))).setCell ⟨w.heap.size, 4, none⟩ (.int .i64 (numAt bs 14))).setCell ⟨w.heap.size, 5, none⟩ (.int .i64 (numAt bs 18))).setCell ⟨w.heap.size, 6, none⟩ (.int .i64 (numAt bs 22))).setCell ⟨w.heap.size, 7, none⟩ (.int .i64 (numAt bs 26))) = wz at *
        have y0 := Y.cell 0
        have y1 := Y.cell 1
        have y2 := Y.cell 2
        have y3 := Y.cell 3
        have y4 := Y.cell 4
        have y5 := Y.cell 5
        have y6 := Y.cell 6
        have y7 := Y.cell 7
        simp at y0 y1 y2 y3 y4 y5 y6 y7
        (try simp only [Exit.inBlock, Exit.then])
        refine bodyPost_ret (by simp [results, Try.results32, go_sem, y0, y1, y2, y3, y4, y5, y6, y7]; try rfl) rfl ?_
        exact ⟨congrArg Ending.returned (HV.out), BY⟩
      · have HV : Hid (Value.tuple #[zeroV, .int .i64 4] = Value.tuple #[decV bs, .int .i64 (decE bs)]) := by
          have hE : decE bs = 4 := by unfold decE; rw [if_pos hlen, if_pos HSS.out, if_neg (by rw [hh, t2, t3]; decide)]
          show _ = _
          unfold decV
          rw [hE]; rfl
        simp only [Bool.not_true, Bool.not_false] at n0 n1
        have hm : mayB (numAt bs 2) (numAt bs 6) (numAt bs 10) (gainAt bs) (numAt bs 14) (numAt bs 18) (numAt bs 22) (numAt bs 26) = true := t2
        have HZZ : Hid (decide ((bs.drop 38).take 22 = List.replicate 22 0#8) = false) := t3
        clear hh t0 t1 t2 t3 HH
        go_upto_region 16 with (first
          | (go_at_call 30
             refine (may_any _ _ _ _ _ _ _ _ _ hgb).mono ?_
             rintro e w8 ⟨rfl, hb8⟩
             have S8 := hb8.size
             have C8 := Lib.hid (C7'.out.below hb8 (by omega))
             have Q8 := Lib.hid (Q7.out.below hb8 (by omega))
             have B8' := Lib.hid (B7.out.trans (hb8.mono (by omega)))
             have E1 := Lib.hid (((rd_at (k := 38) (m := 22) (R7.out.below (hb8.mono (by omega))) (by decide) (by decide)).more (B' := w8.heap.size) (by omega)).alloc (Nat.le_refl _) (.cells (zeros 22) 5))
             have E2 := Lib.hid (rd_zeros w8 w8.heap.size 22 5 (0, 0) rfl)
             rw [hZ22] at E1 E2
             clear hb8)
          | (go_at_call 49; with_reducible refine (equal_val false HZZ.out _ _ _ _ _ _ _ _ _ E1.out E2.out).mono ?_; rintro e w' ⟨rfl, rfl⟩)
          | fail)
        clear v0 v1 v2 v3 v4 v5 v6 v7 hc0 hc1
        have Q9 := Lib.hid (Q8.out.alloc (.cells Z22 5))
        have C9 := Lib.hid (C8.out.alloc (.cells Z22 5))
        have B9 := Lib.hid (B8'.out.alloc (by omega) (.cells Z22 5))
        have S9 : (w8.alloc (.cells Z22 5)).heap.size = w8.heap.size + 1 := by simp
        clear E1 E2
        generalize hX : w8.alloc (.cells Z22 5) = w9 at *
        clear hX
        have q0 := Q9.out.cell 0
        have g0 := Q9.out.frozen 0
        have q1 := Q9.out.cell 1
        have g1 := Q9.out.frozen 1
        have q2 := Q9.out.cell 2
        have g2 := Q9.out.frozen 2
        have q3 := Q9.out.cell 3
        have g3 := Q9.out.frozen 3
        have q4 := Q9.out.cell 4
        have g4 := Q9.out.frozen 4
        have q5 := Q9.out.cell 5
        have g5 := Q9.out.frozen 5
        have q6 := Q9.out.cell 6
        have g6 := Q9.out.frozen 6
        have q7 := Q9.out.cell 7
        have g7 := Q9.out.frozen 7
        simp at q0 q1 q2 q3 q4 q5 q6 q7
        go_wp2_with fail
        have Y := ((((((((Q9.out).set_ 0 (.int .i64 0)).set_ 1 (.int .i64 0)).set_ 2 (.int .i64 0)).set_ 3 (.float .f64 0)).set_ 4 (.int .i64 0)).set_ 5 (.int .i64 0)).set_ 6 (.int .i64 0)).set_ 7 (.int .i64 0)
        have BY := ((((((((B9.out).setCell (p := ⟨w.heap.size, 0, none⟩) (Nat.le_refl _) (.int .i64 0)).setCell (p := ⟨w.heap.size, 1, none⟩) (Nat.le_refl _) (.int .i64 0)).setCell (p := ⟨w.heap.size, 2, none⟩) (Nat.le_refl _) (.int .i64 0)).setCell (p := ⟨w.heap.size, 3, none⟩) (Nat.le_refl _) (.float .f64 0)).setCell (p := ⟨w.heap.size, 4, none⟩) (Nat.le_refl _) (.int .i64 0)).setCell (p := ⟨w.heap.size, 5, none⟩) (Nat.le_refl _) (.int .i64 0)).setCell (p := ⟨w.heap.size, 6, none⟩) (Nat.le_refl _) (.int .i64 0)).setCell (p := ⟨w.heap.size, 7, none⟩) (Nat.le_refl _) (.int .i64 0)
        generalize ((((((((w9.setCell ⟨w.heap.size, 0, none⟩ (.int .i64 0)).setCell ⟨w.heap.size, 1, none⟩ (.int .i64 0)).setCell ⟨w.heap.size, 2, none⟩ (.int .i64 0)).setCell ⟨w.heap.size, 3, none⟩ (.float .f64 0)).setCell ⟨w.heap.size, 4, none⟩ (.int .i64 0)).setCell ⟨w.heap.size, 5, none⟩ (.int .i64 0)).setCell ⟨w.heap.size, 6, none⟩ (.int .i64 0)).setCell ⟨w.heap.size, 7, none⟩ (.int .i64 0)) = wz at *
        have y0 := Y.cell 0
        have y1 := Y.cell 1
        have y2 := Y.cell 2
        have y3 := Y.cell 3
        have y4 := Y.cell 4
        have y5 := Y.cell 5
        have y6 := Y.cell 6
        have y7 := Y.cell 7
        simp at y0 y1 y2 y3 y4 y5 y6 y7
        (try simp only [Exit.inBlock, Exit.then])
        refine bodyPost_ret (by simp [results, Try.results32, go_sem, y0, y1, y2, y3, y4, y5, y6, y7]; try rfl) rfl ?_
        exact ⟨congrArg Ending.returned (HV.out), BY⟩
      · have HV : Hid (Value.tuple #[zeroV, .int .i64 4] = Value.tuple #[decV bs, .int .i64 (decE bs)]) := by
          have hE : decE bs = 4 := by unfold decE; rw [if_pos hlen, if_pos HSS.out, if_neg (by rw [hh, t2]; simp)]
          show _ = _
          unfold decV
          rw [hE]; rfl
        simp only [Bool.not_true, Bool.not_false] at n0 n1
        have hm : mayB (numAt bs 2) (numAt bs 6) (numAt bs 10) (gainAt bs) (numAt bs 14) (numAt bs 18) (numAt bs 22) (numAt bs 26) = false := t2
        clear hh t0 t1 t2 HH
        go_upto_region 16 with (first
          | (go_at_call 30
             refine (may_any _ _ _ _ _ _ _ _ _ hgb).mono ?_
             rintro e w8 ⟨rfl, hb8⟩
             have S8 := hb8.size
             have C8 := Lib.hid (C7'.out.below hb8 (by omega))
             have Q8 := Lib.hid (Q7.out.below hb8 (by omega))
             have B8' := Lib.hid (B7.out.trans (hb8.mono (by omega)))
             have E1 := Lib.hid (((rd_at (k := 38) (m := 22) (R7.out.below (hb8.mono (by omega))) (by decide) (by decide)).more (B' := w8.heap.size) (by omega)).alloc (Nat.le_refl _) (.cells (zeros 22) 5))
             have E2 := Lib.hid (rd_zeros w8 w8.heap.size 22 5 (0, 0) rfl)
             rw [hZ22] at E1 E2
             clear hb8)
          | fail)
        clear E1 E2
        clear v0 v1 v2 v3 v4 v5 v6 v7 hc0 hc1
        have q0 := Q8.out.cell 0
        have g0 := Q8.out.frozen 0
        have q1 := Q8.out.cell 1
        have g1 := Q8.out.frozen 1
        have q2 := Q8.out.cell 2
        have g2 := Q8.out.frozen 2
        have q3 := Q8.out.cell 3
        have g3 := Q8.out.frozen 3
        have q4 := Q8.out.cell 4
        have g4 := Q8.out.frozen 4
        have q5 := Q8.out.cell 5
        have g5 := Q8.out.frozen 5
        have q6 := Q8.out.cell 6
        have g6 := Q8.out.frozen 6
        have q7 := Q8.out.cell 7
        have g7 := Q8.out.frozen 7
        simp at q0 q1 q2 q3 q4 q5 q6 q7
        go_wp2_with fail
        have Y := ((((((((Q8.out).set_ 0 (.int .i64 0)).set_ 1 (.int .i64 0)).set_ 2 (.int .i64 0)).set_ 3 (.float .f64 0)).set_ 4 (.int .i64 0)).set_ 5 (.int .i64 0)).set_ 6 (.int .i64 0)).set_ 7 (.int .i64 0)
        have BY := ((((((((B8'.out).setCell (p := ⟨w.heap.size, 0, none⟩) (Nat.le_refl _) (.int .i64 0)).setCell (p := ⟨w.heap.size, 1, none⟩) (Nat.le_refl _) (.int .i64 0)).setCell (p := ⟨w.heap.size, 2, none⟩) (Nat.le_refl _) (.int .i64 0)).setCell (p := ⟨w.heap.size, 3, none⟩) (Nat.le_refl _) (.float .f64 0)).setCell (p := ⟨w.heap.size, 4, none⟩) (Nat.le_refl _) (.int .i64 0)).setCell (p := ⟨w.heap.size, 5, none⟩) (Nat.le_refl _) (.int .i64 0)).setCell (p := ⟨w.heap.size, 6, none⟩) (Nat.le_refl _) (.int .i64 0)).setCell (p := ⟨w.heap.size, 7, none⟩) (Nat.le_refl _) (.int .i64 0)
        generalize ((((((((w8.setCell ⟨w.heap.size, 0, none⟩ (.int .i64 0)).setCell ⟨w.heap.size, 1, none⟩ (.int .i64 0)).setCell ⟨w.heap.size, 2, none⟩ (.int .i64 0)).setCell ⟨w.heap.size, 3, none⟩ (.float .f64 0)).setCell ⟨w.heap.size, 4, none⟩ (.int .i64 0)).setCell ⟨w.heap.size, 5, none⟩ (.int .i64 0)).setCell ⟨w.heap.size, 6, none⟩ (.int .i64 0)).setCell ⟨w.heap.size, 7, none⟩ (.int .i64 0)) = wz at *
        have y0 := Y.cell 0
        have y1 := Y.cell 1
        have y2 := Y.cell 2
        have y3 := Y.cell 3
        have y4 := Y.cell 4
        have y5 := Y.cell 5
        have y6 := Y.cell 6
        have y7 := Y.cell 7
        simp at y0 y1 y2 y3 y4 y5 y6 y7
        (try simp only [Exit.inBlock, Exit.then])
        refine bodyPost_ret (by simp [results, Try.results32, go_sem, y0, y1, y2, y3, y4, y5, y6, y7]; try rfl) rfl ?_
        exact ⟨congrArg Ending.returned (HV.out), BY⟩
      · have HV : Hid (Value.tuple #[zeroV, .int .i64 4] = Value.tuple #[decV bs, .int .i64 (decE bs)]) := by
          have hE : decE bs = 4 := by unfold decE; rw [if_pos hlen, if_pos HSS.out, if_neg (by rw [hh]; simp)]
          show _ = _
          unfold decV
          rw [hE]; rfl
        simp only [Bool.not_true, Bool.not_false] at n0 n1
        clear hh t0 t1 HH
        go_upto_region 16 with fail
        clear v0 v1 v2 v3 v4 v5 v6 v7 hc0 hc1
        have q0 := Q7.out.cell 0
        have g0 := Q7.out.frozen 0
        have q1 := Q7.out.cell 1
        have g1 := Q7.out.frozen 1
        have q2 := Q7.out.cell 2
        have g2 := Q7.out.frozen 2
        have q3 := Q7.out.cell 3
        have g3 := Q7.out.frozen 3
        have q4 := Q7.out.cell 4
        have g4 := Q7.out.frozen 4
        have q5 := Q7.out.cell 5
        have g5 := Q7.out.frozen 5
        have q6 := Q7.out.cell 6
        have g6 := Q7.out.frozen 6
        have q7 := Q7.out.cell 7
        have g7 := Q7.out.frozen 7
        simp at q0 q1 q2 q3 q4 q5 q6 q7
        go_wp2_with fail
        have Y := ((((((((Q7.out).set_ 0 (.int .i64 0)).set_ 1 (.int .i64 0)).set_ 2 (.int .i64 0)).set_ 3 (.float .f64 0)).set_ 4 (.int .i64 0)).set_ 5 (.int .i64 0)).set_ 6 (.int .i64 0)).set_ 7 (.int .i64 0)
        have BY := ((((((((B7.out).setCell (p := ⟨w.heap.size, 0, none⟩) (Nat.le_refl _) (.int .i64 0)).setCell (p := ⟨w.heap.size, 1, none⟩) (Nat.le_refl _) (.int .i64 0)).setCell (p := ⟨w.heap.size, 2, none⟩) (Nat.le_refl _) (.int .i64 0)).setCell (p := ⟨w.heap.size, 3, none⟩) (Nat.le_refl _) (.float .f64 0)).setCell (p := ⟨w.heap.size, 4, none⟩) (Nat.le_refl _) (.int .i64 0)).setCell (p := ⟨w.heap.size, 5, none⟩) (Nat.le_refl _) (.int .i64 0)).setCell (p := ⟨w.heap.size, 6, none⟩) (Nat.le_refl _) (.int .i64 0)).setCell (p := ⟨w.heap.size, 7, none⟩) (Nat.le_refl _) (.int .i64 0)
        generalize ((((((((w7.setCell ⟨w.heap.size, 0, none⟩ (.int .i64 0)).setCell ⟨w.heap.size, 1, none⟩ (.int .i64 0)).setCell ⟨w.heap.size, 2, none⟩ (.int .i64 0)).setCell ⟨w.heap.size, 3, none⟩ (.float .f64 0)).setCell ⟨w.heap.size, 4, none⟩ (.int .i64 0)).setCell ⟨w.heap.size, 5, none⟩ (.int .i64 0)).setCell ⟨w.heap.size, 6, none⟩ (.int .i64 0)).setCell ⟨w.heap.size, 7, none⟩ (.int .i64 0)) = wz at *
        have y0 := Y.cell 0
        have y1 := Y.cell 1
        have y2 := Y.cell 2
        have y3 := Y.cell 3
        have y4 := Y.cell 4
        have y5 := Y.cell 5
        have y6 := Y.cell 6
        have y7 := Y.cell 7
        simp at y0 y1 y2 y3 y4 y5 y6 y7
        (try simp only [Exit.inBlock, Exit.then])
        refine bodyPost_ret (by simp [results, Try.results32, go_sem, y0, y1, y2, y3, y4, y5, y6, y7]; try rfl) rfl ?_
        exact ⟨congrArg Ending.returned (HV.out), BY⟩
      · have HV : Hid (Value.tuple #[zeroV, .int .i64 4] = Value.tuple #[decV bs, .int .i64 (decE bs)]) := by
          have hE : decE bs = 4 := by unfold decE; rw [if_pos hlen, if_pos HSS.out, if_neg (by rw [hh]; simp)]
          show _ = _
          unfold decV
          rw [hE]; rfl
        simp only [Bool.not_true, Bool.not_false] at n0
        clear hh t0 HH n1
        go_upto_region 16 with fail
        clear v0 v1 v2 v3 v4 v5 v6 v7 hc0 hc1
        have q0 := Q7.out.cell 0
        have g0 := Q7.out.frozen 0
        have q1 := Q7.out.cell 1
        have g1 := Q7.out.frozen 1
        have q2 := Q7.out.cell 2
        have g2 := Q7.out.frozen 2
        have q3 := Q7.out.cell 3
        have g3 := Q7.out.frozen 3
        have q4 := Q7.out.cell 4
        have g4 := Q7.out.frozen 4
        have q5 := Q7.out.cell 5
        have g5 := Q7.out.frozen 5
        have q6 := Q7.out.cell 6
        have g6 := Q7.out.frozen 6
        have q7 := Q7.out.cell 7
        have g7 := Q7.out.frozen 7
        simp at q0 q1 q2 q3 q4 q5 q6 q7
        go_wp2_with fail
        have Y := ((((((((Q7.out).set_ 0 (.int .i64 0)).set_ 1 (.int .i64 0)).set_ 2 (.int .i64 0)).set_ 3 (.float .f64 0)).set_ 4 (.int .i64 0)).set_ 5 (.int .i64 0)).set_ 6 (.int .i64 0)).set_ 7 (.int .i64 0)
        have BY := ((((((((B7.out).setCell (p := ⟨w.heap.size, 0, none⟩) (Nat.le_refl _) (.int .i64 0)).setCell (p := ⟨w.heap.size, 1, none⟩) (Nat.le_refl _) (.int .i64 0)).setCell (p := ⟨w.heap.size, 2, none⟩) (Nat.le_refl _) (.int .i64 0)).setCell (p := ⟨w.heap.size, 3, none⟩) (Nat.le_refl _) (.float .f64 0)).setCell (p := ⟨w.heap.size, 4, none⟩) (Nat.le_refl _) (.int .i64 0)).setCell (p := ⟨w.heap.size, 5, none⟩) (Nat.le_refl _) (.int .i64 0)).setCell (p := ⟨w.heap.size, 6, none⟩) (Nat.le_refl _) (.int .i64 0)).setCell (p := ⟨w.heap.size, 7, none⟩) (Nat.le_refl _) (.int .i64 0)
        generalize ((((((((w7.setCell ⟨w.heap.size, 0, none⟩ (.int .i64 0)).setCell ⟨w.heap.size, 1, none⟩ (.int .i64 0)).setCell ⟨w.heap.size, 2, none⟩ (.int .i64 0)).setCell ⟨w.heap.size, 3, none⟩ (.float .f64 0)).setCell ⟨w.heap.size, 4, none⟩ (.int .i64 0)).setCell ⟨w.heap.size, 5, none⟩ (.int .i64 0)).setCell ⟨w.heap.size, 6, none⟩ (.int .i64 0)).setCell ⟨w.heap.size, 7, none⟩ (.int .i64 0)) = wz at *
        have y0 := Y.cell 0
        have y1 := Y.cell 1
        have y2 := Y.cell 2
        have y3 := Y.cell 3
        have y4 := Y.cell 4
        have y5 := Y.cell 5
        have y6 := Y.cell 6
        have y7 := Y.cell 7
        simp at y0 y1 y2 y3 y4 y5 y6 y7
        (try simp only [Exit.inBlock, Exit.then])
        refine bodyPost_ret (by simp [results, Try.results32, go_sem, y0, y1, y2, y3, y4, y5, y6, y7]; try rfl) rfl ?_
        exact ⟨congrArg Ending.returned (HV.out), BY⟩

theorem dec_any (A : Option Addr) (n c : Nat) (bs : List B8) (w : World) (hr : Rd w w.heap.size A n bs) (hc : n ≤ c) :
    Calls Try.prog 32 #[.slice A n c] w fun e w' => e = .returned (.tuple #[decV bs, .int .i64 (decE bs)]) ∧ Below w.heap.size w w' := by
  have hl := hr.len
  by_cases h : n = 64
  · subst h
    rcases tf (sumAt bs) with hs | hs
    · exact dec_rest A c bs w hr hc hs
    · have hE : decE bs = 5 := by unfold decE; rw [if_pos hl, if_neg (by rw [hs]; simp)]
      have hV : decV bs = zeroV := by unfold decV; rw [hE]; rfl
      rw [hE, hV]
      exact dec_sum A c bs w hr hc hs
  · have hE : decE bs = 1 := by unfold decE; rw [if_neg (by omega)]
    have hV : decV bs = zeroV := by unfold decV; rw [hE]; rfl
    rw [hE, hV]
    exact dec_arg A n c w h
end Go.Proofs.Ythhgmanoifpoiaa

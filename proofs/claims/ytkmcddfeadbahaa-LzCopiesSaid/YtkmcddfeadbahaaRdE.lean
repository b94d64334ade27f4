/- Contract of lz.Unpack. -/
import Derived.Test.YtkmcddfeadbahaaRdC
import Derived.Test.YtkmcddfeadbahaaRdD
namespace Go.Proofs.Ytkmcddfeadbahaa
open Go.RowKit
set_option linter.unusedVariables false

def Res.e : Res → Int
  | .bad e => e
  | .good _ => 0
def Res.d : Res → List B8
  | .bad _ => []
  | .good o => o
/-- What a block says of so many bytes. -/
def says (bs : List B8) (N : Int) : Res := if N < 0 ∨ 4096 < N then .bad 1 else unp bs [] N.toNat

/-- What Unpack returns. -/
def Unpacked (r : Res) (w : World) (e : Ending) (w' : World) : Prop :=
  ∃ A n c, e = .returned (.tuple #[.slice A n c, .int .i64 r.e]) ∧ n ≤ c ∧ Rd w' w'.heap.size A n r.d ∧ Below w.heap.size w w'

theorem own_far {w : World} {base e size n g : Nat} {v : Value} {xs : List Value} (h : w.ownsRow base e size v n xs) (hg : g < base) : v.ownBlock = none ∨ v.ownBlock ≠ some g := by
  cases hv : v.ownBlock with
  | none => exact .inl rfl
  | some q => exact .inr (fun e => by injection e with e; have := (h.lt q hv).1; omega)

theorem unpack_arg (A : Option Addr) (n c : Nat) (bs : List B8) (w : World) (N : Int) (hN : N < 0 ∨ 4096 < N) :
    Calls Try.prog 11 #[.slice A n c, .int .i64 N] w (Unpacked (.bad 1) w) := by
  have hmf : ∀ (fn : Fn) (first cap : Array Value) (w : World), (Instr.makeFunc fn first cap).run Try.prog w = .ok (.func fn first cap) w := fun _ _ _ _ => rfl
  by_cases h0 : N < 0
  · clear hN
    go_enter_defers Try.func11, Try.ntmps11
    go_wp2
    simp [bodyPostD, Leaves, results, Try.results11, go_sem]
    exact ⟨none, 0, 0, rfl, Nat.le_refl _, Rd.none_, ((Below.refl _ _).alloc (Nat.le_refl _) _).alloc (by simp) _⟩
  · have h1 : 4096 < N := by omega
    have h2 : 0 ≤ N := by omega
    clear hN h0
    go_enter_defers Try.func11, Try.ntmps11
    go_wp2
    simp [bodyPostD, Leaves, results, Try.results11, go_sem]
    exact ⟨none, 0, 0, rfl, Nat.le_refl _, Rd.none_, ((Below.refl _ _).alloc (Nat.le_refl _) _).alloc (by simp) _⟩

theorem unpack_in (A : Option Addr) (n c : Nat) (bs : List B8) (w : World) (hr : Rd w w.heap.size A n bs) (hc : n ≤ c) (hn : n ≤ 1000000) (N : Nat) (hN : N ≤ 4096) :
    Calls Try.prog 11 #[.slice A n c, .int .i64 (N : Int)] w (Unpacked (unp bs [] N) w) := by
  have hmf : ∀ (fn : Fn) (first cap : Array Value) (w : World), (Instr.makeFunc fn first cap).run Try.prog w = .ok (.func fn first cap) w := fun _ _ _ _ => rfl
  obtain rfl := hr.len
  obtain ⟨w1, hw1⟩ : ∃ w1, w1 = w.alloc (.cells #[.slice none 0 0] 22) := ⟨_, rfl⟩
  obtain ⟨w2, hw2⟩ : ∃ w2, w2 = w1.alloc (.cells #[.int .i64 0] 24) := ⟨_, rfl⟩
  have b1 : Blk w1 w.heap.size 22 #[.slice none 0 0] := by rw [hw1]; exact Blk.new w 22 _
  have s1 : w1.heap.size = w.heap.size + 1 := by rw [hw1]; simp
  have b2 : Blk w2 (w.heap.size + 1) 24 #[.int .i64 0] := by rw [hw2, ← s1]; exact Blk.new w1 24 _
  have b1' : Blk w2 w.heap.size 22 #[.slice none 0 0] := by rw [hw2]; exact b1.alloc _
  have s2 : w2.heap.size = w.heap.size + 1 + 1 := by rw [hw2]; simp [s1]
  have B2 : Below w.heap.size w w2 := by
    rw [hw2]
    exact Below.alloc (by rw [hw1]; exact (Below.refl _ _).alloc (Nat.le_refl _) _) (by omega) _
  have HH : Hid (Rdr (w2.alloc (.cells #[.slice A bs.length c, .slice none 0 0] 43)) (w.heap.size + 1 + 1) bs (.slice none 0 0) A c) := by
    show Rdr _ _ _ _ _ _
    rw [← s2]
    exact ⟨Blk.new w2 43 _, ((hr.below B2).alloc B2.size _).more B2.size, hc⟩
  have G1 := Lib.hid (b1'.alloc (.cells #[.slice A bs.length c, .slice none 0 0] 43))
  have G2 := Lib.hid (b2.alloc (.cells #[.slice A bs.length c, .slice none 0 0] 43))
  have B3 := Lib.hid (B2.alloc B2.size (.cells #[.slice A bs.length c, .slice none 0 0] 43))
  rw [hw2, hw1] at HH G1 G2 B3
  have AL := Lib.hid (all_any _ A c bs _ HH.out hn N hN)
  clear hr b1 b1' b2 s1 s2 B2 HH hw1 hw2
  have h1 : ¬ (N : Int) < 0 := by omega
  have h2 : ¬ 4096 < (N : Int) := by omega
  generalize unp bs [] N = U at *
  go_enter_defers Try.func11, Try.ntmps11
  go_wp2_with fail
  refine AL.out.mono ?_
  intro e w4 hE
  cases U with
  | bad E =>
    obtain ⟨rfl, hB⟩ := hE
    have K1 : Blk w4 w.heap.size 22 #[.slice none 0 0] := G1.out.below hB (by omega)
    have K2 : Blk w4 (w.heap.size + 1) 24 #[.int .i64 0] := G2.out.below hB (by omega)
    go_wp2_with fail
    refine leaves_cons (f := 16) (args := #[.pointer (some ⟨w.heap.size, 0, none⟩), .pointer (some ⟨w.heap.size + 1, 0, none⟩)]) (by simp) (by simp [go_sem]) ?_
    refine (catch_panicking w.heap.size (w.heap.size + 1) _ _ E _ K1 K2 (by omega)).mono ?_
    rintro e u' w5 ⟨rfl, rfl, hB5, L1, L2⟩
    have c1 : w5.cell? ⟨w.heap.size, 0, none⟩ = some (.slice none 0 0) := by rw [L1.cell]; rfl
    have c2 : w5.cell? ⟨w.heap.size + 1, 0, none⟩ = some (.int .i64 E) := by rw [L2.cell]; rfl
    simp [Leaves, settle, results, Try.results11, go_sem, c1, c2]
    exact ⟨none, 0, 0, rfl, Nat.le_refl _, Rd.none_, (B3.out.trans (hB.mono (by omega))).trans hB5⟩
  | good out =>
    obtain ⟨rfl, hB, A5, Ao, co, hblk, hown⟩ := hE
    have K1 : Blk w4 w.heap.size 22 #[.slice none 0 0] := G1.out.below hB (by omega)
    have K2 : Blk w4 (w.heap.size + 1) 24 #[.int .i64 0] := G2.out.below hB (by omega)
    have c1 : w4.cell? ⟨w.heap.size, 0, none⟩ = some (.slice none 0 0) := by rw [K1.cell]; rfl
    have c2 : w4.cell? ⟨w.heap.size + 1, 0, none⟩ = some (.int .i64 0) := by rw [K2.cell]; rfl
    have f1 := K1.frozen 0
    have f2 := K2.frozen 0
    have c3 : w4.cell? ⟨w.heap.size + 1 + 1, 1, none⟩ = some (.slice Ao out.length co) := by rw [hblk.cell]; rfl
    go_wp2_with fail
    refine leaves_cons (f := 16) (args := #[.pointer (some ⟨w.heap.size, 0, none⟩), .pointer (some ⟨w.heap.size + 1, 0, none⟩)]) (by simp) (by simp [go_sem]) ?_
    refine (catch_idle _ _ _).mono ?_
    rintro e u' w5 ⟨rfl, rfl, rfl⟩
    have q1 := K1.set_ 0 (.slice Ao out.length co)
    have q2 := (q1.far (p := ⟨w.heap.size + 1, 0, none⟩) (Nat.ne_of_lt (Nat.lt_succ_self _)) (.int .i64 0))
    have q3 := (K2.far (p := ⟨w.heap.size, 0, none⟩) (Nat.ne_of_gt (Nat.lt_succ_self _)) (.slice Ao out.length co)).set_ 0 (.int .i64 0)
    have d1 : (w4.setCell ⟨w.heap.size, 0, none⟩ (.slice Ao out.length co)).cell? ⟨w.heap.size, 0, none⟩ = some (.slice Ao out.length co) := by rw [q1.cell]; rfl
    have d2 : ((w4.setCell ⟨w.heap.size, 0, none⟩ (.slice Ao out.length co)).setCell ⟨w.heap.size + 1, 0, none⟩ (.int .i64 0)).cell? ⟨w.heap.size + 1, 0, none⟩ = some (.int .i64 0) := by rw [q3.cell]; rfl
    simp [Leaves, settle, results, Try.results11, go_sem, d1, d2]
    have BB : Below w.heap.size w w4 := B3.out.trans (hB.mono (by omega))
    have O4 : Out w4 (w.heap.size + 1 + 1) out (.slice Ao out.length co) := ⟨hown⟩
    have hcap : out.length ≤ co := by obtain ⟨_, _, e, h⟩ := own_cap hown; injection e with _ _ e; omega
    have R4 : Rd w4 w4.heap.size Ao out.length out := Rd.of_own hown
    refine ⟨Ao, out.length, co, rfl, hcap, ?_, (BB.setCell (Nat.le_refl _) _).setCell (Nat.le_succ _) _⟩
    have own2 := (O4.own.kept (only_setCell (g := w.heap.size) (World.grownBy.refl w4 _) (p := ⟨w.heap.size, 0, none⟩) (.inl rfl) (.slice Ao out.length co)) (own_far hown (by omega)))
    have own3 := own2.kept (only_setCell (g := w.heap.size + 1) (World.grownBy.refl _ _) (p := ⟨w.heap.size + 1, 0, none⟩) (.inl rfl) (.int .i64 0)) (own_far hown (by omega))
    exact Rd.of_own own3

theorem unpack_any (A : Option Addr) (n c : Nat) (bs : List B8) (w : World) (hr : Rd w w.heap.size A n bs) (hc : n ≤ c) (hn : n ≤ 1000000) (N : Int) :
    Calls Try.prog 11 #[.slice A n c, .int .i64 N] w (Unpacked (says bs N) w) := by
  unfold says
  by_cases hN : N < 0 ∨ 4096 < N
  · rw [if_pos hN]
    exact unpack_arg A n c bs w N hN
  · rw [if_neg hN]
    obtain ⟨k, rfl⟩ : ∃ k : Nat, N = (k : Int) := Int.eq_ofNat_of_zero_le (by omega)
    exact unpack_in A n c bs w hr hc hn k (by omega)
end Go.Proofs.Ytkmcddfeadbahaa

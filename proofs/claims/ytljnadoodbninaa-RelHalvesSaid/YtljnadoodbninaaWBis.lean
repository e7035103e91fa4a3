/- The contract of the program's Bisect. -/
import Derived.Test.YtljnadoodbninaaWMid
namespace Go.Proofs.Ytljnadoodbninaa
open Go.RowKit
theorem and1 (n : Int) : bits .and .i64 n 1 = n % 2 := by
  have h1 : (BitVec.ofInt 64 1).toNat = 2 ^ 1 - 1 := by decide
  have key : (BitVec.ofInt 64 n &&& BitVec.ofInt 64 1).toNat = (n % ((2 ^ 64 : Nat) : Int)).toNat % 2 ^ 1 := by
    rw [BitVec.toNat_and, BitVec.toNat_ofInt, h1, Nat.and_two_pow_sub_one_eq_mod]
  show IntKind.i64.wrap ((BitVec.ofInt 64 n &&& BitVec.ofInt 64 1).toNat : Nat) = n % 2
  rw [key, IntKind.wrap_i64]
  omega
theorem and_even (p q : Int) (h : p % 2 = 0 ∨ q % 2 = 0) : bits .and .i64 p q % 2 = 0 := by
  have key : (BitVec.ofInt 64 p &&& BitVec.ofInt 64 q).toNat % 2 = 0 := by
    rw [BitVec.toNat_and, BitVec.toNat_ofInt, BitVec.toNat_ofInt]
    have t := Nat.testBit_and (p % ((2 ^ 64 : Nat) : Int)).toNat (q % ((2 ^ 64 : Nat) : Int)).toNat 0
    rw [Nat.testBit_zero, Nat.testBit_zero, Nat.testBit_zero] at t
    rcases h with h | h
    · rw [show decide ((p % ((2 ^ 64 : Nat) : Int)).toNat % 2 = 1) = false from decide_eq_false (by omega), Bool.false_and, decide_eq_false_iff_not] at t
      omega
    · rw [show decide ((q % ((2 ^ 64 : Nat) : Int)).toNat % 2 = 1) = false from decide_eq_false (by omega), Bool.and_false, decide_eq_false_iff_not] at t
      omega
  show IntKind.i64.wrap ((BitVec.ofInt 64 p &&& BitVec.ofInt 64 q).toNat : Nat) % 2 = 0
  rw [IntKind.wrap_i64]
  omega
/-- Where Bisect cuts. -/
def CutR (p q : Int) (c : Nat) : Prop := (-Vg.PI < p ∧ q < Vg.PI) ∧ MidR p q c ∨ (p = -Vg.PI ∨ q = Vg.PI) ∧ c = Vg.atn true (p / 2 + q / 2)
/-- What Bisect tells of places p and q. -/
def BisR (p q : Int) (a b c d : Nat) (ok : Bool) : Prop :=
  (q ≤ p + 1 ∧ a = 0 ∧ b = 0 ∧ c = 0 ∧ d = 0 ∧ ok = false) ∨ p + 1 < q ∧ a = Vg.atn true p ∧ d = Vg.atn true q ∧ b = c ∧ CutR p q c ∧ ok = true
def BisT (p q : Int) (w : World) (e : Ending) (w' : World) : Prop := ∃ a b c d ok, e = .returned (.tuple #[.agg #[.float .f64 a, .float .f64 b], .agg #[.float .f64 c, .float .f64 d], .bool ok]) ∧ BisR p q a b c d ok ∧ Below w.heap.size w w'
theorem up_atn {p : Int} (hp : Vg.Pl p) : Vg.up true (Vg.atn true p) = Vg.atn true (if p = Vg.PI then p else p + 1) := by
  unfold Vg.up
  rw [Vg.nn_atn hp, Vg.pl_atn hp, show (Vg.INF true : Int) = Vg.PI by decide]
  simp only [Bool.false_eq_true, if_false]
  split <;> rfl

set_option maxRecDepth 20000 in
set_option maxHeartbeats 4000000 in
theorem bis_no (a b : Nat) (p q : Int) (hx : Vg.Rd a b p q) (hc : q ≤ p + 1) (w : World) : Calls Try.prog 60 #[.agg #[.float .f64 a, .float .f64 b]] w (BisT p q w) := by
  have hst := sto
  have HX := hide hx
  have I := hide hx.iv
  have U := up_atn hx.iv.lo
  obtain ⟨u, hu⟩ : ∃ u, (if p = Vg.PI then p else p + 1) = u := ⟨_, rfl⟩
  have pu : Vg.Pl u := by have i := hx.iv; have := Vg.PI_pos; unfold Vg.Iv at i; unfold Vg.Pl; rw [← hu]; split <;> omega
  rw [hu] at U
  have t0 : (FloatKind.f64.format.order (Vg.atn true u) (Vg.atn true q) == some Ordering.lt) = false := by
    rw [Vg.order_places pu hx.iv.hi, beq_eq_false_iff_ne]
    have i := hx.iv
    have := Vg.PI_pos
    unfold Vg.Iv at i
    simp only [Option.some.injEq, Int.compare_eq_lt, ne_eq]
    split at hu <;> omega
  have HC := hide hc
  clear hx hu pu hc
  go_enter Try.func60, Try.ntmps60
  go_wp2_with fail
  refine (read_any a b p q HX.out _).mono ?_; rintro e w1 ⟨rfl, hb1⟩
  have kx0 : w1.cell? ⟨w.heap.size, 0, none⟩ = some (.float .f64 a) := keep_cell hb1 (by first | (simp; done) | (simp; omega)) (by simp [go_sem])
  have fx0 : w1.frozen? ⟨w.heap.size, 0, none⟩ = false := keep_free hb1 (by first | (simp; done) | (simp; omega)) (by simp [go_sem])
  have kx1 : w1.cell? ⟨w.heap.size, 1, none⟩ = some (.float .f64 b) := keep_cell hb1 (by first | (simp; done) | (simp; omega)) (by simp [go_sem])
  have fx1 : w1.frozen? ⟨w.heap.size, 1, none⟩ = false := keep_free hb1 (by first | (simp; done) | (simp; omega)) (by simp [go_sem])
  have kl0 : w1.cell? ⟨w.heap.size + 1, 0, none⟩ = some (.float .f64 0) := keep_cell hb1 (by first | (simp; done) | (simp; omega)) (by simp [go_sem])
  have fl0 : w1.frozen? ⟨w.heap.size + 1, 0, none⟩ = false := keep_free hb1 (by first | (simp; done) | (simp; omega)) (by simp [go_sem])
  have kl1 : w1.cell? ⟨w.heap.size + 1, 1, none⟩ = some (.float .f64 0) := keep_cell hb1 (by first | (simp; done) | (simp; omega)) (by simp [go_sem])
  have fl1 : w1.frozen? ⟨w.heap.size + 1, 1, none⟩ = false := keep_free hb1 (by first | (simp; done) | (simp; omega)) (by simp [go_sem])
  have kr0 : w1.cell? ⟨w.heap.size + 1 + 1, 0, none⟩ = some (.float .f64 0) := keep_cell hb1 (by first | (simp; done) | (simp; omega)) (by simp [go_sem])
  have fr0 : w1.frozen? ⟨w.heap.size + 1 + 1, 0, none⟩ = false := keep_free hb1 (by first | (simp; done) | (simp; omega)) (by simp [go_sem])
  have kr1 : w1.cell? ⟨w.heap.size + 1 + 1, 1, none⟩ = some (.float .f64 0) := keep_cell hb1 (by first | (simp; done) | (simp; omega)) (by simp [go_sem])
  have fr1 : w1.frozen? ⟨w.heap.size + 1 + 1, 1, none⟩ = false := keep_free hb1 (by first | (simp; done) | (simp; omega)) (by simp [go_sem])
  have z : w.heap.size + 1 + 1 < w1.heap.size := by have := hb1.size; simp at this; omega
  have g : Below w.heap.size w w1 := b_three.trans (hb1.mono (by simp <;> omega))
  clear hb1
  go_wp2_with fail
  refine (Fb.nextup64 _ (Vg.atn_le I.out.lo) _).mono ?_; rintro e w2 ⟨y, rfl, hy, hb2⟩
  obtain rfl : y = Vg.atn true u := Eq.trans hy U
  have kx0 : w2.cell? ⟨w.heap.size, 0, none⟩ = some (.float .f64 (Vg.atn true p)) := keep_cell hb2 (by first | (simp; done) | (simp; omega)) (by simp [go_sem, *])
  have kx1 : w2.cell? ⟨w.heap.size, 1, none⟩ = some (.float .f64 (Vg.atn true q)) := keep_cell hb2 (by first | (simp; done) | (simp; omega)) (by simp [go_sem, *])
  have kl0 : w2.cell? ⟨w.heap.size + 1, 0, none⟩ = some (.float .f64 0) := keep_cell hb2 (by first | (simp; done) | (simp; omega)) (by simp [go_sem, *])
  have fl0 : w2.frozen? ⟨w.heap.size + 1, 0, none⟩ = false := keep_free hb2 (by first | (simp; done) | (simp; omega)) (by simp [go_sem, *])
  have kl1 : w2.cell? ⟨w.heap.size + 1, 1, none⟩ = some (.float .f64 0) := keep_cell hb2 (by first | (simp; done) | (simp; omega)) (by simp [go_sem, *])
  have fl1 : w2.frozen? ⟨w.heap.size + 1, 1, none⟩ = false := keep_free hb2 (by first | (simp; done) | (simp; omega)) (by simp [go_sem, *])
  have kr0 : w2.cell? ⟨w.heap.size + 1 + 1, 0, none⟩ = some (.float .f64 0) := keep_cell hb2 (by first | (simp; done) | (simp; omega)) (by simp [go_sem, *])
  have fr0 : w2.frozen? ⟨w.heap.size + 1 + 1, 0, none⟩ = false := keep_free hb2 (by first | (simp; done) | (simp; omega)) (by simp [go_sem, *])
  have kr1 : w2.cell? ⟨w.heap.size + 1 + 1, 1, none⟩ = some (.float .f64 0) := keep_cell hb2 (by first | (simp; done) | (simp; omega)) (by simp [go_sem, *])
  have fr1 : w2.frozen? ⟨w.heap.size + 1 + 1, 1, none⟩ = false := keep_free hb2 (by first | (simp; done) | (simp; omega)) (by simp [go_sem, *])
  have g := bch ((g.setCell (by dsimp only <;> omega) _).setCell (by dsimp only <;> omega) _) hb2
  have z : w.heap.size + 1 + 1 < w2.heap.size := by have := hb2.size; simp at this; omega
  clear hb2 hy
  go_wp2
  go_region
  all_goals go_wp2
  all_goals exact bodyPost_ret (v := .tuple #[.agg #[.float .f64 0, .float .f64 0], .agg #[.float .f64 0, .float .f64 0], .bool false]) (by simp [results, Try.results60, go_sem, *]) rfl ⟨0, 0, 0, 0, false, rfl, .inl ⟨HC.out, rfl, rfl, rfl, rfl, rfl⟩, ((((g.setCell (by dsimp only <;> omega) _).setCell (by dsimp only <;> omega) _).setCell (by dsimp only <;> omega) _).setCell (by dsimp only <;> omega) _).drew⟩

set_option maxRecDepth 20000 in
set_option maxHeartbeats 4000000 in
theorem bis_yes (a b : Nat) (p q : Int) (hx : Vg.Rd a b p q) (hc : p + 1 < q) (hS : -Vg.PI < p → q < Vg.PI → Sums p q) (w : World) : Calls Try.prog 60 #[.agg #[.float .f64 a, .float .f64 b]] w (BisT p q w) := by
  have HC2 := hide (show p ≤ q by omega)
  have hst := sto
  have HX := hide hx
  have I := hide hx.iv
  have U := up_atn hx.iv.lo
  obtain ⟨u, hu⟩ : ∃ u, (if p = Vg.PI then p else p + 1) = u := ⟨_, rfl⟩
  have pu : Vg.Pl u := by have i := hx.iv; have := Vg.PI_pos; unfold Vg.Iv at i; unfold Vg.Pl; rw [← hu]; split <;> omega
  rw [hu] at U
  have t0 : (FloatKind.f64.format.order (Vg.atn true u) (Vg.atn true q) == some Ordering.lt) = true := by
    rw [Vg.order_places pu hx.iv.hi, beq_iff_eq]
    have i := hx.iv
    have := Vg.PI_pos
    unfold Vg.Iv at i
    simp only [Option.some.injEq, Int.compare_eq_lt]
    split at hu <;> omega
  have HC := hide hc
  clear hx hu pu hc
  go_enter Try.func60, Try.ntmps60
  go_wp2_with fail
  refine (read_any a b p q HX.out _).mono ?_; rintro e w1 ⟨rfl, hb1⟩
  have kx0 : w1.cell? ⟨w.heap.size, 0, none⟩ = some (.float .f64 a) := keep_cell hb1 (by first | (simp; done) | (simp; omega)) (by simp [go_sem])
  have fx0 : w1.frozen? ⟨w.heap.size, 0, none⟩ = false := keep_free hb1 (by first | (simp; done) | (simp; omega)) (by simp [go_sem])
  have kx1 : w1.cell? ⟨w.heap.size, 1, none⟩ = some (.float .f64 b) := keep_cell hb1 (by first | (simp; done) | (simp; omega)) (by simp [go_sem])
  have fx1 : w1.frozen? ⟨w.heap.size, 1, none⟩ = false := keep_free hb1 (by first | (simp; done) | (simp; omega)) (by simp [go_sem])
  have kl0 : w1.cell? ⟨w.heap.size + 1, 0, none⟩ = some (.float .f64 0) := keep_cell hb1 (by first | (simp; done) | (simp; omega)) (by simp [go_sem])
  have fl0 : w1.frozen? ⟨w.heap.size + 1, 0, none⟩ = false := keep_free hb1 (by first | (simp; done) | (simp; omega)) (by simp [go_sem])
  have kl1 : w1.cell? ⟨w.heap.size + 1, 1, none⟩ = some (.float .f64 0) := keep_cell hb1 (by first | (simp; done) | (simp; omega)) (by simp [go_sem])
  have fl1 : w1.frozen? ⟨w.heap.size + 1, 1, none⟩ = false := keep_free hb1 (by first | (simp; done) | (simp; omega)) (by simp [go_sem])
  have kr0 : w1.cell? ⟨w.heap.size + 1 + 1, 0, none⟩ = some (.float .f64 0) := keep_cell hb1 (by first | (simp; done) | (simp; omega)) (by simp [go_sem])
  have fr0 : w1.frozen? ⟨w.heap.size + 1 + 1, 0, none⟩ = false := keep_free hb1 (by first | (simp; done) | (simp; omega)) (by simp [go_sem])
  have kr1 : w1.cell? ⟨w.heap.size + 1 + 1, 1, none⟩ = some (.float .f64 0) := keep_cell hb1 (by first | (simp; done) | (simp; omega)) (by simp [go_sem])
  have fr1 : w1.frozen? ⟨w.heap.size + 1 + 1, 1, none⟩ = false := keep_free hb1 (by first | (simp; done) | (simp; omega)) (by simp [go_sem])
  have z : w.heap.size + 1 + 1 < w1.heap.size := by have := hb1.size; simp at this; omega
  have g : Below w.heap.size w w1 := b_three.trans (hb1.mono (by simp <;> omega))
  clear hb1
  go_wp2_with fail
  refine (Fb.nextup64 _ (Vg.atn_le I.out.lo) _).mono ?_; rintro e w2 ⟨y, rfl, hy, hb2⟩
  obtain rfl : y = Vg.atn true u := Eq.trans hy U
  have kx0 : w2.cell? ⟨w.heap.size, 0, none⟩ = some (.float .f64 (Vg.atn true p)) := keep_cell hb2 (by first | (simp; done) | (simp; omega)) (by simp [go_sem, *])
  have kx1 : w2.cell? ⟨w.heap.size, 1, none⟩ = some (.float .f64 (Vg.atn true q)) := keep_cell hb2 (by first | (simp; done) | (simp; omega)) (by simp [go_sem, *])
  have kl0 : w2.cell? ⟨w.heap.size + 1, 0, none⟩ = some (.float .f64 0) := keep_cell hb2 (by first | (simp; done) | (simp; omega)) (by simp [go_sem, *])
  have fl0 : w2.frozen? ⟨w.heap.size + 1, 0, none⟩ = false := keep_free hb2 (by first | (simp; done) | (simp; omega)) (by simp [go_sem, *])
  have kl1 : w2.cell? ⟨w.heap.size + 1, 1, none⟩ = some (.float .f64 0) := keep_cell hb2 (by first | (simp; done) | (simp; omega)) (by simp [go_sem, *])
  have fl1 : w2.frozen? ⟨w.heap.size + 1, 1, none⟩ = false := keep_free hb2 (by first | (simp; done) | (simp; omega)) (by simp [go_sem, *])
  have kr0 : w2.cell? ⟨w.heap.size + 1 + 1, 0, none⟩ = some (.float .f64 0) := keep_cell hb2 (by first | (simp; done) | (simp; omega)) (by simp [go_sem, *])
  have fr0 : w2.frozen? ⟨w.heap.size + 1 + 1, 0, none⟩ = false := keep_free hb2 (by first | (simp; done) | (simp; omega)) (by simp [go_sem, *])
  have kr1 : w2.cell? ⟨w.heap.size + 1 + 1, 1, none⟩ = some (.float .f64 0) := keep_cell hb2 (by first | (simp; done) | (simp; omega)) (by simp [go_sem, *])
  have fr1 : w2.frozen? ⟨w.heap.size + 1 + 1, 1, none⟩ = false := keep_free hb2 (by first | (simp; done) | (simp; omega)) (by simp [go_sem, *])
  have g := bch ((g.setCell (by dsimp only <;> omega) _).setCell (by dsimp only <;> omega) _) hb2
  have z : w.heap.size + 1 + 1 < w2.heap.size := by have := hb2.size; simp at this; omega
  clear hb2 hy
  go_wp2_with fail
  refine (mid_any p q I.out HC2.out hS _).mono ?_; rintro e w3 ⟨m, rfl, hm, hb3⟩
  have HM := hide hm
  clear hm
  have kx0 : w3.cell? ⟨w.heap.size, 0, none⟩ = some (.float .f64 (Vg.atn true p)) := keep_cell hb3 (by first | (simp; done) | (simp; omega)) (by assumption)
  have kx1 : w3.cell? ⟨w.heap.size, 1, none⟩ = some (.float .f64 (Vg.atn true q)) := keep_cell hb3 (by first | (simp; done) | (simp; omega)) (by assumption)
  have kl0 : w3.cell? ⟨w.heap.size + 1, 0, none⟩ = some (.float .f64 0) := keep_cell hb3 (by first | (simp; done) | (simp; omega)) (by assumption)
  have fl0 : w3.frozen? ⟨w.heap.size + 1, 0, none⟩ = false := keep_free hb3 (by first | (simp; done) | (simp; omega)) (by assumption)
  have kl1 : w3.cell? ⟨w.heap.size + 1, 1, none⟩ = some (.float .f64 0) := keep_cell hb3 (by first | (simp; done) | (simp; omega)) (by assumption)
  have fl1 : w3.frozen? ⟨w.heap.size + 1, 1, none⟩ = false := keep_free hb3 (by first | (simp; done) | (simp; omega)) (by assumption)
  have kr0 : w3.cell? ⟨w.heap.size + 1 + 1, 0, none⟩ = some (.float .f64 0) := keep_cell hb3 (by first | (simp; done) | (simp; omega)) (by assumption)
  have fr0 : w3.frozen? ⟨w.heap.size + 1 + 1, 0, none⟩ = false := keep_free hb3 (by first | (simp; done) | (simp; omega)) (by assumption)
  have kr1 : w3.cell? ⟨w.heap.size + 1 + 1, 1, none⟩ = some (.float .f64 0) := keep_cell hb3 (by first | (simp; done) | (simp; omega)) (by assumption)
  have fr1 : w3.frozen? ⟨w.heap.size + 1 + 1, 1, none⟩ = false := keep_free hb3 (by first | (simp; done) | (simp; omega)) (by assumption)
  have g := bch g hb3
  have z := Nat.lt_of_lt_of_le z hb3.size
  clear hb3
  go_wp2_with fail
  refine (iscommon_any (Vg.atn true p) (Vg.atn true q) p q (Vg.Rd.self I.out) _).mono ?_; rintro e w4 ⟨n, rfl, hn, hb4⟩
  have HN := hide hn
  clear hn
  have kx0 : w4.cell? ⟨w.heap.size, 0, none⟩ = some (.float .f64 (Vg.atn true p)) := keep_cell hb4 (by first | (simp; done) | (simp; omega)) (by assumption)
  have kx1 : w4.cell? ⟨w.heap.size, 1, none⟩ = some (.float .f64 (Vg.atn true q)) := keep_cell hb4 (by first | (simp; done) | (simp; omega)) (by assumption)
  have kl0 : w4.cell? ⟨w.heap.size + 1, 0, none⟩ = some (.float .f64 0) := keep_cell hb4 (by first | (simp; done) | (simp; omega)) (by assumption)
  have fl0 : w4.frozen? ⟨w.heap.size + 1, 0, none⟩ = false := keep_free hb4 (by first | (simp; done) | (simp; omega)) (by assumption)
  have kl1 : w4.cell? ⟨w.heap.size + 1, 1, none⟩ = some (.float .f64 0) := keep_cell hb4 (by first | (simp; done) | (simp; omega)) (by assumption)
  have fl1 : w4.frozen? ⟨w.heap.size + 1, 1, none⟩ = false := keep_free hb4 (by first | (simp; done) | (simp; omega)) (by assumption)
  have kr0 : w4.cell? ⟨w.heap.size + 1 + 1, 0, none⟩ = some (.float .f64 0) := keep_cell hb4 (by first | (simp; done) | (simp; omega)) (by assumption)
  have fr0 : w4.frozen? ⟨w.heap.size + 1 + 1, 0, none⟩ = false := keep_free hb4 (by first | (simp; done) | (simp; omega)) (by assumption)
  have kr1 : w4.cell? ⟨w.heap.size + 1 + 1, 1, none⟩ = some (.float .f64 0) := keep_cell hb4 (by first | (simp; done) | (simp; omega)) (by assumption)
  have fr1 : w4.frozen? ⟨w.heap.size + 1 + 1, 1, none⟩ = false := keep_free hb4 (by first | (simp; done) | (simp; omega)) (by assumption)
  have g := bch g hb4
  have z := Nat.lt_of_lt_of_le z hb4.size
  clear hb4
  cases n
  · go_wp2_with fail
    refine (Fb.place64 _ (Vg.atn_le I.out.lo) _).mono ?_; rintro e w5 ⟨p2, o, rfl, hp2, hb5⟩
    obtain rfl : p2 = p := by have := hp2.2; rwa [Vg.nn_atn I.out.lo, Vg.pl_atn I.out.lo] at this
    clear hp2
    have kx0 : w5.cell? ⟨w.heap.size, 0, none⟩ = some (.float .f64 (Vg.atn true p2)) := keep_cell hb5 (by first | (simp; done) | (simp; omega)) (by assumption)
    have kx1 : w5.cell? ⟨w.heap.size, 1, none⟩ = some (.float .f64 (Vg.atn true q)) := keep_cell hb5 (by first | (simp; done) | (simp; omega)) (by assumption)
    have kl0 : w5.cell? ⟨w.heap.size + 1, 0, none⟩ = some (.float .f64 0) := keep_cell hb5 (by first | (simp; done) | (simp; omega)) (by assumption)
    have fl0 : w5.frozen? ⟨w.heap.size + 1, 0, none⟩ = false := keep_free hb5 (by first | (simp; done) | (simp; omega)) (by assumption)
    have kl1 : w5.cell? ⟨w.heap.size + 1, 1, none⟩ = some (.float .f64 0) := keep_cell hb5 (by first | (simp; done) | (simp; omega)) (by assumption)
    have fl1 : w5.frozen? ⟨w.heap.size + 1, 1, none⟩ = false := keep_free hb5 (by first | (simp; done) | (simp; omega)) (by assumption)
    have kr0 : w5.cell? ⟨w.heap.size + 1 + 1, 0, none⟩ = some (.float .f64 0) := keep_cell hb5 (by first | (simp; done) | (simp; omega)) (by assumption)
    have fr0 : w5.frozen? ⟨w.heap.size + 1 + 1, 0, none⟩ = false := keep_free hb5 (by first | (simp; done) | (simp; omega)) (by assumption)
    have kr1 : w5.cell? ⟨w.heap.size + 1 + 1, 1, none⟩ = some (.float .f64 0) := keep_cell hb5 (by first | (simp; done) | (simp; omega)) (by assumption)
    have fr1 : w5.frozen? ⟨w.heap.size + 1 + 1, 1, none⟩ = false := keep_free hb5 (by first | (simp; done) | (simp; omega)) (by assumption)
    have g := bch g hb5
    have z := Nat.lt_of_lt_of_le z hb5.size
    clear hb5
    go_wp2_with fail
    refine (Fb.place64 _ (Vg.atn_le I.out.hi) _).mono ?_; rintro e w6 ⟨q2, o2, rfl, hq2, hb6⟩
    obtain rfl : q2 = q := by have := hq2.2; rwa [Vg.nn_atn I.out.hi, Vg.pl_atn I.out.hi] at this
    clear hq2
    have kx0 : w6.cell? ⟨w.heap.size, 0, none⟩ = some (.float .f64 (Vg.atn true p2)) := keep_cell hb6 (by first | (simp; done) | (simp; omega)) (by assumption)
    have kx1 : w6.cell? ⟨w.heap.size, 1, none⟩ = some (.float .f64 (Vg.atn true q2)) := keep_cell hb6 (by first | (simp; done) | (simp; omega)) (by assumption)
    have kl0 : w6.cell? ⟨w.heap.size + 1, 0, none⟩ = some (.float .f64 0) := keep_cell hb6 (by first | (simp; done) | (simp; omega)) (by assumption)
    have fl0 : w6.frozen? ⟨w.heap.size + 1, 0, none⟩ = false := keep_free hb6 (by first | (simp; done) | (simp; omega)) (by assumption)
    have kl1 : w6.cell? ⟨w.heap.size + 1, 1, none⟩ = some (.float .f64 0) := keep_cell hb6 (by first | (simp; done) | (simp; omega)) (by assumption)
    have fl1 : w6.frozen? ⟨w.heap.size + 1, 1, none⟩ = false := keep_free hb6 (by first | (simp; done) | (simp; omega)) (by assumption)
    have kr0 : w6.cell? ⟨w.heap.size + 1 + 1, 0, none⟩ = some (.float .f64 0) := keep_cell hb6 (by first | (simp; done) | (simp; omega)) (by assumption)
    have fr0 : w6.frozen? ⟨w.heap.size + 1 + 1, 0, none⟩ = false := keep_free hb6 (by first | (simp; done) | (simp; omega)) (by assumption)
    have kr1 : w6.cell? ⟨w.heap.size + 1 + 1, 1, none⟩ = some (.float .f64 0) := keep_cell hb6 (by first | (simp; done) | (simp; omega)) (by assumption)
    have fr1 : w6.frozen? ⟨w.heap.size + 1 + 1, 1, none⟩ = false := keep_free hb6 (by first | (simp; done) | (simp; omega)) (by assumption)
    have g := bch g hb6
    have z := Nat.lt_of_lt_of_le z hb6.size
    clear hb6
    have hw : p2 = -Vg.PI ∨ q2 = Vg.PI := by
      have h := mt HN.out.2 (by decide)
      have := HC2.out
      have i1 := I.out.lo
      have i2 := I.out.hi
      unfold Vg.Pl at i1 i2
      omega
    have hbd : -9223372036854775808 ≤ p2 / 2 + q2 / 2 ∧ p2 / 2 + q2 / 2 ≤ 9223372036854775807 ∧ (-9218868437227405312 ≤ p2 / 2 + q2 / 2 ∧ p2 / 2 + q2 / 2 ≤ 9218868437227405312) := by
      have i1 := I.out.lo.bd
      have i2 := I.out.hi.bd
      omega
    have hev : p2 % 2 = 0 ∨ q2 % 2 = 0 := by rw [Vg.PI_eq] at hw; omega
    have e1 : bits .and .i64 (bits .and .i64 p2 q2) 1 = 0 := by rw [and1]; exact and_even _ _ hev
    have HW := hide hw
    have BD := hide hbd
    obtain ⟨h, hh⟩ : ∃ h, p2 / 2 + q2 / 2 = h := ⟨_, rfl⟩
    rw [hh] at BD
    have HH := hide hh
    have ew : wrap64 h = h := by unfold wrap64; have := BD.out; omega
    clear hw hbd hev HN
    go_wp2_with fail
    refine (Fb.at64 h ⟨BD.out.1, BD.out.2.1⟩ _).mono ?_; rintro e w7 ⟨z2, o3, rfl, hz, hb7⟩
    have hz2 : z2.toNat = Vg.atn true h := by
      rcases hz with ⟨h0, h1, h2⟩ | ⟨h0, -, -⟩
      · subst h1; exact (Fb.IsAt64.atn (p := h) (z := z2) (.inl ⟨h0, rfl, h2⟩)).1
      · exact absurd BD.out.2.2 h0
    rw [hz2]
    clear hz hz2
    have HW2 := hide (show CutR p2 q2 (Vg.atn true h) from .inr ⟨HW.out, by rw [HH.out]⟩)
    have kx0 : w7.cell? ⟨w.heap.size, 0, none⟩ = some (.float .f64 (Vg.atn true p2)) := keep_cell hb7 (by first | (simp; done) | (simp; omega)) (by assumption)
    have kx1 : w7.cell? ⟨w.heap.size, 1, none⟩ = some (.float .f64 (Vg.atn true q2)) := keep_cell hb7 (by first | (simp; done) | (simp; omega)) (by assumption)
    have kl0 : w7.cell? ⟨w.heap.size + 1, 0, none⟩ = some (.float .f64 0) := keep_cell hb7 (by first | (simp; done) | (simp; omega)) (by assumption)
    have fl0 : w7.frozen? ⟨w.heap.size + 1, 0, none⟩ = false := keep_free hb7 (by first | (simp; done) | (simp; omega)) (by assumption)
    have kl1 : w7.cell? ⟨w.heap.size + 1, 1, none⟩ = some (.float .f64 0) := keep_cell hb7 (by first | (simp; done) | (simp; omega)) (by assumption)
    have fl1 : w7.frozen? ⟨w.heap.size + 1, 1, none⟩ = false := keep_free hb7 (by first | (simp; done) | (simp; omega)) (by assumption)
    have kr0 : w7.cell? ⟨w.heap.size + 1 + 1, 0, none⟩ = some (.float .f64 0) := keep_cell hb7 (by first | (simp; done) | (simp; omega)) (by assumption)
    have fr0 : w7.frozen? ⟨w.heap.size + 1 + 1, 0, none⟩ = false := keep_free hb7 (by first | (simp; done) | (simp; omega)) (by assumption)
    have kr1 : w7.cell? ⟨w.heap.size + 1 + 1, 1, none⟩ = some (.float .f64 0) := keep_cell hb7 (by first | (simp; done) | (simp; omega)) (by assumption)
    have fr1 : w7.frozen? ⟨w.heap.size + 1 + 1, 1, none⟩ = false := keep_free hb7 (by first | (simp; done) | (simp; omega)) (by assumption)
    have g := bch g hb7
    have z := Nat.lt_of_lt_of_le z hb7.size
    clear hb7
    go_wp2
    go_region
    all_goals go_wp2
    all_goals exact bodyPost_ret (v := .tuple #[.agg #[.float .f64 (Vg.atn true p2), .float .f64 (Vg.atn true h)], .agg #[.float .f64 (Vg.atn true h), .float .f64 (Vg.atn true q2)], .bool true]) (by simp [results, Try.results60, go_sem, *]) rfl ⟨_, _, _, _, true, rfl, .inr ⟨HC.out, rfl, rfl, rfl, HW2.out, rfl⟩, ((((g.setCell (by dsimp only <;> omega) _).setCell (by dsimp only <;> omega) _).setCell (by dsimp only <;> omega) _).setCell (by dsimp only <;> omega) _).drew⟩
  · have HN2 := hide (HN.out.1 rfl)
    clear HN
    go_wp2
    go_region
    all_goals go_wp2
    all_goals exact bodyPost_ret (v := .tuple #[.agg #[.float .f64 (Vg.atn true p), .float .f64 m], .agg #[.float .f64 m, .float .f64 (Vg.atn true q)], .bool true]) (by simp [results, Try.results60, go_sem, *]) rfl ⟨_, _, _, _, true, rfl, .inr ⟨HC.out, rfl, rfl, rfl, (.inl ⟨⟨HN2.out.1, HN2.out.2.2⟩, HM.out⟩), rfl⟩, ((((g.setCell (by dsimp only <;> omega) _).setCell (by dsimp only <;> omega) _).setCell (by dsimp only <;> omega) _).setCell (by dsimp only <;> omega) _).drew⟩

end Go.Proofs.Ytljnadoodbninaa

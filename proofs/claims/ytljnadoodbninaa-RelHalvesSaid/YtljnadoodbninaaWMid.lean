/- The contract of the program's Mid, at an interval that was read and is not empty. -/
import Derived.Test.YtljnadoodbninaaBFb
import Derived.Test.YtljnadoodbninaaWKinds
namespace Go.Proofs.Ytljnadoodbninaa
open Go.RowKit
/-- What Mid tells of places p and q, p not above q. -/
def MidR (p q : Int) (m : Nat) : Prop :=
  p = -Vg.PI ∧ q = Vg.PI ∧ m = 0 ∨ p = -Vg.PI ∧ q < Vg.PI ∧ m = 18442240474082181119 ∨ -Vg.PI < p ∧ q = Vg.PI ∧ m = 9218868437227405311 ∨
  (-Vg.PI < p ∧ q < Vg.PI) ∧ ∃ s, floatBits .add .f64 (Vg.atn true p) (Vg.atn true q) = some s ∧
    (Vg.infb s = false ∧ (∃ d, floatBits .quo .f64 s 4611686018427387904 = some d ∧ m = Vg.plainb true d) ∨
     Vg.infb s = true ∧ ∃ x y, floatBits .quo .f64 (Vg.atn true p) 4611686018427387904 = some x ∧ floatBits .quo .f64 (Vg.atn true q) 4611686018427387904 = some y ∧ floatBits .add .f64 x y = some m)
def MidT (p q : Int) (w : World) (e : Ending) (w' : World) : Prop := ∃ m, e = .returned (.float .f64 m) ∧ MidR p q m ∧ Below w.heap.size w w'

theorem atn_max : Vg.atn true (Vg.PI - 1) = 9218868437227405311 := by decide
theorem pl_max : Vg.Pl (Vg.PI - 1) := by unfold Vg.Pl; decide
theorem isinf_pos {p : Int} (hp : Vg.Pl p) (n : Bool) (hn : n = true ↔ p = Vg.PI) (w : World) : Calls Try.prog 74 #[.float .f64 (Vg.atn true p), .int .i64 1] w fun e w' => e = .returned (.bool n) ∧ w = w' := by
  have o := Vg.order_places hp pl_max
  rw [atn_max] at o
  have h3 : (FloatKind.f64.format.order (Vg.atn true p) 9218868437227405311 == some Ordering.gt) = n := by
    rw [o, Bool.eq_iff_iff, hn]
    unfold Vg.Pl at hp
    simp only [beq_iff_eq, Option.some.injEq, Int.compare_eq_gt]
    omega
  clear o hn hp
  generalize Vg.atn true p = b at *
  go_enter Try.func74, Try.ntmps74
  go_wp2
  go_ret
  exact ⟨rfl, rfl⟩
theorem isinf_neg {p : Int} (hp : Vg.Pl p) (n : Bool) (hn : n = true ↔ p = -Vg.PI) (w : World) : Calls Try.prog 74 #[.float .f64 (Vg.atn true p), .int .i64 (-1)] w fun e w' => e = .returned (.bool n) ∧ w = w' := by
  have hb := Vg.atn_le hp
  obtain ⟨g1, g2, g3, g4⟩ := Vg.ngf64 (Vg.atn true p) hb
  rw [Vg.nn_atn hp] at g3
  rw [Vg.pl_atn hp] at g4
  have hg := Fb.run_neg_float .f64 (Vg.atn true p) _ (Vg.neg_fl64 _ hb)
  have h3 : (FloatKind.f64.format.order (Vg.ngf true (Vg.atn true p)) 9218868437227405311 == some Ordering.gt) = n := by
    have e := Vg.gt_iff true (Vg.ngf true (Vg.atn true p)) 9218868437227405311 (by simp only [Vg.S, if_true]; omega) (by decide)
    refine Eq.trans e ?_
    rw [g3, g4, show Vg.nn true 9218868437227405311 = false by decide, show Vg.pl true 9218868437227405311 = 9218868437227405311 by decide, Bool.eq_iff_iff, hn]
    have := hp.bd
    rw [Vg.PI_eq]
    simp only [Bool.not_false, Bool.true_and, decide_eq_true_eq]
    omega
  clear hn hp hb g1 g2 g3 g4
  generalize Vg.ngf true (Vg.atn true p) = c at *
  generalize Vg.atn true p = b at *
  go_enter Try.func74, Try.ntmps74
  go_wp2
  go_ret
  exact ⟨rfl, rfl⟩
theorem none_any (a b : Nat) (w : World) : Calls Try.prog 110 #[.agg #[.float .f64 a, .float .f64 b]] w fun e w' => e = .returned (.bool (FloatKind.f64.format.order a b == some Ordering.gt)) ∧ Below w.heap.size w w' := by
  have hst := sto
  go_enter Try.func110, Try.ntmps110
  go_wp2
  go_ret
  exact ⟨rfl, b_one⟩
/-- The sum of two numbers, and a number's half. -/
def Sums (p q : Int) : Prop := ∃ s, s ≤ 18446744073709551615 ∧ floatBits .add .f64 (Vg.atn true p) (Vg.atn true q) = some s ∧
    (Vg.infb s = false ∧ (∃ d, d ≤ 18446744073709551615 ∧ floatBits .quo .f64 s 4611686018427387904 = some d) ∨
     Vg.infb s = true ∧ ∃ x y m, floatBits .quo .f64 (Vg.atn true p) 4611686018427387904 = some x ∧ floatBits .quo .f64 (Vg.atn true q) 4611686018427387904 = some y ∧ floatBits .add .f64 x y = some m)

set_option maxHeartbeats 4000000 in
theorem mid_all (p q : Int) (hI : Vg.Iv p q) (hne : p ≤ q) (h1 : p = -Vg.PI) (h2 : q = Vg.PI) (w : World) : Calls Try.prog 88 #[.agg #[.float .f64 (Vg.atn true p), .float .f64 (Vg.atn true q)]] w fun e w' => e = .returned (.float .f64 0) ∧ Below w.heap.size w w' := by
  have hst := sto
  have hle := hne
  have t0 : (FloatKind.f64.format.order (Vg.atn true p) (Vg.atn true q) == some Ordering.gt) = false := by
    rw [Vg.order_places hI.lo hI.hi, beq_eq_false_iff_ne]
    simp only [ne_eq, Option.some.injEq, Int.compare_eq_gt]
    omega
  have R := fun w => read_any (Vg.atn true p) (Vg.atn true q) p q (Vg.Rd.self hI) w
  have HI := hide hI
  have A1 := isinf_neg hI.lo true (by simp [h1])
  have A2 := isinf_pos hI.hi true (by simp [h2])
  clear h1 h2
  clear hI hle hne
  go_enter Try.func88, Try.ntmps88
  go_wp2_with fail
  refine (R _).mono ?_; rintro e w1 ⟨rfl, hb1⟩
  have g := bch_one hb1
  have f0 : w1.frozen? ⟨w.heap.size, 0, none⟩ = false := keep_free hb1 (by simp) (by simp)
  have f1 : w1.frozen? ⟨w.heap.size, 1, none⟩ = false := keep_free hb1 (by simp) (by simp)
  have k0 : w1.cell? ⟨w.heap.size, 0, none⟩ = some (.float .f64 (Vg.atn true p)) := keep_cell hb1 (by simp) (by simp)
  have k1 : w1.cell? ⟨w.heap.size, 1, none⟩ = some (.float .f64 (Vg.atn true q)) := keep_cell hb1 (by simp) (by simp)
  have z : w.heap.size < w1.heap.size := by have := hb1.size; simp at this; omega
  clear hb1 R
  go_wp2_with fail
  refine (none_any _ _ _).mono ?_; rintro e w2 ⟨rfl, hb⟩; rw [t0]
  have l0 : w2.cell? ⟨w.heap.size, 0, none⟩ = some (.float .f64 (Vg.atn true p)) := keep_cell hb (by simp; omega) (by simp [go_sem, k0])
  have l1 : w2.cell? ⟨w.heap.size, 1, none⟩ = some (.float .f64 (Vg.atn true q)) := keep_cell hb (by simp; omega) (by simp [go_sem, k1])
  have g2 := bch ((g.setCell (by dsimp only <;> omega) _).setCell (by dsimp only <;> omega) _) hb
  clear hb k0 k1 f0 f1 g z
  go_wp2_with (first | (go_at_call 74; first | ((with_reducible refine (A1 _).mono ?_); rintro e w' ⟨rfl, rfl⟩) | ((with_reducible refine (A2 _).mono ?_); rintro e w' ⟨rfl, rfl⟩) | ((with_reducible refine (A3 _).mono ?_); rintro e w' ⟨rfl, rfl⟩)) | (go_at_call 111; refine (A4 _).mono ?_; rintro e w' ⟨rfl, rfl⟩))
  go_ret
  exact ⟨rfl, g2⟩

set_option maxHeartbeats 4000000 in
theorem mid_low (p q : Int) (hI : Vg.Iv p q) (hne : p ≤ q) (h1 : p = -Vg.PI) (h2 : q < Vg.PI) (w : World) : Calls Try.prog 88 #[.agg #[.float .f64 (Vg.atn true p), .float .f64 (Vg.atn true q)]] w fun e w' => e = .returned (.float .f64 18442240474082181119) ∧ Below w.heap.size w w' := by
  have hst := sto
  have hle := hne
  have t0 : (FloatKind.f64.format.order (Vg.atn true p) (Vg.atn true q) == some Ordering.gt) = false := by
    rw [Vg.order_places hI.lo hI.hi, beq_eq_false_iff_ne]
    simp only [ne_eq, Option.some.injEq, Int.compare_eq_gt]
    omega
  have R := fun w => read_any (Vg.atn true p) (Vg.atn true q) p q (Vg.Rd.self hI) w
  have HI := hide hI
  have A1 := isinf_neg hI.lo true (by simp [h1])
  have A2 := isinf_pos hI.hi false (by simp; omega)
  clear h1 h2
  clear hI hle hne
  go_enter Try.func88, Try.ntmps88
  go_wp2_with fail
  refine (R _).mono ?_; rintro e w1 ⟨rfl, hb1⟩
  have g := bch_one hb1
  have f0 : w1.frozen? ⟨w.heap.size, 0, none⟩ = false := keep_free hb1 (by simp) (by simp)
  have f1 : w1.frozen? ⟨w.heap.size, 1, none⟩ = false := keep_free hb1 (by simp) (by simp)
  have k0 : w1.cell? ⟨w.heap.size, 0, none⟩ = some (.float .f64 (Vg.atn true p)) := keep_cell hb1 (by simp) (by simp)
  have k1 : w1.cell? ⟨w.heap.size, 1, none⟩ = some (.float .f64 (Vg.atn true q)) := keep_cell hb1 (by simp) (by simp)
  have z : w.heap.size < w1.heap.size := by have := hb1.size; simp at this; omega
  clear hb1 R
  go_wp2_with fail
  refine (none_any _ _ _).mono ?_; rintro e w2 ⟨rfl, hb⟩; rw [t0]
  have l0 : w2.cell? ⟨w.heap.size, 0, none⟩ = some (.float .f64 (Vg.atn true p)) := keep_cell hb (by simp; omega) (by simp [go_sem, k0])
  have l1 : w2.cell? ⟨w.heap.size, 1, none⟩ = some (.float .f64 (Vg.atn true q)) := keep_cell hb (by simp; omega) (by simp [go_sem, k1])
  have g2 := bch ((g.setCell (by dsimp only <;> omega) _).setCell (by dsimp only <;> omega) _) hb
  clear hb k0 k1 f0 f1 g z
  go_wp2_with (first | (go_at_call 74; first | ((with_reducible refine (A1 _).mono ?_); rintro e w' ⟨rfl, rfl⟩) | ((with_reducible refine (A2 _).mono ?_); rintro e w' ⟨rfl, rfl⟩) | ((with_reducible refine (A3 _).mono ?_); rintro e w' ⟨rfl, rfl⟩)) | (go_at_call 111; refine (A4 _).mono ?_; rintro e w' ⟨rfl, rfl⟩))
  go_ret
  exact ⟨rfl, g2⟩

set_option maxHeartbeats 4000000 in
theorem mid_high (p q : Int) (hI : Vg.Iv p q) (hne : p ≤ q) (h1 : -Vg.PI < p) (h2 : q = Vg.PI) (w : World) : Calls Try.prog 88 #[.agg #[.float .f64 (Vg.atn true p), .float .f64 (Vg.atn true q)]] w fun e w' => e = .returned (.float .f64 9218868437227405311) ∧ Below w.heap.size w w' := by
  have hst := sto
  have hle := hne
  have t0 : (FloatKind.f64.format.order (Vg.atn true p) (Vg.atn true q) == some Ordering.gt) = false := by
    rw [Vg.order_places hI.lo hI.hi, beq_eq_false_iff_ne]
    simp only [ne_eq, Option.some.injEq, Int.compare_eq_gt]
    omega
  have R := fun w => read_any (Vg.atn true p) (Vg.atn true q) p q (Vg.Rd.self hI) w
  have HI := hide hI
  have A1 := isinf_neg hI.lo false (by simp; omega)
  have A2 := isinf_pos hI.hi true (by simp [h2])
  clear h1 h2
  clear hI hle hne
  go_enter Try.func88, Try.ntmps88
  go_wp2_with fail
  refine (R _).mono ?_; rintro e w1 ⟨rfl, hb1⟩
  have g := bch_one hb1
  have f0 : w1.frozen? ⟨w.heap.size, 0, none⟩ = false := keep_free hb1 (by simp) (by simp)
  have f1 : w1.frozen? ⟨w.heap.size, 1, none⟩ = false := keep_free hb1 (by simp) (by simp)
  have k0 : w1.cell? ⟨w.heap.size, 0, none⟩ = some (.float .f64 (Vg.atn true p)) := keep_cell hb1 (by simp) (by simp)
  have k1 : w1.cell? ⟨w.heap.size, 1, none⟩ = some (.float .f64 (Vg.atn true q)) := keep_cell hb1 (by simp) (by simp)
  have z : w.heap.size < w1.heap.size := by have := hb1.size; simp at this; omega
  clear hb1 R
  go_wp2_with fail
  refine (none_any _ _ _).mono ?_; rintro e w2 ⟨rfl, hb⟩; rw [t0]
  have l0 : w2.cell? ⟨w.heap.size, 0, none⟩ = some (.float .f64 (Vg.atn true p)) := keep_cell hb (by simp; omega) (by simp [go_sem, k0])
  have l1 : w2.cell? ⟨w.heap.size, 1, none⟩ = some (.float .f64 (Vg.atn true q)) := keep_cell hb (by simp; omega) (by simp [go_sem, k1])
  have g2 := bch ((g.setCell (by dsimp only <;> omega) _).setCell (by dsimp only <;> omega) _) hb
  clear hb k0 k1 f0 f1 g z
  go_wp2_with (first | (go_at_call 74; first | ((with_reducible refine (A1 _).mono ?_); rintro e w' ⟨rfl, rfl⟩) | ((with_reducible refine (A2 _).mono ?_); rintro e w' ⟨rfl, rfl⟩) | ((with_reducible refine (A3 _).mono ?_); rintro e w' ⟨rfl, rfl⟩)) | (go_at_call 111; refine (A4 _).mono ?_; rintro e w' ⟨rfl, rfl⟩))
  go_ret
  exact ⟨rfl, g2⟩

set_option maxHeartbeats 4000000 in
theorem mid_fin (p q : Int) (hI : Vg.Iv p q) (hne : p ≤ q) (h1 : -Vg.PI < p) (h2 : q < Vg.PI) {s d : Nat} (hs : floatBits .add .f64 (Vg.atn true p) (Vg.atn true q) = some s) (sb : s ≤ 18446744073709551615) (hi : Vg.infb s = false) (hd : floatBits .quo .f64 s 4611686018427387904 = some d) (db : d ≤ 18446744073709551615) (w : World) : Calls Try.prog 88 #[.agg #[.float .f64 (Vg.atn true p), .float .f64 (Vg.atn true q)]] w fun e w' => e = .returned (.float .f64 (Vg.plainb true d)) ∧ Below w.heap.size w w' := by
  have hst := sto
  have hle := hne
  have t0 : (FloatKind.f64.format.order (Vg.atn true p) (Vg.atn true q) == some Ordering.gt) = false := by
    rw [Vg.order_places hI.lo hI.hi, beq_eq_false_iff_ne]
    simp only [ne_eq, Option.some.injEq, Int.compare_eq_gt]
    omega
  have R := fun w => read_any (Vg.atn true p) (Vg.atn true q) p q (Vg.Rd.self hI) w
  have HI := hide hI
  have A1 := isinf_neg hI.lo false (by simp; omega)
  have A2 := isinf_pos hI.hi false (by simp; omega)
  clear h1 h2
  have ADD := fun t (w : World) => run_float_arith (P := Try.prog) w .add t .f64 _ _ _ hs
  have QUO := fun t (w : World) => run_float_arith (P := Try.prog) w .quo t .f64 _ _ _ hd
  have A3 := fun w => isinf_any s false hi sb w
  have A4 := fun w => Fb.plain64 d db w
  clear hs hd hi sb db
  clear hI hle hne
  go_enter Try.func88, Try.ntmps88
  go_wp2_with fail
  refine (R _).mono ?_; rintro e w1 ⟨rfl, hb1⟩
  have g := bch_one hb1
  have f0 : w1.frozen? ⟨w.heap.size, 0, none⟩ = false := keep_free hb1 (by simp) (by simp)
  have f1 : w1.frozen? ⟨w.heap.size, 1, none⟩ = false := keep_free hb1 (by simp) (by simp)
  have k0 : w1.cell? ⟨w.heap.size, 0, none⟩ = some (.float .f64 (Vg.atn true p)) := keep_cell hb1 (by simp) (by simp)
  have k1 : w1.cell? ⟨w.heap.size, 1, none⟩ = some (.float .f64 (Vg.atn true q)) := keep_cell hb1 (by simp) (by simp)
  have z : w.heap.size < w1.heap.size := by have := hb1.size; simp at this; omega
  clear hb1 R
  go_wp2_with fail
  refine (none_any _ _ _).mono ?_; rintro e w2 ⟨rfl, hb⟩; rw [t0]
  have l0 : w2.cell? ⟨w.heap.size, 0, none⟩ = some (.float .f64 (Vg.atn true p)) := keep_cell hb (by simp; omega) (by simp [go_sem, k0])
  have l1 : w2.cell? ⟨w.heap.size, 1, none⟩ = some (.float .f64 (Vg.atn true q)) := keep_cell hb (by simp; omega) (by simp [go_sem, k1])
  have g2 := bch ((g.setCell (by dsimp only <;> omega) _).setCell (by dsimp only <;> omega) _) hb
  clear hb k0 k1 f0 f1 g z
  go_wp2_with (first | (go_at_call 74; first | ((with_reducible refine (A1 _).mono ?_); rintro e w' ⟨rfl, rfl⟩) | ((with_reducible refine (A2 _).mono ?_); rintro e w' ⟨rfl, rfl⟩) | ((with_reducible refine (A3 _).mono ?_); rintro e w' ⟨rfl, rfl⟩)) | (go_at_call 111; refine (A4 _).mono ?_; rintro e w' ⟨rfl, rfl⟩))
  go_ret
  exact ⟨rfl, g2⟩

set_option maxHeartbeats 4000000 in
theorem mid_big (p q : Int) (hI : Vg.Iv p q) (hne : p ≤ q) (h1 : -Vg.PI < p) (h2 : q < Vg.PI) {s x y m : Nat} (hs : floatBits .add .f64 (Vg.atn true p) (Vg.atn true q) = some s) (sb : s ≤ 18446744073709551615) (hi : Vg.infb s = true) (hx : floatBits .quo .f64 (Vg.atn true p) 4611686018427387904 = some x) (hy : floatBits .quo .f64 (Vg.atn true q) 4611686018427387904 = some y) (hm : floatBits .add .f64 x y = some m) (w : World) : Calls Try.prog 88 #[.agg #[.float .f64 (Vg.atn true p), .float .f64 (Vg.atn true q)]] w fun e w' => e = .returned (.float .f64 m) ∧ Below w.heap.size w w' := by
  have hst := sto
  have hle := hne
  have t0 : (FloatKind.f64.format.order (Vg.atn true p) (Vg.atn true q) == some Ordering.gt) = false := by
    rw [Vg.order_places hI.lo hI.hi, beq_eq_false_iff_ne]
    simp only [ne_eq, Option.some.injEq, Int.compare_eq_gt]
    omega
  have R := fun w => read_any (Vg.atn true p) (Vg.atn true q) p q (Vg.Rd.self hI) w
  have HI := hide hI
  have A1 := isinf_neg hI.lo false (by simp; omega)
  have A2 := isinf_pos hI.hi false (by simp; omega)
  clear h1 h2
  have ADD := fun t (w : World) => run_float_arith (P := Try.prog) w .add t .f64 _ _ _ hs
  have Q1 := fun t (w : World) => run_float_arith (P := Try.prog) w .quo t .f64 _ _ _ hx
  have Q2 := fun t (w : World) => run_float_arith (P := Try.prog) w .quo t .f64 _ _ _ hy
  have Q3 := fun t (w : World) => run_float_arith (P := Try.prog) w .add t .f64 _ _ _ hm
  have A3 := fun w => isinf_any s true hi sb w
  clear hs hx hy hm hi sb
  clear hI hle hne
  go_enter Try.func88, Try.ntmps88
  go_wp2_with fail
  refine (R _).mono ?_; rintro e w1 ⟨rfl, hb1⟩
  have g := bch_one hb1
  have f0 : w1.frozen? ⟨w.heap.size, 0, none⟩ = false := keep_free hb1 (by simp) (by simp)
  have f1 : w1.frozen? ⟨w.heap.size, 1, none⟩ = false := keep_free hb1 (by simp) (by simp)
  have k0 : w1.cell? ⟨w.heap.size, 0, none⟩ = some (.float .f64 (Vg.atn true p)) := keep_cell hb1 (by simp) (by simp)
  have k1 : w1.cell? ⟨w.heap.size, 1, none⟩ = some (.float .f64 (Vg.atn true q)) := keep_cell hb1 (by simp) (by simp)
  have z : w.heap.size < w1.heap.size := by have := hb1.size; simp at this; omega
  clear hb1 R
  go_wp2_with fail
  refine (none_any _ _ _).mono ?_; rintro e w2 ⟨rfl, hb⟩; rw [t0]
  have l0 : w2.cell? ⟨w.heap.size, 0, none⟩ = some (.float .f64 (Vg.atn true p)) := keep_cell hb (by simp; omega) (by simp [go_sem, k0])
  have l1 : w2.cell? ⟨w.heap.size, 1, none⟩ = some (.float .f64 (Vg.atn true q)) := keep_cell hb (by simp; omega) (by simp [go_sem, k1])
  have g2 := bch ((g.setCell (by dsimp only <;> omega) _).setCell (by dsimp only <;> omega) _) hb
  clear hb k0 k1 f0 f1 g z
  go_wp2_with (first | (go_at_call 74; first | ((with_reducible refine (A1 _).mono ?_); rintro e w' ⟨rfl, rfl⟩) | ((with_reducible refine (A2 _).mono ?_); rintro e w' ⟨rfl, rfl⟩) | ((with_reducible refine (A3 _).mono ?_); rintro e w' ⟨rfl, rfl⟩)) | (go_at_call 111; refine (A4 _).mono ?_; rintro e w' ⟨rfl, rfl⟩))
  go_ret
  exact ⟨rfl, g2⟩

theorem mid_any (p q : Int) (hI : Vg.Iv p q) (hne : p ≤ q) (hS : -Vg.PI < p → q < Vg.PI → Sums p q) (w : World) : Calls Try.prog 88 #[.agg #[.float .f64 (Vg.atn true p), .float .f64 (Vg.atn true q)]] w (MidT p q w) := by
  have h0 : -Vg.PI ≤ p ∧ q ≤ Vg.PI := ⟨hI.lo.1, hI.hi.2⟩
  by_cases c1 : p = -Vg.PI
  · by_cases c2 : q = Vg.PI
    · exact (mid_all p q hI hne c1 c2 w).mono fun e w' ⟨h, hb⟩ => ⟨_, h, .inl ⟨c1, c2, rfl⟩, hb⟩
    · exact (mid_low p q hI hne c1 (by omega) w).mono fun e w' ⟨h, hb⟩ => ⟨_, h, .inr (.inl ⟨c1, by omega, rfl⟩), hb⟩
  · by_cases c2 : q = Vg.PI
    · exact (mid_high p q hI hne (by omega) c2 w).mono fun e w' ⟨h, hb⟩ => ⟨_, h, .inr (.inr (.inl ⟨by omega, c2, rfl⟩)), hb⟩
    · obtain ⟨s, sb, hs, ⟨hi, d, db, hd⟩ | ⟨hi, x, y, m, hx, hy, hm⟩⟩ := hS (by omega) (by omega)
      · exact (mid_fin p q hI hne (by omega) (by omega) hs sb hi hd db w).mono fun e w' ⟨h, hb⟩ => ⟨_, h, .inr (.inr (.inr ⟨⟨by omega, by omega⟩, s, hs, .inl ⟨hi, d, hd, rfl⟩⟩)), hb⟩
      · exact (mid_big p q hI hne (by omega) (by omega) hs sb hi hx hy hm w).mono fun e w' ⟨h, hb⟩ => ⟨_, h, .inr (.inr (.inr ⟨⟨by omega, by omega⟩, s, hs, .inr ⟨hi, x, y, hx, hy, hm⟩⟩)), hb⟩

end Go.Proofs.Ytljnadoodbninaa

/- Hull of the program is what the document says of the least interval that holds two: of every two intervals, of whatever patterns their ends are. -/
import Derived.Test.YtljnadoodbninaaWBits6
import Derived.Test.YtljnadoodbninaaWLess
import Derived.Test.YtljnadoodbninaaWRefRead
import Derived.Test.YtljnadoodbninaaWHull6
import Derived.Test.YtljnadoodbninaaWTold
import Derived.Test.YtljnadoodbninaaKRelKinds
import Derived.Test.YtljnadoodbninaaMHol
import Derived.Test.YtljnadoodbninaaWMeet
import Derived.Test.YtljnadoodbninaaWFrame
import Derived.Lib.SmallJoins

/- Contract of the reference's Least: the least interval that holds a set whose ends are numbers or infinities. -/
namespace Go.Proofs.Ytljnadoodbninaa
open Go.RowKit
set_option maxRecDepth 20000 in
set_option maxHeartbeats 4000000 in
theorem least_none (i : Int) (s : Bool) (A1 A2 : Option Addr) (n1 c1 n2 c2 : Nat) (j : Int) (t : Bool) (A3 A4 : Option Addr) (n3 c3 n4 c4 : Nat) (w : World) :
    Calls Try.prog 69 #[.agg #[.bool true, .int .i64 i, .bool s, .slice A1 n1 c1, .slice A2 n2 c2, .int .i64 j, .bool t, .slice A3 n3 c3, .slice A4 n4 c4]] w fun e w' => e = .returned (.agg #[.int .u64 (Vg.atn true Vg.PI : Nat), .int .u64 (Vg.atn true (-Vg.PI) : Nat)]) ∧ Below w.heap.size w w' := by
  have E0 := fun w => rempty_any w
  go_enter Try.func69, Try.ntmps69
  go_wp2_with fail
  refine (E0 _).mono ?_; rintro e w1 ⟨rfl, h⟩
  have k0 : w1.cell? ⟨w.heap.size + 1, 0, none⟩ = some (.int .u64 0) := keep_cell h (by simp) (by simp [go_sem])
  have k1 : w1.cell? ⟨w.heap.size + 1, 1, none⟩ = some (.int .u64 0) := keep_cell h (by simp) (by simp [go_sem])
  have f0 : w1.frozen? ⟨w.heap.size + 1, 0, none⟩ = false := keep_free h (by simp) (by simp)
  have f1 : w1.frozen? ⟨w.heap.size + 1, 1, none⟩ = false := keep_free h (by simp) (by simp)
  have g : Below w.heap.size w w1 := b_two.trans (h.mono (by simp <;> omega))
  clear h E0
  go_wp2
  exact bodyPost_ret (v := .agg #[.int .u64 (Vg.atn true Vg.PI : Nat), .int .u64 (Vg.atn true (-Vg.PI) : Nat)]) (by simp [results, Try.results69, go_sem, *]) rfl ⟨rfl, (g.setCell (by dsimp only <;> omega) _).setCell (by dsimp only <;> omega) _⟩

theorem En.parts {w : World} {i : Int} {s : Bool} {A1 A2 : Option Addr} {n1 c1 n2 c2 : Nat} {i' Z : Int} {Q B : Nat} (h : En w (.agg #[.int .i64 i, .bool s, .slice A1 n1 c1, .slice A2 n2 c2]) i' Z Q B) : i = i' ∧ Rt w (.agg #[.bool s, .slice A1 n1 c1, .slice A2 n2 c2]) Z Q B := by
  obtain ⟨s', A1', n1', c1', A2', n2', c2', e, h⟩ := h
  injection e with e; injection e with e
  simp only [List.cons.injEq, Value.int.injEq, Value.bool.injEq, Value.slice.injEq, and_true, true_and] at e
  obtain ⟨rfl, rfl, ⟨rfl, rfl, rfl⟩, rfl, rfl, rfl⟩ := e
  exact ⟨rfl, h⟩

set_option maxRecDepth 20000 in
set_option maxHeartbeats 4000000 in
theorem least_nn (p : Int) (r : Int) (i : Int) (s : Bool) (A1 A2 : Option Addr) (n1 c1 n2 c2 : Nat) (j : Int) (t : Bool) (A3 A4 : Option Addr) (n3 c3 n4 c4 : Nat) (w : World) (ti : (i == 0) = true) (tj : (j == 0) = true) (a1 : -9218868437227405312 < p) (a2 : p < 9218868437227405312) (ha : Rt w (.agg #[.bool s, .slice A1 n1 c1, .slice A2 n2 c2]) (Vg.sv p) Vg.LP 64) (b1 : -9218868437227405312 < r) (b2 : r < 9218868437227405312) (hb : Rt w (.agg #[.bool t, .slice A3 n3 c3, .slice A4 n4 c4]) (Vg.sv r) Vg.LP 64) :
    Calls Try.prog 69 #[.agg #[.bool false, .int .i64 i, .bool s, .slice A1 n1 c1, .slice A2 n2 c2, .int .i64 j, .bool t, .slice A3 n3 c3, .slice A4 n4 c4]] w fun e w' => e = .returned (.agg #[.int .u64 (Vg.atn true p : Nat), .int .u64 (Vg.atn true r : Nat)]) ∧ Below w.heap.size w w' := by
  have E0 := fun w => rentire_any w
  have BL := fun (w' : World) (h : Below w.heap.size w w') => bits_num (-1) (.inr (.inl rfl)) p a1 a2 _ 64 w' (ha.keep h) (by decide)
  clear a1 a2 ha
  have BH := fun (w' : World) (h : Below w.heap.size w w') => bits_num 1 (.inl rfl) r b1 b2 _ 64 w' (hb.keep h) (by decide)
  clear b1 b2 hb
  go_enter Try.func69, Try.ntmps69
  go_wp2_with fail
  refine (E0 _).mono ?_; rintro e w1 ⟨rfl, h⟩
  have x0 : w1.cell? ⟨w.heap.size, 0, none⟩ = some (.bool false) := keep_cell h (by simp; omega) (by simp [go_sem])
  have x1 : w1.cell? ⟨w.heap.size, 1, none⟩ = some (.int .i64 i) := keep_cell h (by simp; omega) (by simp [go_sem])
  have x2 : w1.cell? ⟨w.heap.size, 2, none⟩ = some (.bool s) := keep_cell h (by simp; omega) (by simp [go_sem])
  have x3 : w1.cell? ⟨w.heap.size, 3, none⟩ = some (.slice A1 n1 c1) := keep_cell h (by simp; omega) (by simp [go_sem])
  have x4 : w1.cell? ⟨w.heap.size, 4, none⟩ = some (.slice A2 n2 c2) := keep_cell h (by simp; omega) (by simp [go_sem])
  have x5 : w1.cell? ⟨w.heap.size, 5, none⟩ = some (.int .i64 j) := keep_cell h (by simp; omega) (by simp [go_sem])
  have x6 : w1.cell? ⟨w.heap.size, 6, none⟩ = some (.bool t) := keep_cell h (by simp; omega) (by simp [go_sem])
  have x7 : w1.cell? ⟨w.heap.size, 7, none⟩ = some (.slice A3 n3 c3) := keep_cell h (by simp; omega) (by simp [go_sem])
  have x8 : w1.cell? ⟨w.heap.size, 8, none⟩ = some (.slice A4 n4 c4) := keep_cell h (by simp; omega) (by simp [go_sem])
  have k0 : w1.cell? ⟨w.heap.size + 1, 0, none⟩ = some (.int .u64 0) := keep_cell h (by simp) (by simp [go_sem])
  have f0 : w1.frozen? ⟨w.heap.size + 1, 0, none⟩ = false := keep_free h (by simp) (by simp)
  have k1 : w1.cell? ⟨w.heap.size + 1, 1, none⟩ = some (.int .u64 0) := keep_cell h (by simp) (by simp [go_sem])
  have f1 : w1.frozen? ⟨w.heap.size + 1, 1, none⟩ = false := keep_free h (by simp) (by simp)
  have z : w.heap.size + 1 < w1.heap.size := by have := h.size; simp at this; omega
  have g : Below w.heap.size w w1 := b_two.trans (h.mono (by simp <;> omega))
  clear h E0
  go_upto_region 4 with fail
  obtain ⟨W2, hW⟩ : ∃ W2, w1.alloc (.cells #[.int .u64 (Vg.atn true (-Vg.PI) : Nat), .int .u64 (Vg.atn true Vg.PI : Nat)] 24) = W2 := ⟨_, rfl⟩
  obtain ⟨S1, hS1⟩ : ∃ S1, w1.heap.size = S1 := ⟨_, rfl⟩
  have g2 : Below w1.heap.size w1 W2 := by rw [← hW]; exact b_one
  have x0 := keep_cell g2 (by dsimp only; omega) x0
  have x1 := keep_cell g2 (by dsimp only; omega) x1
  have x2 := keep_cell g2 (by dsimp only; omega) x2
  have x3 := keep_cell g2 (by dsimp only; omega) x3
  have x4 := keep_cell g2 (by dsimp only; omega) x4
  have x5 := keep_cell g2 (by dsimp only; omega) x5
  have x6 := keep_cell g2 (by dsimp only; omega) x6
  have x7 := keep_cell g2 (by dsimp only; omega) x7
  have x8 := keep_cell g2 (by dsimp only; omega) x8
  have k0 := keep_cell g2 (by dsimp only; omega) k0
  have f0 := keep_free g2 (by dsimp only; omega) f0
  have k1 := keep_cell g2 (by dsimp only; omega) k1
  have f1 := keep_free g2 (by dsimp only; omega) f1
  have m0 : W2.cell? ⟨S1, 0, none⟩ = some (.int .u64 (Vg.atn true (-Vg.PI) : Nat)) := by rw [← hW, ← hS1]; simp [go_sem]
  have m1 : W2.cell? ⟨S1, 1, none⟩ = some (.int .u64 (Vg.atn true Vg.PI : Nat)) := by rw [← hW, ← hS1]; simp [go_sem]
  have e0 : W2.frozen? ⟨S1, 0, none⟩ = false := by rw [← hW, ← hS1]; simp
  have e1 : W2.frozen? ⟨S1, 1, none⟩ = false := by rw [← hW, ← hS1]; simp
  have z : w.heap.size + 1 < S1 ∧ S1 < W2.heap.size := by rw [← hW, ← hS1]; simp; omega
  have g := bch g g2
  rw [hW, hS1]
  clear g2 hW hS1
  have zn := hide z
  go_wp2_with fail
  refine (BL _ g).mono ?_; rintro e w3 ⟨rfl, hb⟩
  have x0 := keep_cell hb (by dsimp only; omega) x0
  have x1 := keep_cell hb (by dsimp only; omega) x1
  have x2 := keep_cell hb (by dsimp only; omega) x2
  have x3 := keep_cell hb (by dsimp only; omega) x3
  have x4 := keep_cell hb (by dsimp only; omega) x4
  have x5 := keep_cell hb (by dsimp only; omega) x5
  have x6 := keep_cell hb (by dsimp only; omega) x6
  have x7 := keep_cell hb (by dsimp only; omega) x7
  have x8 := keep_cell hb (by dsimp only; omega) x8
  have k0 := keep_cell hb (by dsimp only; omega) k0
  have f0 := keep_free hb (by dsimp only; omega) f0
  have k1 := keep_cell hb (by dsimp only; omega) k1
  have f1 := keep_free hb (by dsimp only; omega) f1
  have m0 := keep_cell hb (by dsimp only; omega) m0
  have e0 := keep_free hb (by dsimp only; omega) e0
  have m1 := keep_cell hb (by dsimp only; omega) m1
  have e1 := keep_free hb (by dsimp only; omega) e1
  have z : w.heap.size + 1 < S1 ∧ S1 < w3.heap.size := ⟨z.1, Nat.lt_of_lt_of_le z.2 hb.size⟩
  have g := bch g hb
  clear hb BL zn
  go_wp2_with fail
  obtain ⟨W4, hW⟩ : ∃ W4, w3.setCell ⟨S1, 0, none⟩ (.int .u64 (Vg.atn true p : Nat)) = W4 := ⟨_, rfl⟩
  have q1 : S1 ≠ w.heap.size := by omega
  have q2 : S1 ≠ w.heap.size + 1 := by omega
  have x0 : W4.cell? ⟨w.heap.size, 0, none⟩ = some (.bool false) := by rw [← hW, World.cell?_setCell_far _ _ _ _ (by dsimp only; omega)]; exact x0
  have x1 : W4.cell? ⟨w.heap.size, 1, none⟩ = some (.int .i64 i) := by rw [← hW, World.cell?_setCell_far _ _ _ _ (by dsimp only; omega)]; exact x1
  have x2 : W4.cell? ⟨w.heap.size, 2, none⟩ = some (.bool s) := by rw [← hW, World.cell?_setCell_far _ _ _ _ (by dsimp only; omega)]; exact x2
  have x3 : W4.cell? ⟨w.heap.size, 3, none⟩ = some (.slice A1 n1 c1) := by rw [← hW, World.cell?_setCell_far _ _ _ _ (by dsimp only; omega)]; exact x3
  have x4 : W4.cell? ⟨w.heap.size, 4, none⟩ = some (.slice A2 n2 c2) := by rw [← hW, World.cell?_setCell_far _ _ _ _ (by dsimp only; omega)]; exact x4
  have x5 : W4.cell? ⟨w.heap.size, 5, none⟩ = some (.int .i64 j) := by rw [← hW, World.cell?_setCell_far _ _ _ _ (by dsimp only; omega)]; exact x5
  have x6 : W4.cell? ⟨w.heap.size, 6, none⟩ = some (.bool t) := by rw [← hW, World.cell?_setCell_far _ _ _ _ (by dsimp only; omega)]; exact x6
  have x7 : W4.cell? ⟨w.heap.size, 7, none⟩ = some (.slice A3 n3 c3) := by rw [← hW, World.cell?_setCell_far _ _ _ _ (by dsimp only; omega)]; exact x7
  have x8 : W4.cell? ⟨w.heap.size, 8, none⟩ = some (.slice A4 n4 c4) := by rw [← hW, World.cell?_setCell_far _ _ _ _ (by dsimp only; omega)]; exact x8
  have k0 : W4.cell? ⟨w.heap.size + 1, 0, none⟩ = some (.int .u64 0) := by rw [← hW, World.cell?_setCell_far _ _ _ _ (by dsimp only; omega)]; exact k0
  have f0 : W4.frozen? ⟨w.heap.size + 1, 0, none⟩ = false := by rw [← hW]; simpa using f0
  have e0 : W4.frozen? ⟨S1, 0, none⟩ = false := by rw [← hW]; simpa using e0
  have k1 : W4.cell? ⟨w.heap.size + 1, 1, none⟩ = some (.int .u64 0) := by rw [← hW, World.cell?_setCell_far _ _ _ _ (by dsimp only; omega)]; exact k1
  have f1 : W4.frozen? ⟨w.heap.size + 1, 1, none⟩ = false := by rw [← hW]; simpa using f1
  have e1 : W4.frozen? ⟨S1, 1, none⟩ = false := by rw [← hW]; simpa using e1
  have m0 : W4.cell? ⟨S1, 0, none⟩ = some (.int .u64 (Vg.atn true p : Nat)) := by rw [← hW]; simp [go_sem, m0]
  have m1 : W4.cell? ⟨S1, 1, none⟩ = some (.int .u64 (Vg.atn true Vg.PI : Nat)) := by rw [← hW]; simp [go_sem, m1]
  have g : Below w.heap.size w W4 := by rw [← hW]; exact g.setCell (by dsimp only; omega) _
  have z : w.heap.size + 1 < S1 ∧ S1 < W4.heap.size := by rw [← hW]; simpa using z
  rw [hW]
  clear hW q1 q2
  refine (BH _ g).mono ?_; rintro e w5 ⟨rfl, hb⟩
  have x0 := keep_cell hb (by dsimp only; omega) x0
  have x1 := keep_cell hb (by dsimp only; omega) x1
  have x2 := keep_cell hb (by dsimp only; omega) x2
  have x3 := keep_cell hb (by dsimp only; omega) x3
  have x4 := keep_cell hb (by dsimp only; omega) x4
  have x5 := keep_cell hb (by dsimp only; omega) x5
  have x6 := keep_cell hb (by dsimp only; omega) x6
  have x7 := keep_cell hb (by dsimp only; omega) x7
  have x8 := keep_cell hb (by dsimp only; omega) x8
  have k0 := keep_cell hb (by dsimp only; omega) k0
  have f0 := keep_free hb (by dsimp only; omega) f0
  have k1 := keep_cell hb (by dsimp only; omega) k1
  have f1 := keep_free hb (by dsimp only; omega) f1
  have m0 := keep_cell hb (by dsimp only; omega) m0
  have e0 := keep_free hb (by dsimp only; omega) e0
  have m1 := keep_cell hb (by dsimp only; omega) m1
  have e1 := keep_free hb (by dsimp only; omega) e1
  have z : w.heap.size + 1 < S1 ∧ S1 < w5.heap.size := ⟨z.1, Nat.lt_of_lt_of_le z.2 hb.size⟩
  have g := bch g hb
  clear hb BH
  have y1 : w.heap.size ≠ S1 := by omega
  have y2 : w.heap.size + 1 ≠ S1 := by omega
  have y3 := y1.symm
  have y4 := y2.symm
  go_wp2
  exact bodyPost_ret (v := .agg #[.int .u64 (Vg.atn true p : Nat), .int .u64 (Vg.atn true r : Nat)]) (by simp [results, Try.results69, go_sem, *]) rfl ⟨rfl, ((g.setCell (by dsimp only; omega) _).setCell (by dsimp only; omega) _).setCell (by dsimp only; omega) _⟩

set_option maxRecDepth 20000 in
set_option maxHeartbeats 4000000 in
theorem least_ni (p : Int) (i : Int) (s : Bool) (A1 A2 : Option Addr) (n1 c1 n2 c2 : Nat) (j : Int) (t : Bool) (A3 A4 : Option Addr) (n3 c3 n4 c4 : Nat) (w : World) (ti : (i == 0) = true) (tj : (j == 0) = false) (a1 : -9218868437227405312 < p) (a2 : p < 9218868437227405312) (ha : Rt w (.agg #[.bool s, .slice A1 n1 c1, .slice A2 n2 c2]) (Vg.sv p) Vg.LP 64) :
    Calls Try.prog 69 #[.agg #[.bool false, .int .i64 i, .bool s, .slice A1 n1 c1, .slice A2 n2 c2, .int .i64 j, .bool t, .slice A3 n3 c3, .slice A4 n4 c4]] w fun e w' => e = .returned (.agg #[.int .u64 (Vg.atn true p : Nat), .int .u64 (Vg.atn true Vg.PI : Nat)]) ∧ Below w.heap.size w w' := by
  have E0 := fun w => rentire_any w
  have BL := fun (w' : World) (h : Below w.heap.size w w') => bits_num (-1) (.inr (.inl rfl)) p a1 a2 _ 64 w' (ha.keep h) (by decide)
  clear a1 a2 ha
  go_enter Try.func69, Try.ntmps69
  go_wp2_with fail
  refine (E0 _).mono ?_; rintro e w1 ⟨rfl, h⟩
  have x0 : w1.cell? ⟨w.heap.size, 0, none⟩ = some (.bool false) := keep_cell h (by simp; omega) (by simp [go_sem])
  have x1 : w1.cell? ⟨w.heap.size, 1, none⟩ = some (.int .i64 i) := keep_cell h (by simp; omega) (by simp [go_sem])
  have x2 : w1.cell? ⟨w.heap.size, 2, none⟩ = some (.bool s) := keep_cell h (by simp; omega) (by simp [go_sem])
  have x3 : w1.cell? ⟨w.heap.size, 3, none⟩ = some (.slice A1 n1 c1) := keep_cell h (by simp; omega) (by simp [go_sem])
  have x4 : w1.cell? ⟨w.heap.size, 4, none⟩ = some (.slice A2 n2 c2) := keep_cell h (by simp; omega) (by simp [go_sem])
  have x5 : w1.cell? ⟨w.heap.size, 5, none⟩ = some (.int .i64 j) := keep_cell h (by simp; omega) (by simp [go_sem])
  have x6 : w1.cell? ⟨w.heap.size, 6, none⟩ = some (.bool t) := keep_cell h (by simp; omega) (by simp [go_sem])
  have x7 : w1.cell? ⟨w.heap.size, 7, none⟩ = some (.slice A3 n3 c3) := keep_cell h (by simp; omega) (by simp [go_sem])
  have x8 : w1.cell? ⟨w.heap.size, 8, none⟩ = some (.slice A4 n4 c4) := keep_cell h (by simp; omega) (by simp [go_sem])
  have k0 : w1.cell? ⟨w.heap.size + 1, 0, none⟩ = some (.int .u64 0) := keep_cell h (by simp) (by simp [go_sem])
  have f0 : w1.frozen? ⟨w.heap.size + 1, 0, none⟩ = false := keep_free h (by simp) (by simp)
  have k1 : w1.cell? ⟨w.heap.size + 1, 1, none⟩ = some (.int .u64 0) := keep_cell h (by simp) (by simp [go_sem])
  have f1 : w1.frozen? ⟨w.heap.size + 1, 1, none⟩ = false := keep_free h (by simp) (by simp)
  have z : w.heap.size + 1 < w1.heap.size := by have := h.size; simp at this; omega
  have g : Below w.heap.size w w1 := b_two.trans (h.mono (by simp <;> omega))
  clear h E0
  go_upto_region 4 with fail
  obtain ⟨W2, hW⟩ : ∃ W2, w1.alloc (.cells #[.int .u64 (Vg.atn true (-Vg.PI) : Nat), .int .u64 (Vg.atn true Vg.PI : Nat)] 24) = W2 := ⟨_, rfl⟩
  obtain ⟨S1, hS1⟩ : ∃ S1, w1.heap.size = S1 := ⟨_, rfl⟩
  have g2 : Below w1.heap.size w1 W2 := by rw [← hW]; exact b_one
  have x0 := keep_cell g2 (by dsimp only; omega) x0
  have x1 := keep_cell g2 (by dsimp only; omega) x1
  have x2 := keep_cell g2 (by dsimp only; omega) x2
  have x3 := keep_cell g2 (by dsimp only; omega) x3
  have x4 := keep_cell g2 (by dsimp only; omega) x4
  have x5 := keep_cell g2 (by dsimp only; omega) x5
  have x6 := keep_cell g2 (by dsimp only; omega) x6
  have x7 := keep_cell g2 (by dsimp only; omega) x7
  have x8 := keep_cell g2 (by dsimp only; omega) x8
  have k0 := keep_cell g2 (by dsimp only; omega) k0
  have f0 := keep_free g2 (by dsimp only; omega) f0
  have k1 := keep_cell g2 (by dsimp only; omega) k1
  have f1 := keep_free g2 (by dsimp only; omega) f1
  have m0 : W2.cell? ⟨S1, 0, none⟩ = some (.int .u64 (Vg.atn true (-Vg.PI) : Nat)) := by rw [← hW, ← hS1]; simp [go_sem]
  have m1 : W2.cell? ⟨S1, 1, none⟩ = some (.int .u64 (Vg.atn true Vg.PI : Nat)) := by rw [← hW, ← hS1]; simp [go_sem]
  have e0 : W2.frozen? ⟨S1, 0, none⟩ = false := by rw [← hW, ← hS1]; simp
  have e1 : W2.frozen? ⟨S1, 1, none⟩ = false := by rw [← hW, ← hS1]; simp
  have z : w.heap.size + 1 < S1 ∧ S1 < W2.heap.size := by rw [← hW, ← hS1]; simp; omega
  have g := bch g g2
  rw [hW, hS1]
  clear g2 hW hS1
  have zn := hide z
  go_wp2_with fail
  refine (BL _ g).mono ?_; rintro e w3 ⟨rfl, hb⟩
  have x0 := keep_cell hb (by dsimp only; omega) x0
  have x1 := keep_cell hb (by dsimp only; omega) x1
  have x2 := keep_cell hb (by dsimp only; omega) x2
  have x3 := keep_cell hb (by dsimp only; omega) x3
  have x4 := keep_cell hb (by dsimp only; omega) x4
  have x5 := keep_cell hb (by dsimp only; omega) x5
  have x6 := keep_cell hb (by dsimp only; omega) x6
  have x7 := keep_cell hb (by dsimp only; omega) x7
  have x8 := keep_cell hb (by dsimp only; omega) x8
  have k0 := keep_cell hb (by dsimp only; omega) k0
  have f0 := keep_free hb (by dsimp only; omega) f0
  have k1 := keep_cell hb (by dsimp only; omega) k1
  have f1 := keep_free hb (by dsimp only; omega) f1
  have m0 := keep_cell hb (by dsimp only; omega) m0
  have e0 := keep_free hb (by dsimp only; omega) e0
  have m1 := keep_cell hb (by dsimp only; omega) m1
  have e1 := keep_free hb (by dsimp only; omega) e1
  have z : w.heap.size + 1 < S1 ∧ S1 < w3.heap.size := ⟨z.1, Nat.lt_of_lt_of_le z.2 hb.size⟩
  have g := bch g hb
  clear hb BL zn
  go_wp2_with fail
  have y1 : w.heap.size ≠ S1 := by omega
  have y2 : w.heap.size + 1 ≠ S1 := by omega
  have y3 := y1.symm
  have y4 := y2.symm
  go_wp2
  exact bodyPost_ret (v := .agg #[.int .u64 (Vg.atn true p : Nat), .int .u64 (Vg.atn true Vg.PI : Nat)]) (by simp [results, Try.results69, go_sem, *]) rfl ⟨rfl, ((g.setCell (by dsimp only; omega) _).setCell (by dsimp only; omega) _).setCell (by dsimp only; omega) _⟩

set_option maxRecDepth 20000 in
set_option maxHeartbeats 4000000 in
theorem least_in (r : Int) (i : Int) (s : Bool) (A1 A2 : Option Addr) (n1 c1 n2 c2 : Nat) (j : Int) (t : Bool) (A3 A4 : Option Addr) (n3 c3 n4 c4 : Nat) (w : World) (ti : (i == 0) = false) (tj : (j == 0) = true) (b1 : -9218868437227405312 < r) (b2 : r < 9218868437227405312) (hb : Rt w (.agg #[.bool t, .slice A3 n3 c3, .slice A4 n4 c4]) (Vg.sv r) Vg.LP 64) :
    Calls Try.prog 69 #[.agg #[.bool false, .int .i64 i, .bool s, .slice A1 n1 c1, .slice A2 n2 c2, .int .i64 j, .bool t, .slice A3 n3 c3, .slice A4 n4 c4]] w fun e w' => e = .returned (.agg #[.int .u64 (Vg.atn true (-Vg.PI) : Nat), .int .u64 (Vg.atn true r : Nat)]) ∧ Below w.heap.size w w' := by
  have E0 := fun w => rentire_any w
  have BH := fun (w' : World) (h : Below w.heap.size w w') => bits_num 1 (.inl rfl) r b1 b2 _ 64 w' (hb.keep h) (by decide)
  clear b1 b2 hb
  go_enter Try.func69, Try.ntmps69
  go_wp2_with fail
  refine (E0 _).mono ?_; rintro e w1 ⟨rfl, h⟩
  have x0 : w1.cell? ⟨w.heap.size, 0, none⟩ = some (.bool false) := keep_cell h (by simp; omega) (by simp [go_sem])
  have x1 : w1.cell? ⟨w.heap.size, 1, none⟩ = some (.int .i64 i) := keep_cell h (by simp; omega) (by simp [go_sem])
  have x2 : w1.cell? ⟨w.heap.size, 2, none⟩ = some (.bool s) := keep_cell h (by simp; omega) (by simp [go_sem])
  have x3 : w1.cell? ⟨w.heap.size, 3, none⟩ = some (.slice A1 n1 c1) := keep_cell h (by simp; omega) (by simp [go_sem])
  have x4 : w1.cell? ⟨w.heap.size, 4, none⟩ = some (.slice A2 n2 c2) := keep_cell h (by simp; omega) (by simp [go_sem])
  have x5 : w1.cell? ⟨w.heap.size, 5, none⟩ = some (.int .i64 j) := keep_cell h (by simp; omega) (by simp [go_sem])
  have x6 : w1.cell? ⟨w.heap.size, 6, none⟩ = some (.bool t) := keep_cell h (by simp; omega) (by simp [go_sem])
  have x7 : w1.cell? ⟨w.heap.size, 7, none⟩ = some (.slice A3 n3 c3) := keep_cell h (by simp; omega) (by simp [go_sem])
  have x8 : w1.cell? ⟨w.heap.size, 8, none⟩ = some (.slice A4 n4 c4) := keep_cell h (by simp; omega) (by simp [go_sem])
  have k0 : w1.cell? ⟨w.heap.size + 1, 0, none⟩ = some (.int .u64 0) := keep_cell h (by simp) (by simp [go_sem])
  have f0 : w1.frozen? ⟨w.heap.size + 1, 0, none⟩ = false := keep_free h (by simp) (by simp)
  have k1 : w1.cell? ⟨w.heap.size + 1, 1, none⟩ = some (.int .u64 0) := keep_cell h (by simp) (by simp [go_sem])
  have f1 : w1.frozen? ⟨w.heap.size + 1, 1, none⟩ = false := keep_free h (by simp) (by simp)
  have z : w.heap.size + 1 < w1.heap.size := by have := h.size; simp at this; omega
  have g : Below w.heap.size w w1 := b_two.trans (h.mono (by simp <;> omega))
  clear h E0
  go_upto_region 4 with fail
  obtain ⟨W2, hW⟩ : ∃ W2, w1.alloc (.cells #[.int .u64 (Vg.atn true (-Vg.PI) : Nat), .int .u64 (Vg.atn true Vg.PI : Nat)] 24) = W2 := ⟨_, rfl⟩
  obtain ⟨S1, hS1⟩ : ∃ S1, w1.heap.size = S1 := ⟨_, rfl⟩
  have g2 : Below w1.heap.size w1 W2 := by rw [← hW]; exact b_one
  have x0 := keep_cell g2 (by dsimp only; omega) x0
  have x1 := keep_cell g2 (by dsimp only; omega) x1
  have x2 := keep_cell g2 (by dsimp only; omega) x2
  have x3 := keep_cell g2 (by dsimp only; omega) x3
  have x4 := keep_cell g2 (by dsimp only; omega) x4
  have x5 := keep_cell g2 (by dsimp only; omega) x5
  have x6 := keep_cell g2 (by dsimp only; omega) x6
  have x7 := keep_cell g2 (by dsimp only; omega) x7
  have x8 := keep_cell g2 (by dsimp only; omega) x8
  have k0 := keep_cell g2 (by dsimp only; omega) k0
  have f0 := keep_free g2 (by dsimp only; omega) f0
  have k1 := keep_cell g2 (by dsimp only; omega) k1
  have f1 := keep_free g2 (by dsimp only; omega) f1
  have m0 : W2.cell? ⟨S1, 0, none⟩ = some (.int .u64 (Vg.atn true (-Vg.PI) : Nat)) := by rw [← hW, ← hS1]; simp [go_sem]
  have m1 : W2.cell? ⟨S1, 1, none⟩ = some (.int .u64 (Vg.atn true Vg.PI : Nat)) := by rw [← hW, ← hS1]; simp [go_sem]
  have e0 : W2.frozen? ⟨S1, 0, none⟩ = false := by rw [← hW, ← hS1]; simp
  have e1 : W2.frozen? ⟨S1, 1, none⟩ = false := by rw [← hW, ← hS1]; simp
  have z : w.heap.size + 1 < S1 ∧ S1 < W2.heap.size := by rw [← hW, ← hS1]; simp; omega
  have g := bch g g2
  rw [hW, hS1]
  clear g2 hW hS1
  have zn := hide z
  go_wp2_with fail
  refine (BH _ g).mono ?_; rintro e w5 ⟨rfl, hb⟩
  have x0 := keep_cell hb (by dsimp only; omega) x0
  have x1 := keep_cell hb (by dsimp only; omega) x1
  have x2 := keep_cell hb (by dsimp only; omega) x2
  have x3 := keep_cell hb (by dsimp only; omega) x3
  have x4 := keep_cell hb (by dsimp only; omega) x4
  have x5 := keep_cell hb (by dsimp only; omega) x5
  have x6 := keep_cell hb (by dsimp only; omega) x6
  have x7 := keep_cell hb (by dsimp only; omega) x7
  have x8 := keep_cell hb (by dsimp only; omega) x8
  have k0 := keep_cell hb (by dsimp only; omega) k0
  have f0 := keep_free hb (by dsimp only; omega) f0
  have k1 := keep_cell hb (by dsimp only; omega) k1
  have f1 := keep_free hb (by dsimp only; omega) f1
  have m0 := keep_cell hb (by dsimp only; omega) m0
  have e0 := keep_free hb (by dsimp only; omega) e0
  have m1 := keep_cell hb (by dsimp only; omega) m1
  have e1 := keep_free hb (by dsimp only; omega) e1
  have z : w.heap.size + 1 < S1 ∧ S1 < w5.heap.size := ⟨z.1, Nat.lt_of_lt_of_le z.2 hb.size⟩
  have g := bch g hb
  clear hb BH
  have y1 : w.heap.size ≠ S1 := by omega
  have y2 : w.heap.size + 1 ≠ S1 := by omega
  have y3 := y1.symm
  have y4 := y2.symm
  go_wp2
  exact bodyPost_ret (v := .agg #[.int .u64 (Vg.atn true (-Vg.PI) : Nat), .int .u64 (Vg.atn true r : Nat)]) (by simp [results, Try.results69, go_sem, *]) rfl ⟨rfl, ((g.setCell (by dsimp only; omega) _).setCell (by dsimp only; omega) _).setCell (by dsimp only; omega) _⟩

set_option maxRecDepth 20000 in
set_option maxHeartbeats 4000000 in
theorem least_ii (i : Int) (s : Bool) (A1 A2 : Option Addr) (n1 c1 n2 c2 : Nat) (j : Int) (t : Bool) (A3 A4 : Option Addr) (n3 c3 n4 c4 : Nat) (w : World) (ti : (i == 0) = false) (tj : (j == 0) = false) :
    Calls Try.prog 69 #[.agg #[.bool false, .int .i64 i, .bool s, .slice A1 n1 c1, .slice A2 n2 c2, .int .i64 j, .bool t, .slice A3 n3 c3, .slice A4 n4 c4]] w fun e w' => e = .returned (.agg #[.int .u64 (Vg.atn true (-Vg.PI) : Nat), .int .u64 (Vg.atn true Vg.PI : Nat)]) ∧ Below w.heap.size w w' := by
  have E0 := fun w => rentire_any w
  go_enter Try.func69, Try.ntmps69
  go_wp2_with fail
  refine (E0 _).mono ?_; rintro e w1 ⟨rfl, h⟩
  have x0 : w1.cell? ⟨w.heap.size, 0, none⟩ = some (.bool false) := keep_cell h (by simp; omega) (by simp [go_sem])
  have x1 : w1.cell? ⟨w.heap.size, 1, none⟩ = some (.int .i64 i) := keep_cell h (by simp; omega) (by simp [go_sem])
  have x2 : w1.cell? ⟨w.heap.size, 2, none⟩ = some (.bool s) := keep_cell h (by simp; omega) (by simp [go_sem])
  have x3 : w1.cell? ⟨w.heap.size, 3, none⟩ = some (.slice A1 n1 c1) := keep_cell h (by simp; omega) (by simp [go_sem])
  have x4 : w1.cell? ⟨w.heap.size, 4, none⟩ = some (.slice A2 n2 c2) := keep_cell h (by simp; omega) (by simp [go_sem])
  have x5 : w1.cell? ⟨w.heap.size, 5, none⟩ = some (.int .i64 j) := keep_cell h (by simp; omega) (by simp [go_sem])
  have x6 : w1.cell? ⟨w.heap.size, 6, none⟩ = some (.bool t) := keep_cell h (by simp; omega) (by simp [go_sem])
  have x7 : w1.cell? ⟨w.heap.size, 7, none⟩ = some (.slice A3 n3 c3) := keep_cell h (by simp; omega) (by simp [go_sem])
  have x8 : w1.cell? ⟨w.heap.size, 8, none⟩ = some (.slice A4 n4 c4) := keep_cell h (by simp; omega) (by simp [go_sem])
  have k0 : w1.cell? ⟨w.heap.size + 1, 0, none⟩ = some (.int .u64 0) := keep_cell h (by simp) (by simp [go_sem])
  have f0 : w1.frozen? ⟨w.heap.size + 1, 0, none⟩ = false := keep_free h (by simp) (by simp)
  have k1 : w1.cell? ⟨w.heap.size + 1, 1, none⟩ = some (.int .u64 0) := keep_cell h (by simp) (by simp [go_sem])
  have f1 : w1.frozen? ⟨w.heap.size + 1, 1, none⟩ = false := keep_free h (by simp) (by simp)
  have z : w.heap.size + 1 < w1.heap.size := by have := h.size; simp at this; omega
  have g : Below w.heap.size w w1 := b_two.trans (h.mono (by simp <;> omega))
  clear h E0
  go_upto_region 4 with fail
  obtain ⟨W2, hW⟩ : ∃ W2, w1.alloc (.cells #[.int .u64 (Vg.atn true (-Vg.PI) : Nat), .int .u64 (Vg.atn true Vg.PI : Nat)] 24) = W2 := ⟨_, rfl⟩
  obtain ⟨S1, hS1⟩ : ∃ S1, w1.heap.size = S1 := ⟨_, rfl⟩
  have g2 : Below w1.heap.size w1 W2 := by rw [← hW]; exact b_one
  have x0 := keep_cell g2 (by dsimp only; omega) x0
  have x1 := keep_cell g2 (by dsimp only; omega) x1
  have x2 := keep_cell g2 (by dsimp only; omega) x2
  have x3 := keep_cell g2 (by dsimp only; omega) x3
  have x4 := keep_cell g2 (by dsimp only; omega) x4
  have x5 := keep_cell g2 (by dsimp only; omega) x5
  have x6 := keep_cell g2 (by dsimp only; omega) x6
  have x7 := keep_cell g2 (by dsimp only; omega) x7
  have x8 := keep_cell g2 (by dsimp only; omega) x8
  have k0 := keep_cell g2 (by dsimp only; omega) k0
  have f0 := keep_free g2 (by dsimp only; omega) f0
  have k1 := keep_cell g2 (by dsimp only; omega) k1
  have f1 := keep_free g2 (by dsimp only; omega) f1
  have m0 : W2.cell? ⟨S1, 0, none⟩ = some (.int .u64 (Vg.atn true (-Vg.PI) : Nat)) := by rw [← hW, ← hS1]; simp [go_sem]
  have m1 : W2.cell? ⟨S1, 1, none⟩ = some (.int .u64 (Vg.atn true Vg.PI : Nat)) := by rw [← hW, ← hS1]; simp [go_sem]
  have e0 : W2.frozen? ⟨S1, 0, none⟩ = false := by rw [← hW, ← hS1]; simp
  have e1 : W2.frozen? ⟨S1, 1, none⟩ = false := by rw [← hW, ← hS1]; simp
  have z : w.heap.size + 1 < S1 ∧ S1 < W2.heap.size := by rw [← hW, ← hS1]; simp; omega
  have g := bch g g2
  rw [hW, hS1]
  clear g2 hW hS1
  have zn := hide z
  go_wp2_with fail
  have y1 : w.heap.size ≠ S1 := by omega
  have y2 : w.heap.size + 1 ≠ S1 := by omega
  have y3 := y1.symm
  have y4 := y2.symm
  go_wp2
  exact bodyPost_ret (v := .agg #[.int .u64 (Vg.atn true (-Vg.PI) : Nat), .int .u64 (Vg.atn true Vg.PI : Nat)]) (by simp [results, Try.results69, go_sem, *]) rfl ⟨rfl, (g.setCell (by dsimp only; omega) _).setCell (by dsimp only; omega) _⟩
end Go.Proofs.Ytljnadoodbninaa

/- Contracts of the reference's Least of a set, Hull of two intervals. -/
namespace Go.Proofs.Ytljnadoodbninaa
open Go.RowKit
theorem least_st (v : Value) (x y : Int) (hI : Vg.Iv x y) (w : World) (h : St w v x y) :
    Calls Try.prog 69 #[v] w fun e w' => e = .returned (.agg #[.int .u64 (Vg.atn true x : Nat), .int .u64 (Vg.atn true y : Nat)]) ∧ Below w.heap.size w w' := by
  obtain ⟨n, i, s, A1, n1, c1, A2, n2, c2, j, t, A3, n3, c3, A4, n4, c4, rfl, h⟩ := h
  rcases h with ⟨h1, rfl⟩ | ⟨h1, rfl, h2, h3⟩
  · obtain ⟨rfl, rfl⟩ := hI.empty h1
    exact least_none i s A1 A2 n1 c1 n2 c2 j t A3 A4 n3 c3 n4 c4 w
  · obtain ⟨e1, r1⟩ := h2.parts
    obtain ⟨e2, r2⟩ := h3.parts
    have hp := Vg.PI_eq
    have x1 : x ≠ Vg.PI := by unfold Vg.Iv at hI; omega
    have y1 : y ≠ -Vg.PI := by unfold Vg.Iv at hI; omega
    have hb := hI.lo.bd
    have hb' := hI.hi.bd
    by_cases x2 : x = -Vg.PI
    · have ti : (i == 0) = false := by rw [e1, x2, Vg.ei_bot]; rfl
      by_cases y2 : y = Vg.PI
      · have tj : (j == 0) = false := by rw [e2, y2, Vg.ei_top]; rfl
        rw [x2, y2]
        exact least_ii i s A1 A2 n1 c1 n2 c2 j t A3 A4 n3 c3 n4 c4 w ti tj
      · have tj : (j == 0) = true := by rw [e2, Vg.ei_mid y2 y1]; rfl
        rw [Vg.eZ_mid y2 y1] at r2
        rw [x2]
        exact least_in y i s A1 A2 n1 c1 n2 c2 j t A3 A4 n3 c3 n4 c4 w ti tj (by omega) (by omega) r2
    · have ti : (i == 0) = true := by rw [e1, Vg.ei_mid x1 x2]; rfl
      rw [Vg.eZ_mid x1 x2] at r1
      by_cases y2 : y = Vg.PI
      · have tj : (j == 0) = false := by rw [e2, y2, Vg.ei_top]; rfl
        rw [y2]
        exact least_ni x i s A1 A2 n1 c1 n2 c2 j t A3 A4 n3 c3 n4 c4 w ti tj (by omega) (by omega) r1
      · have tj : (j == 0) = true := by rw [e2, Vg.ei_mid y2 y1]; rfl
        rw [Vg.eZ_mid y2 y1] at r2
        exact least_nn x y i s A1 A2 n1 c1 n2 c2 j t A3 A4 n3 c3 n4 c4 w ti tj (by omega) (by omega) r1 (by omega) (by omega) r2
set_option maxRecDepth 20000 in
set_option maxHeartbeats 8000000 in
theorem rhull_any (a b c d : Nat) (p q r u x y : Int) (hx : Vg.Rd a b p q) (hy : Vg.Rd c d r u) (hj : Join p q r u x y) (w : World) :
    Calls Try.prog 22 #[.agg #[.int .u64 (a : Int), .int .u64 (b : Int)], .agg #[.int .u64 (c : Int), .int .u64 (d : Int)]] w fun e w' => e = .returned (.agg #[.int .u64 (Vg.atn true x : Nat), .int .u64 (Vg.atn true y : Nat)]) ∧ Below w.heap.size w w' := by
  have O1 := fun w => (of6_any a b p q hx w).mono (fun _ _ h => TOf.st h)
  have O2 := fun w => (of6_any c d r u hy w).mono (fun _ _ h => TOf.st h)
  have hI := hx.iv
  have hJ := hy.iv
  have hK := Join.iv hI hJ hj
  have e1 : min p r = x := hj.1.symm
  have e2 : max q u = y := hj.2.symm
  have H6 := fun (w : World) (v1 v2 : Value) (h1 : St w v1 p q) (h2 : St w v2 r u) => hull6_any v1 v2 p q r u hI hJ w h1 h2
  rw [e1, e2] at H6
  have LE := fun (w : World) (v : Value) (h : St w v x y) => least_st v x y hK w h
  obtain ⟨X, hX⟩ : ∃ n, Vg.atn true x = n := ⟨_, rfl⟩
  obtain ⟨Y, hY⟩ : ∃ n, Vg.atn true y = n := ⟨_, rfl⟩
  rw [hX, hY] at LE ⊢
  have NB : Hid (Bx (((w.alloc (.cells #[.int .u64 (a : Int), .int .u64 (b : Int)] 24)).alloc (.cells #[.int .u64 (c : Int), .int .u64 (d : Int)] 24)).alloc (.cells #[.int .u64 0, .int .u64 0] 24)) (w.heap.size + 1 + 1) 2) := hide (Bx.new ((w.alloc (.cells #[.int .u64 (a : Int), .int .u64 (b : Int)] 24)).alloc (.cells #[.int .u64 (c : Int), .int .u64 (d : Int)] 24)) #[.int .u64 0, .int .u64 0] 24 (by simp) rfl (by simp))
  have g : Below w.heap.size w (((w.alloc (.cells #[.int .u64 (a : Int), .int .u64 (b : Int)] 24)).alloc (.cells #[.int .u64 (c : Int), .int .u64 (d : Int)] 24)).alloc (.cells #[.int .u64 0, .int .u64 0] 24)) := b_three
  have z : w.heap.size + 1 + 1 < (((w.alloc (.cells #[.int .u64 (a : Int), .int .u64 (b : Int)] 24)).alloc (.cells #[.int .u64 (c : Int), .int .u64 (d : Int)] 24)).alloc (.cells #[.int .u64 0, .int .u64 0] 24)).heap.size := by simp
  have x0 : (((w.alloc (.cells #[.int .u64 (a : Int), .int .u64 (b : Int)] 24)).alloc (.cells #[.int .u64 (c : Int), .int .u64 (d : Int)] 24)).alloc (.cells #[.int .u64 0, .int .u64 0] 24)).cell? ⟨w.heap.size, 0, none⟩ = some (.int .u64 (a : Int)) := by simp [go_sem]
  have x1 : (((w.alloc (.cells #[.int .u64 (a : Int), .int .u64 (b : Int)] 24)).alloc (.cells #[.int .u64 (c : Int), .int .u64 (d : Int)] 24)).alloc (.cells #[.int .u64 0, .int .u64 0] 24)).cell? ⟨w.heap.size, 1, none⟩ = some (.int .u64 (b : Int)) := by simp [go_sem]
  have x2 : (((w.alloc (.cells #[.int .u64 (a : Int), .int .u64 (b : Int)] 24)).alloc (.cells #[.int .u64 (c : Int), .int .u64 (d : Int)] 24)).alloc (.cells #[.int .u64 0, .int .u64 0] 24)).cell? ⟨w.heap.size + 1, 0, none⟩ = some (.int .u64 (c : Int)) := by simp [go_sem]
  have x3 : (((w.alloc (.cells #[.int .u64 (a : Int), .int .u64 (b : Int)] 24)).alloc (.cells #[.int .u64 (c : Int), .int .u64 (d : Int)] 24)).alloc (.cells #[.int .u64 0, .int .u64 0] 24)).cell? ⟨w.heap.size + 1, 1, none⟩ = some (.int .u64 (d : Int)) := by simp [go_sem]
  clear hX hY hx hy hj hI hJ hK e1 e2
  go_enter Try.func22, Try.ntmps22
  go_upto_region 1 with fail
  generalize hW : (((w.alloc (.cells #[.int .u64 (a : Int), .int .u64 (b : Int)] 24)).alloc (.cells #[.int .u64 (c : Int), .int .u64 (d : Int)] 24)).alloc (.cells #[.int .u64 0, .int .u64 0] 24)) = W1 at *
  clear hW
  refine wp_region_held_drew (S := fun wx => Below w.heap.size w wx ∧ w.heap.size + 1 + 1 < wx.heap.size ∧ wx.cell? ⟨w.heap.size, 0, none⟩ = some (.int .u64 (a : Int)) ∧ wx.cell? ⟨w.heap.size, 1, none⟩ = some (.int .u64 (b : Int)) ∧ wx.cell? ⟨w.heap.size + 1, 0, none⟩ = some (.int .u64 (c : Int)) ∧ wx.cell? ⟨w.heap.size + 1, 1, none⟩ = some (.int .u64 (d : Int))) (by kernel_rfl) ?_ (fun hHeld => ?_)
  · (((try dsimp only); (repeat' apply And.intro) <;> first | assumption | (simp [*]; done) | exact Below.drew (by assumption) | exact keep_cell hb1 (by first | (dsimp only; omega) | (simp; omega)) (by simp [*]) | (have := hb1.size; omega) | (have := hb1.size; simp at this; omega) | exact bch (by simp [*]) hb1 | exact bch (Below.drew (by simp [*])) hb1))
  refine wpAnyH_take (i := 0) (oi := { dst := some 5, op := Op.load 24 (Operand.tmp 2), type := _, pos := _, after := _, guard := none }) (v := ?_) rfl (by kernel_rfl) (by kernel_rfl) (by kernel_rfl) (fun _ _ _ h => h) (Or.inl ⟨by rfl, ?_⟩) (by assumption) ?_
  rotate_left
  · intro w hSw; (try dsimp only at hSw); go_simp
    try with_reducible rfl
  try simp only [Act.put, List.setIfInBounds_toArray, List.set_cons_zero, List.set_cons_succ]
  refine wpAnyH_take (i := 2) (oi := { dst := some 7, op := Op.load 24 (Operand.tmp 3), type := _, pos := _, after := _, guard := none }) (v := ?_) rfl (by kernel_rfl) (by kernel_rfl) (by kernel_rfl) (fun _ _ _ h => h) (Or.inl ⟨by rfl, ?_⟩) (by assumption) ?_
  rotate_left
  · intro w hSw; (try dsimp only at hSw); go_simp
    try with_reducible rfl
  try simp only [Act.put, List.setIfInBounds_toArray, List.set_cons_zero, List.set_cons_succ]
  refine wpAnyH_ready (rs := [1]) (by kernel_rfl) (by simp) ?_
  refine AllReadyH.cons (o := { dst := some 6, op := Op.call { callee := Callee.value (Operand.func 71), args := #[Operand.tmp 5], argTypes := #[24] }, type := _, pos := _, after := _, guard := none }) rfl (fun K hK => ?_) AllReadyH.nil
  go_simp
  go_at_call 71; refine (O1 _).mono ?_; rintro e w' ⟨v1, rfl, p1, hb1⟩; have NB := hide (NB.out.keep hb1 (by first | exact hHeld.2.1 | (dsimp only; omega))); have P1 := hide p1; clear p1
  go_wp2_with fail
  refine hK.out _ _ ?_ (fun hHeld2 => ?_)
  · (((try dsimp only); (repeat' apply And.intro) <;> first | assumption | (simp [*]; done) | exact Below.drew (by assumption) | exact keep_cell hb1 (by first | (dsimp only; omega) | (simp; omega)) (by simp [*]) | (have := hb1.size; omega) | (have := hb1.size; simp at this; omega) | exact bch (by simp [*]) hb1 | exact bch (Below.drew (by simp [*])) hb1))
  clear hK K hHeld
  have hHeld := hHeld2
  clear hHeld2
  try simp only [Act.put, List.setIfInBounds_toArray, List.set_cons_zero, List.set_cons_succ]
  refine wpAnyH_ready (rs := [3]) (by kernel_rfl) (by simp) ?_
  refine AllReadyH.cons (o := { dst := some 8, op := Op.call { callee := Callee.value (Operand.func 71), args := #[Operand.tmp 7], argTypes := #[24] }, type := _, pos := _, after := _, guard := none }) rfl (fun K hK => ?_) AllReadyH.nil
  go_simp
  go_at_call 71; refine (O2 _).mono ?_; rintro e w' ⟨v2, rfl, p2, hb1⟩; have NB := hide (NB.out.keep hb1 (by first | exact hHeld.2.1 | (dsimp only; omega))); have P1 := hide (P1.out.keep hb1); have P2 := hide p2; clear p2
  go_wp2_with fail
  refine hK.out _ _ ?_ (fun hHeld2 => ?_)
  · (((try dsimp only); (repeat' apply And.intro) <;> first | assumption | (simp [*]; done) | exact Below.drew (by assumption) | exact keep_cell hb1 (by first | (dsimp only; omega) | (simp; omega)) (by simp [*]) | (have := hb1.size; omega) | (have := hb1.size; simp at this; omega) | exact bch (by simp [*]) hb1 | exact bch (Below.drew (by simp [*])) hb1))
  clear hK K hHeld
  have hHeld := hHeld2
  clear hHeld2
  try simp only [Act.put, List.setIfInBounds_toArray, List.set_cons_zero, List.set_cons_succ]
  refine wpAnyH_ready (rs := [4]) (by kernel_rfl) (by simp) ?_
  refine AllReadyH.cons (o := { dst := some 9, op := Op.call { callee := Callee.value (Operand.func 70), args := #[Operand.tmp 6, Operand.tmp 8], argTypes := #[71, 71] }, type := _, pos := _, after := _, guard := none }) rfl (fun K hK => ?_) AllReadyH.nil
  go_simp
  go_at_call 70; refine (H6 _ _ _ P1.out P2.out).mono ?_; rintro e w' ⟨v3, rfl, p3, hb1⟩; have NB := hide (NB.out.keep hb1 (by first | exact hHeld.2.1 | (dsimp only; omega))); have P3 := hide p3; clear p3 P1 P2
  go_wp2_with fail
  refine hK.out _ _ ?_ (fun hHeld2 => ?_)
  · (((try dsimp only); (repeat' apply And.intro) <;> first | assumption | (simp [*]; done) | exact Below.drew (by assumption) | exact keep_cell hb1 (by first | (dsimp only; omega) | (simp; omega)) (by simp [*]) | (have := hb1.size; omega) | (have := hb1.size; simp at this; omega) | exact bch (by simp [*]) hb1 | exact bch (Below.drew (by simp [*])) hb1))
  clear hK K hHeld
  have hHeld := hHeld2
  clear hHeld2
  try simp only [Act.put, List.setIfInBounds_toArray, List.set_cons_zero, List.set_cons_succ]
  refine wpAnyH_ready (rs := [5]) (by kernel_rfl) (by simp) ?_
  refine AllReadyH.cons (o := { dst := some 10, op := Op.call { callee := Callee.value (Operand.func 69), args := #[Operand.tmp 9], argTypes := #[71] }, type := _, pos := _, after := _, guard := none }) rfl (fun K hK => ?_) AllReadyH.nil
  go_simp
  go_at_call 69; refine (LE _ _ P3.out).mono ?_; rintro e w' ⟨rfl, hb1⟩; have NB := hide (NB.out.keep hb1 (by first | exact hHeld.2.1 | (dsimp only; omega))); clear P3
  go_wp2_with fail
  refine hK.out _ _ ?_ (fun hHeld2 => ?_)
  · (((try dsimp only); (repeat' apply And.intro) <;> first | assumption | (simp [*]; done) | exact Below.drew (by assumption) | exact keep_cell hb1 (by first | (dsimp only; omega) | (simp; omega)) (by simp [*]) | (have := hb1.size; omega) | (have := hb1.size; simp at this; omega) | exact bch (by simp [*]) hb1 | exact bch (Below.drew (by simp [*])) hb1))
  clear hK K hHeld
  have hHeld := hHeld2
  clear hHeld2
  try simp only [Act.put, List.setIfInBounds_toArray, List.set_cons_zero, List.set_cons_succ]
  refine wpAnyH_ready (rs := [6]) (by kernel_rfl) (by simp) ?_
  refine AllReadyH.cons (o := { dst := none, op := Op.store 24 (Operand.tmp 4) (Operand.tmp 10), type := _, pos := _, after := _, guard := none }) rfl (fun K hK => ?_) AllReadyH.nil
  rw [if_pos (by rfl)]
  refine wp_store_mid 24 _ _ rfl (w.heap.size + 1 + 1) 0 #[.int .u64 (X : Int), .int .u64 (Y : Int)] rfl rfl NB.out.1 (by kernel_rfl) (by simp [Value.oneCell']) ?_
  refine hK.out _ _ ?_ (fun hHeld2 => ?_)
  · exact ⟨sc_below _ (by omega) _ _ _ hHeld.1, by rw [sc_size]; exact hHeld.2.1, (sc_other (by dsimp only; omega)).trans hHeld.2.2.1, (sc_other (by dsimp only; omega)).trans hHeld.2.2.2.1, (sc_other (by dsimp only; omega)).trans hHeld.2.2.2.2.1, (sc_other (by dsimp only; omega)).trans hHeld.2.2.2.2.2⟩
  clear hK K hHeld
  have hHeld := hHeld2
  clear hHeld2
  try simp only [Act.put]
  refine wpAnyH_done (by kernel_rfl) ?_ _
  have G9 := hHeld.1
  clear hHeld x0 x1 x2 x3 z g O1 O2 H6 LE
  go_step
  go_step
  go_step
  refine bodyPost_ret (results_cell rfl _ _ _ ⟨w.heap.size + 1 + 1, 0, none⟩ _ rfl (sc_load Try.prog (vs := [.int .u64 (X : Int), .int .u64 (Y : Int)]) NB.out.1 Try.underlying24 rfl (by kernel_rfl))) rfl ?_
  exact ⟨rfl, G9⟩
end Go.Proofs.Ytljnadoodbninaa

/- Contracts of the reference's Valid and of the law's neighbours, where they answer yes. -/
namespace Go.Proofs.Ytljnadoodbninaa
open Go.RowKit
theorem atn_nat {p : Int} (hp : Vg.Pl p) : (p < 0 → (Vg.atn true p : Int) = 9223372036854775808 - p) ∧ (0 ≤ p → (Vg.atn true p : Int) = p) := by
  have hb := hp.bd
  unfold Vg.atn
  simp only [Vg.S, if_true]
  refine ⟨fun h => ?_, fun h => ?_⟩
  · rw [if_pos h]; omega
  · rw [if_neg (by omega)]; omega
theorem atn_top_ne {p : Int} (hp : Vg.Pl p) : ((Vg.atn true p : Int) != 9223372036854775808) = true := by
  have h := atn_nat hp
  have hb := hp.bd
  rw [bne_iff_ne]
  omega
set_option maxRecDepth 20000 in
set_option maxHeartbeats 2000000 in
theorem rvalid_yes (p q : Int) (hp : Vg.Pl p) (hq : Vg.Pl q) (h : p < q) (w : World) : Calls Try.prog 37 #[.agg #[.int .u64 (Vg.atn true p : Nat), .int .u64 (Vg.atn true q : Nat)]] w fun e w' => e = .returned (.bool true) ∧ Below w.heap.size w w' := by
  have hpi := Vg.PI_pos
  have S1 : Vg.snd (Vg.atn true p) (Vg.atn true q) = true := by
    rw [Vg.snd_iff, Vg.nn_atn hp, Vg.nn_atn hq, Vg.pl_atn hp, Vg.pl_atn hq]
    unfold Vg.Pl at hp hq
    exact ⟨rfl, rfl, by omega, by omega, by omega⟩
  have E1 := relKinds.eqU (a := Vg.atn true p) (b := Vg.atn true q) (c := Vg.atn true Vg.PI) (d := Vg.atn true (-Vg.PI)) false (by
    refine ⟨fun h => (by cases h), fun ⟨h1, h2⟩ => ?_⟩
    have h1 := Vg.atn_inj hp Vg.pl_top h1
    have h2 := Vg.atn_inj hq Vg.pl_bot h2
    omega)
  have R1 := fun w => rempty_any w
  have S2 := fun w => rsound_any (Vg.atn true p) (Vg.atn true q) (Vg.atn_le hp) (Vg.atn_le hq) w
  rw [S1] at S2
  have t1 := atn_top_ne hp
  have t2 := atn_top_ne hq
  clear S1
  obtain ⟨X0, hX⟩ : ∃ n, Vg.atn true p = n := ⟨_, rfl⟩
  obtain ⟨Y0, hY⟩ : ∃ n, Vg.atn true q = n := ⟨_, rfl⟩
  obtain ⟨T0, hT⟩ : ∃ n, Vg.atn true Vg.PI = n := ⟨_, rfl⟩
  obtain ⟨T1, hU⟩ : ∃ n, Vg.atn true (-Vg.PI) = n := ⟨_, rfl⟩
  rw [hX] at E1 S2 t1 ⊢
  rw [hY] at E1 S2 t2 ⊢
  rw [hT, hU] at E1 R1
  clear hX hY hT hU hp hq h hpi
  go_enter Try.func37, Try.ntmps37
  go_upto_region 1 with fail
  have m00 : (w.alloc (.cells #[.int .u64 (X0 : Int), .int .u64 (Y0 : Int)] 24)).cell? ⟨w.heap.size, 0, none⟩ = some (.int .u64 (X0 : Int)) := by simp [go_sem]
  have m01 : (w.alloc (.cells #[.int .u64 (X0 : Int), .int .u64 (Y0 : Int)] 24)).cell? ⟨w.heap.size, 1, none⟩ = some (.int .u64 (Y0 : Int)) := by simp [go_sem]
  have z : w.heap.size + 0 < (w.alloc (.cells #[.int .u64 (X0 : Int), .int .u64 (Y0 : Int)] 24)).heap.size := by simp
  have g : Below w.heap.size w (w.alloc (.cells #[.int .u64 (X0 : Int), .int .u64 (Y0 : Int)] 24)) := b_one
  generalize hW : (w.alloc (.cells #[.int .u64 (X0 : Int), .int .u64 (Y0 : Int)] 24)) = W0 at *
  clear hW
  go_region_held3 (fun wx => wx.cell? ⟨w.heap.size, 0, none⟩ = some (.int .u64 X0) ∧ wx.cell? ⟨w.heap.size, 1, none⟩ = some (.int .u64 Y0) ∧ w.heap.size + 0 < wx.heap.size ∧ Below w.heap.size w wx)
      (((try dsimp only); (repeat' apply And.intro) <;> first | assumption | (simp [*]; done) | exact Below.drew (by assumption) | exact keep_cell hb1 (by first | (dsimp only; omega) | (simp; omega)) (by simp [*]) | (have := hb1.size; omega) | (have := hb1.size; simp at this; omega) | exact bch (by simp [*]) hb1 | exact bch (Below.drew (by simp [*])) hb1))
      (first | (go_at_call 32; refine (R1 _).mono ?_; rintro e w' ⟨rfl, hb1⟩) | fail)
  all_goals
    go_split_ands
    go_wp2_with fail
    refine (S2 _).mono ?_; rintro e w9 ⟨rfl, hb9⟩
    have M0 : w9.cell? ⟨w.heap.size, 0, none⟩ = some (.int .u64 (X0 : Int)) := keep_cell hb9 (by first | (dsimp only; omega) | (simp; omega)) (by assumption)
    have M1 : w9.cell? ⟨w.heap.size, 1, none⟩ = some (.int .u64 (Y0 : Int)) := keep_cell hb9 (by first | (dsimp only; omega) | (simp; omega)) (by assumption)
    have G9 : Below w.heap.size w w9 := bch (by assumption) hb9
    clear hb9
    go_wp2_with fail
    go_ret
    exact ⟨rfl, by simp [*]⟩

theorem rneg_any (x : Nat) (n : Bool) (hn : decide ((9223372036854775808 : Int) < (x : Int)) = n) (w : World) : Calls Try.prog 95 #[.int .u64 x] w fun e w' => e = .returned (.bool n) ∧ w = w' := by
  go_enter Try.func95, Try.ntmps95
  go_wp2
  go_ret
  exact ⟨rfl, rfl⟩

set_option maxRecDepth 20000 in
set_option maxHeartbeats 2000000 in
theorem neigh_bot (X0 Y0 : Nat) (t1 : ((X0 : Int) == 18442240474082181120) = true) (t2 : ((Y0 : Int) == 18442240474082181119) = true) (w : World) : Calls Try.prog 63 #[.agg #[.int .u64 X0, .int .u64 Y0]] w fun e w' => e = .returned (.bool true) ∧ Below w.heap.size w w' := by
  go_enter Try.func63, Try.ntmps63
  go_wp2_with (go_at_call 95; refine (rneg_any X0 false t2 _).mono ?_; rintro e w' ⟨rfl, rfl⟩)
  go_ret
  exact ⟨rfl, b_one⟩

set_option maxRecDepth 20000 in
set_option maxHeartbeats 2000000 in
theorem neigh_zero (X0 Y0 : Nat) (t1 : ((X0 : Int) == 18442240474082181120) = false) (t2 : ((X0 : Int) == 0) = true) (t3 : ((Y0 : Int) == 1) = true) (w : World) : Calls Try.prog 63 #[.agg #[.int .u64 X0, .int .u64 Y0]] w fun e w' => e = .returned (.bool true) ∧ Below w.heap.size w w' := by
  go_enter Try.func63, Try.ntmps63
  go_wp2_with (go_at_call 95; refine (rneg_any X0 false t2 _).mono ?_; rintro e w' ⟨rfl, rfl⟩)
  go_ret
  exact ⟨rfl, b_one⟩

set_option maxRecDepth 20000 in
set_option maxHeartbeats 2000000 in
theorem neigh_pos (X0 Y0 : Nat) (t1 : ((X0 : Int) == 18442240474082181120) = false) (t2 : ((X0 : Int) == 0) = false) (t3 : decide ((9223372036854775808 : Int) < (X0 : Int)) = false) (t4 : IntKind.u64.wrap ((X0 : Int) + 1) = (Y0 : Int)) (w : World) : Calls Try.prog 63 #[.agg #[.int .u64 X0, .int .u64 Y0]] w fun e w' => e = .returned (.bool true) ∧ Below w.heap.size w w' := by
  have N1 := fun w => rneg_any X0 false t3 w
  go_enter Try.func63, Try.ntmps63
  go_wp2_with (go_at_call 95; refine (N1 _).mono ?_; rintro e w' ⟨rfl, rfl⟩)
  go_ret
  exact ⟨rfl, b_one⟩

set_option maxRecDepth 20000 in
set_option maxHeartbeats 2000000 in
theorem neigh_neg (X0 Y0 : Nat) (K : Nat) (t1 : ((X0 : Int) == 18442240474082181120) = false) (t2 : ((X0 : Int) == 0) = false) (t3 : decide ((9223372036854775808 : Int) < (X0 : Int)) = true) (t4 : IntKind.u64.wrap ((X0 : Int) - 1) = (K : Int)) (t5 : K ≤ 18446744073709551615) (t6 : Vg.nn true K = false) (t7 : Vg.plainb true K = Y0) (w : World) : Calls Try.prog 63 #[.agg #[.int .u64 X0, .int .u64 Y0]] w fun e w' => e = .returned (.bool true) ∧ Below w.heap.size w w' := by
  have N1 := fun w => rneg_any X0 true t3 w
  have N2 := fun w => rplain_any K t5 t6 w
  rw [t7] at N2
  clear t5 t6 t7 t3
  go_enter Try.func63, Try.ntmps63
  go_upto_region 7 with (go_at_call 95; refine (N1 _).mono ?_; rintro e w' ⟨rfl, rfl⟩)
  go_region_with (go_at_call 76; refine (N2 _).mono ?_; rintro e w' ⟨rfl, rfl⟩)
  all_goals go_wp2
  all_goals go_ret
  all_goals exact ⟨rfl, by first | exact b_one | exact b_one.drew⟩

theorem neigh_yes (p : Int) (hp : Vg.Pl p) (hq : Vg.Pl (p + 1)) (w : World) : Calls Try.prog 63 #[.agg #[.int .u64 (Vg.atn true p : Nat), .int .u64 (Vg.atn true (p + 1) : Nat)]] w fun e w' => e = .returned (.bool true) ∧ Below w.heap.size w w' := by
  have a := atn_nat hp
  have b := atn_nat hq
  have c := hp.bd
  have d := hq.bd
  by_cases h1 : p = -9218868437227405312
  · exact neigh_bot _ _ (by rw [beq_iff_eq]; omega) (by rw [beq_iff_eq]; omega) w
  by_cases h2 : p = 0
  · exact neigh_zero _ _ (by rw [beq_eq_false_iff_ne]; omega) (by rw [beq_iff_eq]; omega) (by rw [beq_iff_eq]; omega) w
  by_cases h3 : 0 < p
  · exact neigh_pos _ _ (by rw [beq_eq_false_iff_ne]; omega) (by rw [beq_eq_false_iff_ne]; omega) (decide_eq_false (by omega)) (by rw [IntKind.wrap_u64]; omega) w
  · have k1 : Vg.rg true (Vg.atn true p - 1) = (p + 1).natAbs := by simp only [Vg.rg, Vg.S, if_true]; omega
    have k2 : Vg.nn true (Vg.atn true p - 1) = false := by unfold Vg.nn; rw [k1]; simp only [Vg.INF, if_true]; exact decide_eq_false (by omega)
    have k3 : Vg.atn true p - 1 ≤ 18446744073709551615 := by omega
    refine neigh_neg _ _ (Vg.atn true p - 1) (by rw [beq_eq_false_iff_ne]; omega) (by rw [beq_eq_false_iff_ne]; omega) (decide_eq_true (by omega)) (by rw [IntKind.wrap_u64]; omega) k3 k2 ?_ w
    rw [Vg.plain_atn k3 k2]
    congr 1
    unfold Vg.pl
    rw [k1]
    simp only [Vg.ng, Vg.S, if_true, decide_eq_true_eq]
    split <;> omega
end Go.Proofs.Ytljnadoodbninaa

/- Contracts for the laws on points: Valid of an interval as it is answered; what two have in common, their hull, by the places of their ends. -/
namespace Go.Proofs.Ytljnadoodbninaa
open Go.RowKit
set_option maxRecDepth 20000 in
set_option maxHeartbeats 2000000 in
theorem rvalid_iv (p q : Int) (hI : Vg.Iv p q) (w : World) : Calls Try.prog 37 #[.agg #[.int .u64 (Vg.atn true p : Nat), .int .u64 (Vg.atn true q : Nat)]] w fun e w' => e = .returned (.bool true) ∧ Below w.heap.size w w' := by
  have hpi := Vg.PI_pos
  have hp := hI.lo
  have hq := hI.hi
  obtain ⟨n, hn⟩ : ∃ n, decide (q < p) = n := ⟨_, rfl⟩
  have HN : n = true ↔ q < p := by rw [← hn, decide_eq_true_eq]
  have S1 : n = false → Vg.snd (Vg.atn true p) (Vg.atn true q) = true := by
    intro h
    have h2 : p ≤ q := by have := mt HN.2 (by rw [h]; decide); omega
    rw [Vg.snd_iff, Vg.nn_atn hp, Vg.nn_atn hq, Vg.pl_atn hp, Vg.pl_atn hq]
    unfold Vg.Iv at hI
    exact ⟨rfl, rfl, h2, by omega, by omega⟩
  have E1 := relKinds.eqU (a := Vg.atn true p) (b := Vg.atn true q) (c := Vg.atn true Vg.PI) (d := Vg.atn true (-Vg.PI)) n (by
    rw [HN]
    constructor
    · intro hh; obtain ⟨rfl, rfl⟩ := hI.empty hh; exact ⟨rfl, rfl⟩
    · rintro ⟨h1, h2⟩
      have h1 := Vg.atn_inj hp Vg.pl_top h1
      have h2 := Vg.atn_inj hq Vg.pl_bot h2
      omega)
  have R1 := fun w => rempty_any w
  have S2 := fun w => rsound_any (Vg.atn true p) (Vg.atn true q) (Vg.atn_le hp) (Vg.atn_le hq) w
  have t1 := atn_top_ne hp
  have t2 := atn_top_ne hq
  clear HN hn
  obtain ⟨X0, hX⟩ : ∃ n, Vg.atn true p = n := ⟨_, rfl⟩
  obtain ⟨Y0, hY⟩ : ∃ n, Vg.atn true q = n := ⟨_, rfl⟩
  obtain ⟨T0, hT⟩ : ∃ n, Vg.atn true Vg.PI = n := ⟨_, rfl⟩
  obtain ⟨T1, hU⟩ : ∃ n, Vg.atn true (-Vg.PI) = n := ⟨_, rfl⟩
  rw [hX, hY] at S1 S2
  rw [hX] at E1 t1 ⊢
  rw [hY] at E1 t2 ⊢
  rw [hT, hU] at E1 R1
  have HS := hide S1
  clear hX hY hT hU hp hq hpi hI S1
  go_enter Try.func37, Try.ntmps37
  go_upto_region 1 with fail
  have m00 : (w.alloc (.cells #[.int .u64 (X0 : Int), .int .u64 (Y0 : Int)] 24)).cell? ⟨w.heap.size, 0, none⟩ = some (.int .u64 (X0 : Int)) := by simp [go_sem]
  have m01 : (w.alloc (.cells #[.int .u64 (X0 : Int), .int .u64 (Y0 : Int)] 24)).cell? ⟨w.heap.size, 1, none⟩ = some (.int .u64 (Y0 : Int)) := by simp [go_sem]
  have z : w.heap.size + 0 < (w.alloc (.cells #[.int .u64 (X0 : Int), .int .u64 (Y0 : Int)] 24)).heap.size := by simp
  have g : Below w.heap.size w (w.alloc (.cells #[.int .u64 (X0 : Int), .int .u64 (Y0 : Int)] 24)) := b_one
  generalize hW : (w.alloc (.cells #[.int .u64 (X0 : Int), .int .u64 (Y0 : Int)] 24)) = W0 at *
  clear hW
  go_cut [5] (fun v wx => v = .bool n ∧ wx.cell? ⟨w.heap.size, 0, none⟩ = some (.int .u64 X0) ∧ wx.cell? ⟨w.heap.size, 1, none⟩ = some (.int .u64 Y0) ∧ w.heap.size + 0 < wx.heap.size ∧ Below w.heap.size w wx)
  case first =>
    go_region_held3 (fun wx => wx.cell? ⟨w.heap.size, 0, none⟩ = some (.int .u64 X0) ∧ wx.cell? ⟨w.heap.size, 1, none⟩ = some (.int .u64 Y0) ∧ w.heap.size + 0 < wx.heap.size ∧ Below w.heap.size w wx)
      (((try dsimp only); (repeat' apply And.intro) <;> first | assumption | (simp [*]; done) | exact Below.drew (by assumption) | exact keep_cell hb1 (by first | (dsimp only; omega) | (simp; omega)) (by simp [*]) | (have := hb1.size; omega) | (have := hb1.size; simp at this; omega) | exact bch (by simp [*]) hb1 | exact bch (Below.drew (by simp [*])) hb1))
      (first | (go_at_call 32; refine (R1 _).mono ?_; rintro e w' ⟨rfl, hb1⟩) | fail)
    all_goals
      go_wp2_with fail
      go_meet
      refine ⟨rfl, ?_⟩
      first | assumption | (go_split_ands; (repeat' apply And.intro) <;> first | assumption | omega | (simp [*]; done))
  case rest =>
  clear m00 m01 z g E1 R1
  obtain ⟨rfl, m00, m01, z, g⟩ := hcut
  cases n
  · have S1 := HS.out rfl
    rw [S1] at S2
    clear S1 HS
    go_wp2_with fail
    refine (S2 _).mono ?_; rintro e w9 ⟨rfl, hb9⟩
    have M0 : w9.cell? ⟨w.heap.size, 0, none⟩ = some (.int .u64 (X0 : Int)) := keep_cell hb9 (by first | (dsimp only; omega) | (simp; omega)) (by assumption)
    have M1 : w9.cell? ⟨w.heap.size, 1, none⟩ = some (.int .u64 (Y0 : Int)) := keep_cell hb9 (by first | (dsimp only; omega) | (simp; omega)) (by assumption)
    have G9 : Below w.heap.size w w9 := bch (by assumption) hb9
    clear hb9
    go_wp2_with fail
    go_ret
    exact ⟨rfl, G9⟩
  · go_wp2_with fail
    go_ret
    exact ⟨rfl, g⟩
theorem meetP {a b c d : Nat} {p q r s x y : Int} (hx : Vg.Rd a b p q) (hy : Vg.Rd c d r s) (hm : Meet p q r s x y) (w : World) : Calls Try.prog 23 #[.agg #[.float .f64 a, .float .f64 b], .agg #[.float .f64 c, .float .f64 d]] w fun e w' => e = .returned (.agg #[.float .f64 (Vg.atn true x), .float .f64 (Vg.atn true y)]) ∧ Below w.heap.size w w' :=
  (meet_any a b c d p q r s hx hy w).mono fun _ _ ⟨x', y', h1, h2, h3⟩ => by
    obtain ⟨rfl, rfl⟩ : x' = x ∧ y' = y := by unfold Meet at hm h2; omega
    exact ⟨h1, h3⟩
theorem joinP {a b c d : Nat} {p q r s x y : Int} (hx : Vg.Rd a b p q) (hy : Vg.Rd c d r s) (hm : Join p q r s x y) (w : World) : Calls Try.prog 20 #[.agg #[.float .f64 a, .float .f64 b], .agg #[.float .f64 c, .float .f64 d]] w fun e w' => e = .returned (.agg #[.float .f64 (Vg.atn true x), .float .f64 (Vg.atn true y)]) ∧ Below w.heap.size w w' :=
  (hull_any a b c d p q r s hx hy w).mono fun _ _ ⟨x', y', h1, h2, h3⟩ => by
    obtain ⟨rfl, rfl⟩ : x' = x ∧ y' = y := by unfold Join at hm h2; omega
    exact ⟨h1, h3⟩
theorem meetP_ex (p q r s : Int) : ∃ x y, Meet p q r s x y := by
  by_cases h : min q s < max p r
  · exact ⟨_, _, .inl ⟨h, rfl, rfl⟩⟩
  · exact ⟨_, _, .inr ⟨by omega, rfl, rfl⟩⟩
/-- A ratio that came in, as it is. -/
theorem Rt.self {w : World} {s : Bool} {A1 A2 : Option Addr} {n1 c1 n2 c2 : Nat} {xs ys : List Nat} (h1 : Rw w (.slice A1 n1 c1) xs) (h2 : Rw w (.slice A2 n2 c2) ys) (h : 0 < Vg.nat32 ys) {B : Nat} (l1 : xs.length ≤ B) (l2 : ys.length ≤ B) :
    Rt w (.agg #[.bool s, .slice A1 n1 c1, .slice A2 n2 c2]) (Vg.zi s (Vg.nat32 xs)) (Vg.nat32 ys) B := ⟨s, A1, n1, c1, A2, n2, c2, xs, ys, rfl, h1, h2, rfl, h, l1, l2⟩
end Go.Proofs.Ytljnadoodbninaa

/- Every Hull is what the document's sets say. The walk. -/
namespace Go.Proofs.Ytljnadoodbninaa.relHulls
open Go.RowKit

set_option maxRecDepth 20000 in
set_option maxHeartbeats 8000000 in
theorem walk (a00 a01 a10 a11 : Int) (w00 : (Lit.int .u64 a00).wf = true) (w01 : (Lit.int .u64 a01).wf = true) (w10 : (Lit.int .u64 a10).wf = true) (w11 : (Lit.int .u64 a11).wf = true) (w : World) :
    Calls Try.prog 3 #[.agg #[.int .u64 a00, .int .u64 a01], .agg #[.int .u64 a10, .int .u64 a11]] w fun e w' => e = .returned (.bool true) ∧ Below w.heap.size w w' := by
  have b00 := u64_bd w00
  obtain ⟨X0, rfl⟩ := Int.eq_ofNat_of_zero_le b00.1
  have b01 := u64_bd w01
  obtain ⟨Y0, rfl⟩ := Int.eq_ofNat_of_zero_le b01.1
  have b10 := u64_bd w10
  obtain ⟨X1, rfl⟩ := Int.eq_ofNat_of_zero_le b10.1
  have b11 := u64_bd w11
  obtain ⟨Y1, rfl⟩ := Int.eq_ofNat_of_zero_le b11.1
  clear w00 w01 w10 w11
  obtain ⟨p, q, h0⟩ := Vg.Rd.ex X0 Y0 (by omega) (by omega)
  have H0 := hide h0
  obtain ⟨r, s, h1⟩ := Vg.Rd.ex X1 Y1 (by omega) (by omega)
  have H1 := hide h1
  have I := hide (show Vg.Iv p q ∧ Vg.Iv r s from ⟨h0.iv, h1.iv⟩)
  have N0 := fun w => in_any (X0 : Int) (Y0 : Int) w
  rw [Int.toNat_natCast, Int.toNat_natCast] at N0
  have N1 := fun w => in_any (X1 : Int) (Y1 : Int) w
  rw [Int.toNat_natCast, Int.toNat_natCast] at N1
  clear h0 h1 b00 b01 b10 b11
  have hst := sto
  obtain ⟨x, y, hm⟩ : ∃ x y, Join p q r s x y := ⟨_, _, rfl, rfl⟩
  have E1 := relKinds.eqU (a := Vg.atn true x) (b := Vg.atn true y) (c := Vg.atn true x) (d := Vg.atn true y) true (by simp)
  have hm1 : Try.prog.eqGuardType Try.prog.depth 24 = false := by kernel_rfl
  have C1 := fun w => joinP H0.out H1.out hm w
  have C2 := fun w => rhull_any X0 Y0 X1 Y1 p q r s x y H0.out H1.out hm w
  have O := fun w => out_any (Vg.atn true x) (Vg.atn true y) w
  clear hm
  obtain ⟨XX, hXX⟩ : ∃ n, Vg.atn true x = n := ⟨_, rfl⟩
  obtain ⟨YY, hYY⟩ : ∃ n, Vg.atn true y = n := ⟨_, rfl⟩
  rw [hXX, hYY] at E1 C1 C2 O
  clear hXX hYY
  go_enter Try.func3, Try.ntmps3
  go_upto_region 1 with fail
  have m00 : ((w.alloc (.cells #[.int .u64 (X0 : Int), .int .u64 (Y0 : Int)] 24)).alloc (.cells #[.int .u64 (X1 : Int), .int .u64 (Y1 : Int)] 24)).cell? ⟨w.heap.size, 0, none⟩ = some (.int .u64 (X0 : Int)) := by simp [go_sem]
  have m01 : ((w.alloc (.cells #[.int .u64 (X0 : Int), .int .u64 (Y0 : Int)] 24)).alloc (.cells #[.int .u64 (X1 : Int), .int .u64 (Y1 : Int)] 24)).cell? ⟨w.heap.size, 1, none⟩ = some (.int .u64 (Y0 : Int)) := by simp [go_sem]
  have m10 : ((w.alloc (.cells #[.int .u64 (X0 : Int), .int .u64 (Y0 : Int)] 24)).alloc (.cells #[.int .u64 (X1 : Int), .int .u64 (Y1 : Int)] 24)).cell? ⟨w.heap.size + 1, 0, none⟩ = some (.int .u64 (X1 : Int)) := by simp [go_sem]
  have m11 : ((w.alloc (.cells #[.int .u64 (X0 : Int), .int .u64 (Y0 : Int)] 24)).alloc (.cells #[.int .u64 (X1 : Int), .int .u64 (Y1 : Int)] 24)).cell? ⟨w.heap.size + 1, 1, none⟩ = some (.int .u64 (Y1 : Int)) := by simp [go_sem]
  have z : w.heap.size + 1 < ((w.alloc (.cells #[.int .u64 (X0 : Int), .int .u64 (Y0 : Int)] 24)).alloc (.cells #[.int .u64 (X1 : Int), .int .u64 (Y1 : Int)] 24)).heap.size := by simp
  have g : Below w.heap.size w ((w.alloc (.cells #[.int .u64 (X0 : Int), .int .u64 (Y0 : Int)] 24)).alloc (.cells #[.int .u64 (X1 : Int), .int .u64 (Y1 : Int)] 24)) := b_two
  generalize hW : ((w.alloc (.cells #[.int .u64 (X0 : Int), .int .u64 (Y0 : Int)] 24)).alloc (.cells #[.int .u64 (X1 : Int), .int .u64 (Y1 : Int)] 24)) = W0 at *
  clear hW
  go_region_held3 (fun wx => wx.cell? ⟨w.heap.size, 0, none⟩ = some (.int .u64 X0) ∧ wx.cell? ⟨w.heap.size, 1, none⟩ = some (.int .u64 Y0) ∧ wx.cell? ⟨w.heap.size + 1, 0, none⟩ = some (.int .u64 X1) ∧ wx.cell? ⟨w.heap.size + 1, 1, none⟩ = some (.int .u64 Y1) ∧ w.heap.size + 1 < wx.heap.size ∧ Below w.heap.size w wx)
      (((try dsimp only); (repeat' apply And.intro) <;> first | assumption | (simp [*]; done) | exact Below.drew (by assumption) | exact keep_cell hb1 (by first | (dsimp only; omega) | (simp; omega)) (by simp [*]) | (have := hb1.size; omega) | (have := hb1.size; simp at this; omega) | exact bch (by simp [*]) hb1 | exact bch (Below.drew (by simp [*])) hb1))
      (first | (go_at_call 21; first | ((with_reducible refine (N0 _).mono ?_); rintro e w' ⟨rfl, hb1⟩) | ((with_reducible refine (N1 _).mono ?_); rintro e w' ⟨rfl, hb1⟩)) | (go_at_call 20; (with_reducible refine (C1 _).mono ?_); rintro e w' ⟨rfl, hb1⟩) | (go_at_call 22; (with_reducible refine (C2 _).mono ?_); rintro e w' ⟨rfl, hb1⟩) | (go_at_call 19; (with_reducible refine (O _).mono ?_); rintro e w' ⟨rfl, hb1⟩))
  go_wp2
  go_ret
  exact ⟨rfl, by simp [*]⟩

end Go.Proofs.Ytljnadoodbninaa.relHulls

/- Hull of the program is what the document says of the least interval that holds two: of every two intervals, of whatever patterns their ends are. -/
namespace Go.Proofs.Ytljnadoodbninaa.relHulls
open Go.ChangeShapes Go.WideShapes Go.ChangeAt Go.RowKit Go.Joins
set_option linter.unusedVariables false
theorem cells24 : Try.prog.cellsOf 24 = 2 := by kernel_rfl

set_option maxRecDepth 100000 in
theorem lifted (os : Os) (started : os.Started) (H : Type) (enc : TypeId × Value → H) :
    ReturnsInHanded {} Try.checked os 3 .any (Rows.relHullsSpec.pre6 enc Try.prog Try.f3 Rows.relHullsRow.domain false) (Rows.relHullsSpec.post enc Try.prog Try.f3 false true false false) := by
  refine returnsInHanded_of_change (C := Try.checked) own started (by kernel_rfl) Try.func3
    (ChangeSpec.witness6 (enc := enc) (C := Try.checked) false ⟨#[], #[.agg #[.int .u64 0, .int .u64 0], .agg #[.int .u64 0, .int .u64 0]], []⟩ 8 (by kernel_rfl) (by kernel_rfl) (by kernel_rfl) (by kernel_rfl)) ?_
  intro W base args ds gs before hval0 hW hcnd _
  have hval : ∀ (j : Nat) t v, Try.f3.params[j]? = some t → args[j]? = some v → Value.okWide Try.prog W .any base t v := hval0
  have hW' := hW
  obtain ⟨p, q, hA0, hV, rfl, hfz, hnd⟩ := hW
  have hA : DataW.TrodAll enc Try.prog W 0 (fun _ => true) true Try.f3.params.toList args.toList ds p := hA0
  rw [Try.params3] at hA hval
  obtain ⟨v0, vs0, d0, ds0, p0, q0, hargs, rfl, rfl, h0, r0⟩ := trodAll_cons hA
  obtain ⟨v1, vs1, d1, ds1, p1, q1, rfl, rfl, rfl, h1, r1⟩ := trodAll_cons r0
  obtain ⟨rfl, rfl, rfl⟩ := trodAll_nil r1
  obtain rfl : args = #[v0, v1] := by cases args; simp_all
  obtain ⟨rfl, rfl⟩ := trodVars_none hV
  obtain ⟨c00, c01, y00, y01, m0, rfl, rfl, rfl, hy00, hy01⟩ := open_agg2 Try.underlying24 (by kernel_rfl) cells24 (hval 0 24 v0 rfl rfl) h0
  obtain ⟨a00, e00, rfl, w00⟩ := DataW.trod_int Try.underlying22 hy00
  obtain ⟨a01, e01, rfl, w01⟩ := DataW.trod_int Try.underlying22 hy01
  simp at e00 e01
  subst e00 e01
  obtain ⟨c10, c11, y10, y11, m1, rfl, rfl, rfl, hy10, hy11⟩ := open_agg2 Try.underlying24 (by kernel_rfl) cells24 (hval 1 24 v1 rfl rfl) h1
  obtain ⟨a10, e10, rfl, w10⟩ := DataW.trod_int Try.underlying22 hy10
  obtain ⟨a11, e11, rfl, w11⟩ := DataW.trod_int Try.underlying22 hy11
  simp at e10 e11
  subst e10 e11
  clear hA0 hval0
  simp only [List.append_nil] at hW'
  refine (walk a00 a01 a10 a11 w00 w01 w10 w11 W).mono fun e W' ⟨he, hg⟩ => ?_
  subst he
  exact ⟨_, rfl, post_of_below (pa := []) (pv := []) hW' (fun _ _ _ => (trodAll_cons_mk (shut_bool Try.underlying4 _) trodAll_mk0)) (fun sp _ => (trodAll_cons_mk (shut_agg2 (y0 := (.lit (.int .u64 a00), [])) (y1 := (.lit (.int .u64 a01), [])) Try.underlying24 (by kernel_rfl) cells24 ⟨1, by simp [DataW.trod, Try.underlying22, w00]⟩ ⟨1, by simp [DataW.trod, Try.underlying22, w01]⟩) (trodAll_cons_mk (shut_agg2 (y0 := (.lit (.int .u64 a10), [])) (y1 := (.lit (.int .u64 a11), [])) Try.underlying24 (by kernel_rfl) cells24 ⟨1, by simp [DataW.trod, Try.underlying22, w10]⟩ ⟨1, by simp [DataW.trod, Try.underlying22, w11]⟩) trodAll_mk0))) (fun _ _ => rfl) rfl hg
    (ok_one (by kernel_rfl) rfl (okWide_bool_mk Try.underlying4 _))⟩

theorem proved : Rows.RelHullsSaid :=
  OpenClaim.holds_of_wide 3 Try.f3 rfl rfl rfl rfl rfl rfl rfl ⟨rfl, rfl, rfl, rfl, rfl⟩ rfl rfl rfl rfl rfl (by kernel_rfl) Try.func3 (by kernel_rfl)
    (of_decide_eq_true (by kernel_rfl)) (by unfold Func.isWrapper; first | (rw [if_pos (by decide +kernel)]; kernel_rfl) | (rw [if_neg (by decide +kernel)]; exact ⟨rfl, rfl⟩))
    (fun os started H enc _ => lifted os started H enc)
end Go.Proofs.Ytljnadoodbninaa.relHulls

/- Contracts of the reference's lesser and greater of two ends. -/
import Derived.Test.YtljnadoodbninaaMEnd
import Derived.Test.YtljnadoodbninaaWSet
import Derived.Handy
namespace Go.Proofs.Ytljnadoodbninaa
open Go.RowKit

set_option maxRecDepth 20000 in
set_option maxHeartbeats 4000000 in
theorem lesser_any (a b : Value) (p r : Int) (hp : Vg.Pl p) (hr : Vg.Pl r) (w : World) (ha : En w a (Vg.ei p) (Vg.eZ p) Vg.LP 64) (hb : En w b (Vg.ei r) (Vg.eZ r) Vg.LP 64) : Calls Try.prog 98 #[a, b] w (TEn (Vg.ei (min p r)) (Vg.eZ (min p r)) Vg.LP 64 w) := by
  have CM := fun (w' : World) (h : Below w.heap.size w w') => ecmp_any b a _ _ _ _ _ _ _ _ w' (hb.keep h) (ha.keep h) (by decide) Vg.LP_pos Vg.LP_pos
  obtain ⟨z, hz⟩ : ∃ z, Vg.ecmp (Vg.ei r) (Vg.eZ r) Vg.LP (Vg.ei p) (Vg.eZ p) Vg.LP = z := ⟨_, rfl⟩
  rw [hz] at CM
  rw [Vg.ecmp_place hr hp] at hz
  have HA := hide ha
  have HB := hide hb
  obtain ⟨s, A1, n1, c1, A2, n2, c2, rfl, -⟩ := ha
  obtain ⟨t, A3, n3, c3, A4, n4, c4, rfl, -⟩ := hb
  obtain ⟨i, hi⟩ : ∃ i, Vg.ei p = i := ⟨_, rfl⟩
  obtain ⟨j, hj⟩ : ∃ i, Vg.ei r = i := ⟨_, rfl⟩
  rw [hi] at CM HA ⊢
  rw [hj] at CM HB ⊢
  by_cases hc : r < p
  · have e : min p r = r := by omega
    have tz : decide (z < 0) = true := decide_eq_true (by rw [← hz]; split <;> first | omega | (split <;> omega))
    rw [e, hj]
    clear hz hc e hi hj hp hr
    go_enter Try.func98, Try.ntmps98
    go_wp2_with fail
    refine (CM _ (b_two.alloc (by simp; omega) _)).mono ?_; rintro e w1 ⟨rfl, h⟩
    have x0 : w1.cell? ⟨w.heap.size, 0, none⟩ = some (.int .i64 i) := keep_cell h (by first | (simp; done) | (simp; omega)) (by first | (simp [go_sem]; done) | rfl)
    have x1 : w1.cell? ⟨w.heap.size, 1, none⟩ = some (.bool s) := keep_cell h (by first | (simp; done) | (simp; omega)) (by first | (simp [go_sem]; done) | rfl)
    have x2 : w1.cell? ⟨w.heap.size, 2, none⟩ = some (.slice A1 n1 c1) := keep_cell h (by first | (simp; done) | (simp; omega)) (by first | (simp [go_sem]; done) | rfl)
    have x3 : w1.cell? ⟨w.heap.size, 3, none⟩ = some (.slice A2 n2 c2) := keep_cell h (by first | (simp; done) | (simp; omega)) (by first | (simp [go_sem]; done) | rfl)
    have y0 : w1.cell? ⟨w.heap.size + 1, 0, none⟩ = some (.int .i64 j) := keep_cell h (by first | (simp; done) | (simp; omega)) (by first | (simp [go_sem]; done) | rfl)
    have y1 : w1.cell? ⟨w.heap.size + 1, 1, none⟩ = some (.bool t) := keep_cell h (by first | (simp; done) | (simp; omega)) (by first | (simp [go_sem]; done) | rfl)
    have y2 : w1.cell? ⟨w.heap.size + 1, 2, none⟩ = some (.slice A3 n3 c3) := keep_cell h (by first | (simp; done) | (simp; omega)) (by first | (simp [go_sem]; done) | rfl)
    have y3 : w1.cell? ⟨w.heap.size + 1, 3, none⟩ = some (.slice A4 n4 c4) := keep_cell h (by first | (simp; done) | (simp; omega)) (by first | (simp [go_sem]; done) | rfl)
    have k0 : w1.cell? ⟨w.heap.size + 1 + 1, 0, none⟩ = some (.int .i64 0) := keep_cell h (by first | (simp; done) | (simp; omega)) (by first | (simp [go_sem]; done) | rfl)
    have k1 : w1.cell? ⟨w.heap.size + 1 + 1, 1, none⟩ = some (.bool false) := keep_cell h (by first | (simp; done) | (simp; omega)) (by first | (simp [go_sem]; done) | rfl)
    have k2 : w1.cell? ⟨w.heap.size + 1 + 1, 2, none⟩ = some (.slice none 0 0) := keep_cell h (by first | (simp; done) | (simp; omega)) (by first | (simp [go_sem]; done) | rfl)
    have k3 : w1.cell? ⟨w.heap.size + 1 + 1, 3, none⟩ = some (.slice none 0 0) := keep_cell h (by first | (simp; done) | (simp; omega)) (by first | (simp [go_sem]; done) | rfl)
    have f0 : w1.frozen? ⟨w.heap.size + 1 + 1, 0, none⟩ = false := keep_free h (by first | (simp; done) | (simp; omega)) (by first | rfl | (simp; done) | (simp [go_sem]; done))
    have f1 : w1.frozen? ⟨w.heap.size + 1 + 1, 1, none⟩ = false := keep_free h (by first | (simp; done) | (simp; omega)) (by first | rfl | (simp; done) | (simp [go_sem]; done))
    have f2 : w1.frozen? ⟨w.heap.size + 1 + 1, 2, none⟩ = false := keep_free h (by first | (simp; done) | (simp; omega)) (by first | rfl | (simp; done) | (simp [go_sem]; done))
    have f3 : w1.frozen? ⟨w.heap.size + 1 + 1, 3, none⟩ = false := keep_free h (by first | (simp; done) | (simp; omega)) (by first | rfl | (simp; done) | (simp [go_sem]; done))
    have g : Below w.heap.size w w1 := (b_two.alloc (by simp; omega) _).trans (h.mono (by simp <;> omega))
    have HV := hide (HB.out.keep g)
    clear h CM
    go_wp2
    exact bodyPost_ret (v := .agg #[.int .i64 j, .bool t, .slice A3 n3 c3, .slice A4 n4 c4]) (by simp [results, Try.results98, go_sem, *]) rfl ⟨_, rfl, (((HV.out.other k0 (by simp) _).other (u := .bool false) (by simp [go_sem, *]) (by simp) _).other (u := .slice none 0 0) (by simp [go_sem, *]) (by simp) _).other (u := .slice none 0 0) (by simp [go_sem, *]) (by simp) _, (((g.setCell (by dsimp only <;> omega) _).setCell (by dsimp only <;> omega) _).setCell (by dsimp only <;> omega) _).setCell (by dsimp only <;> omega) _⟩
  · have e : min p r = p := by omega
    have tz : decide (z < 0) = false := decide_eq_false (by rw [← hz]; split <;> first | omega | (split <;> omega))
    rw [e, hi]
    clear hz hc e hi hj hp hr
    go_enter Try.func98, Try.ntmps98
    go_wp2_with fail
    refine (CM _ (b_two.alloc (by simp; omega) _)).mono ?_; rintro e w1 ⟨rfl, h⟩
    have x0 : w1.cell? ⟨w.heap.size, 0, none⟩ = some (.int .i64 i) := keep_cell h (by first | (simp; done) | (simp; omega)) (by first | (simp [go_sem]; done) | rfl)
    have x1 : w1.cell? ⟨w.heap.size, 1, none⟩ = some (.bool s) := keep_cell h (by first | (simp; done) | (simp; omega)) (by first | (simp [go_sem]; done) | rfl)
    have x2 : w1.cell? ⟨w.heap.size, 2, none⟩ = some (.slice A1 n1 c1) := keep_cell h (by first | (simp; done) | (simp; omega)) (by first | (simp [go_sem]; done) | rfl)
    have x3 : w1.cell? ⟨w.heap.size, 3, none⟩ = some (.slice A2 n2 c2) := keep_cell h (by first | (simp; done) | (simp; omega)) (by first | (simp [go_sem]; done) | rfl)
    have y0 : w1.cell? ⟨w.heap.size + 1, 0, none⟩ = some (.int .i64 j) := keep_cell h (by first | (simp; done) | (simp; omega)) (by first | (simp [go_sem]; done) | rfl)
    have y1 : w1.cell? ⟨w.heap.size + 1, 1, none⟩ = some (.bool t) := keep_cell h (by first | (simp; done) | (simp; omega)) (by first | (simp [go_sem]; done) | rfl)
    have y2 : w1.cell? ⟨w.heap.size + 1, 2, none⟩ = some (.slice A3 n3 c3) := keep_cell h (by first | (simp; done) | (simp; omega)) (by first | (simp [go_sem]; done) | rfl)
    have y3 : w1.cell? ⟨w.heap.size + 1, 3, none⟩ = some (.slice A4 n4 c4) := keep_cell h (by first | (simp; done) | (simp; omega)) (by first | (simp [go_sem]; done) | rfl)
    have k0 : w1.cell? ⟨w.heap.size + 1 + 1, 0, none⟩ = some (.int .i64 0) := keep_cell h (by first | (simp; done) | (simp; omega)) (by first | (simp [go_sem]; done) | rfl)
    have k1 : w1.cell? ⟨w.heap.size + 1 + 1, 1, none⟩ = some (.bool false) := keep_cell h (by first | (simp; done) | (simp; omega)) (by first | (simp [go_sem]; done) | rfl)
    have k2 : w1.cell? ⟨w.heap.size + 1 + 1, 2, none⟩ = some (.slice none 0 0) := keep_cell h (by first | (simp; done) | (simp; omega)) (by first | (simp [go_sem]; done) | rfl)
    have k3 : w1.cell? ⟨w.heap.size + 1 + 1, 3, none⟩ = some (.slice none 0 0) := keep_cell h (by first | (simp; done) | (simp; omega)) (by first | (simp [go_sem]; done) | rfl)
    have f0 : w1.frozen? ⟨w.heap.size + 1 + 1, 0, none⟩ = false := keep_free h (by first | (simp; done) | (simp; omega)) (by first | rfl | (simp; done) | (simp [go_sem]; done))
    have f1 : w1.frozen? ⟨w.heap.size + 1 + 1, 1, none⟩ = false := keep_free h (by first | (simp; done) | (simp; omega)) (by first | rfl | (simp; done) | (simp [go_sem]; done))
    have f2 : w1.frozen? ⟨w.heap.size + 1 + 1, 2, none⟩ = false := keep_free h (by first | (simp; done) | (simp; omega)) (by first | rfl | (simp; done) | (simp [go_sem]; done))
    have f3 : w1.frozen? ⟨w.heap.size + 1 + 1, 3, none⟩ = false := keep_free h (by first | (simp; done) | (simp; omega)) (by first | rfl | (simp; done) | (simp [go_sem]; done))
    have g : Below w.heap.size w w1 := (b_two.alloc (by simp; omega) _).trans (h.mono (by simp <;> omega))
    have HV := hide (HA.out.keep g)
    clear h CM
    go_wp2
    exact bodyPost_ret (v := .agg #[.int .i64 i, .bool s, .slice A1 n1 c1, .slice A2 n2 c2]) (by simp [results, Try.results98, go_sem, *]) rfl ⟨_, rfl, (((HV.out.other k0 (by simp) _).other (u := .bool false) (by simp [go_sem, *]) (by simp) _).other (u := .slice none 0 0) (by simp [go_sem, *]) (by simp) _).other (u := .slice none 0 0) (by simp [go_sem, *]) (by simp) _, (((g.setCell (by dsimp only <;> omega) _).setCell (by dsimp only <;> omega) _).setCell (by dsimp only <;> omega) _).setCell (by dsimp only <;> omega) _⟩

set_option maxRecDepth 20000 in
set_option maxHeartbeats 4000000 in
theorem greater_any (a b : Value) (p r : Int) (hp : Vg.Pl p) (hr : Vg.Pl r) (w : World) (ha : En w a (Vg.ei p) (Vg.eZ p) Vg.LP 64) (hb : En w b (Vg.ei r) (Vg.eZ r) Vg.LP 64) : Calls Try.prog 99 #[a, b] w (TEn (Vg.ei (max p r)) (Vg.eZ (max p r)) Vg.LP 64 w) := by
  have CM := fun (w' : World) (h : Below w.heap.size w w') => ecmp_any b a _ _ _ _ _ _ _ _ w' (hb.keep h) (ha.keep h) (by decide) Vg.LP_pos Vg.LP_pos
  obtain ⟨z, hz⟩ : ∃ z, Vg.ecmp (Vg.ei r) (Vg.eZ r) Vg.LP (Vg.ei p) (Vg.eZ p) Vg.LP = z := ⟨_, rfl⟩
  rw [hz] at CM
  rw [Vg.ecmp_place hr hp] at hz
  have HA := hide ha
  have HB := hide hb
  obtain ⟨s, A1, n1, c1, A2, n2, c2, rfl, -⟩ := ha
  obtain ⟨t, A3, n3, c3, A4, n4, c4, rfl, -⟩ := hb
  obtain ⟨i, hi⟩ : ∃ i, Vg.ei p = i := ⟨_, rfl⟩
  obtain ⟨j, hj⟩ : ∃ i, Vg.ei r = i := ⟨_, rfl⟩
  rw [hi] at CM HA ⊢
  rw [hj] at CM HB ⊢
  by_cases hc : p < r
  · have e : max p r = r := by omega
    have tz : decide ((0 : Int) < z) = true := decide_eq_true (by rw [← hz]; split <;> first | omega | (split <;> omega))
    rw [e, hj]
    clear hz hc e hi hj hp hr
    go_enter Try.func99, Try.ntmps99
    go_wp2_with fail
    refine (CM _ (b_two.alloc (by simp; omega) _)).mono ?_; rintro e w1 ⟨rfl, h⟩
    have x0 : w1.cell? ⟨w.heap.size, 0, none⟩ = some (.int .i64 i) := keep_cell h (by first | (simp; done) | (simp; omega)) (by first | (simp [go_sem]; done) | rfl)
    have x1 : w1.cell? ⟨w.heap.size, 1, none⟩ = some (.bool s) := keep_cell h (by first | (simp; done) | (simp; omega)) (by first | (simp [go_sem]; done) | rfl)
    have x2 : w1.cell? ⟨w.heap.size, 2, none⟩ = some (.slice A1 n1 c1) := keep_cell h (by first | (simp; done) | (simp; omega)) (by first | (simp [go_sem]; done) | rfl)
    have x3 : w1.cell? ⟨w.heap.size, 3, none⟩ = some (.slice A2 n2 c2) := keep_cell h (by first | (simp; done) | (simp; omega)) (by first | (simp [go_sem]; done) | rfl)
    have y0 : w1.cell? ⟨w.heap.size + 1, 0, none⟩ = some (.int .i64 j) := keep_cell h (by first | (simp; done) | (simp; omega)) (by first | (simp [go_sem]; done) | rfl)
    have y1 : w1.cell? ⟨w.heap.size + 1, 1, none⟩ = some (.bool t) := keep_cell h (by first | (simp; done) | (simp; omega)) (by first | (simp [go_sem]; done) | rfl)
    have y2 : w1.cell? ⟨w.heap.size + 1, 2, none⟩ = some (.slice A3 n3 c3) := keep_cell h (by first | (simp; done) | (simp; omega)) (by first | (simp [go_sem]; done) | rfl)
    have y3 : w1.cell? ⟨w.heap.size + 1, 3, none⟩ = some (.slice A4 n4 c4) := keep_cell h (by first | (simp; done) | (simp; omega)) (by first | (simp [go_sem]; done) | rfl)
    have k0 : w1.cell? ⟨w.heap.size + 1 + 1, 0, none⟩ = some (.int .i64 0) := keep_cell h (by first | (simp; done) | (simp; omega)) (by first | (simp [go_sem]; done) | rfl)
    have k1 : w1.cell? ⟨w.heap.size + 1 + 1, 1, none⟩ = some (.bool false) := keep_cell h (by first | (simp; done) | (simp; omega)) (by first | (simp [go_sem]; done) | rfl)
    have k2 : w1.cell? ⟨w.heap.size + 1 + 1, 2, none⟩ = some (.slice none 0 0) := keep_cell h (by first | (simp; done) | (simp; omega)) (by first | (simp [go_sem]; done) | rfl)
    have k3 : w1.cell? ⟨w.heap.size + 1 + 1, 3, none⟩ = some (.slice none 0 0) := keep_cell h (by first | (simp; done) | (simp; omega)) (by first | (simp [go_sem]; done) | rfl)
    have f0 : w1.frozen? ⟨w.heap.size + 1 + 1, 0, none⟩ = false := keep_free h (by first | (simp; done) | (simp; omega)) (by first | rfl | (simp; done) | (simp [go_sem]; done))
    have f1 : w1.frozen? ⟨w.heap.size + 1 + 1, 1, none⟩ = false := keep_free h (by first | (simp; done) | (simp; omega)) (by first | rfl | (simp; done) | (simp [go_sem]; done))
    have f2 : w1.frozen? ⟨w.heap.size + 1 + 1, 2, none⟩ = false := keep_free h (by first | (simp; done) | (simp; omega)) (by first | rfl | (simp; done) | (simp [go_sem]; done))
    have f3 : w1.frozen? ⟨w.heap.size + 1 + 1, 3, none⟩ = false := keep_free h (by first | (simp; done) | (simp; omega)) (by first | rfl | (simp; done) | (simp [go_sem]; done))
    have g : Below w.heap.size w w1 := (b_two.alloc (by simp; omega) _).trans (h.mono (by simp <;> omega))
    have HV := hide (HB.out.keep g)
    clear h CM
    go_wp2
    exact bodyPost_ret (v := .agg #[.int .i64 j, .bool t, .slice A3 n3 c3, .slice A4 n4 c4]) (by simp [results, Try.results99, go_sem, *]) rfl ⟨_, rfl, (((HV.out.other k0 (by simp) _).other (u := .bool false) (by simp [go_sem, *]) (by simp) _).other (u := .slice none 0 0) (by simp [go_sem, *]) (by simp) _).other (u := .slice none 0 0) (by simp [go_sem, *]) (by simp) _, (((g.setCell (by dsimp only <;> omega) _).setCell (by dsimp only <;> omega) _).setCell (by dsimp only <;> omega) _).setCell (by dsimp only <;> omega) _⟩
  · have e : max p r = p := by omega
    have tz : decide ((0 : Int) < z) = false := decide_eq_false (by rw [← hz]; split <;> first | omega | (split <;> omega))
    rw [e, hi]
    clear hz hc e hi hj hp hr
    go_enter Try.func99, Try.ntmps99
    go_wp2_with fail
    refine (CM _ (b_two.alloc (by simp; omega) _)).mono ?_; rintro e w1 ⟨rfl, h⟩
    have x0 : w1.cell? ⟨w.heap.size, 0, none⟩ = some (.int .i64 i) := keep_cell h (by first | (simp; done) | (simp; omega)) (by first | (simp [go_sem]; done) | rfl)
    have x1 : w1.cell? ⟨w.heap.size, 1, none⟩ = some (.bool s) := keep_cell h (by first | (simp; done) | (simp; omega)) (by first | (simp [go_sem]; done) | rfl)
    have x2 : w1.cell? ⟨w.heap.size, 2, none⟩ = some (.slice A1 n1 c1) := keep_cell h (by first | (simp; done) | (simp; omega)) (by first | (simp [go_sem]; done) | rfl)
    have x3 : w1.cell? ⟨w.heap.size, 3, none⟩ = some (.slice A2 n2 c2) := keep_cell h (by first | (simp; done) | (simp; omega)) (by first | (simp [go_sem]; done) | rfl)
    have y0 : w1.cell? ⟨w.heap.size + 1, 0, none⟩ = some (.int .i64 j) := keep_cell h (by first | (simp; done) | (simp; omega)) (by first | (simp [go_sem]; done) | rfl)
    have y1 : w1.cell? ⟨w.heap.size + 1, 1, none⟩ = some (.bool t) := keep_cell h (by first | (simp; done) | (simp; omega)) (by first | (simp [go_sem]; done) | rfl)
    have y2 : w1.cell? ⟨w.heap.size + 1, 2, none⟩ = some (.slice A3 n3 c3) := keep_cell h (by first | (simp; done) | (simp; omega)) (by first | (simp [go_sem]; done) | rfl)
    have y3 : w1.cell? ⟨w.heap.size + 1, 3, none⟩ = some (.slice A4 n4 c4) := keep_cell h (by first | (simp; done) | (simp; omega)) (by first | (simp [go_sem]; done) | rfl)
    have k0 : w1.cell? ⟨w.heap.size + 1 + 1, 0, none⟩ = some (.int .i64 0) := keep_cell h (by first | (simp; done) | (simp; omega)) (by first | (simp [go_sem]; done) | rfl)
    have k1 : w1.cell? ⟨w.heap.size + 1 + 1, 1, none⟩ = some (.bool false) := keep_cell h (by first | (simp; done) | (simp; omega)) (by first | (simp [go_sem]; done) | rfl)
    have k2 : w1.cell? ⟨w.heap.size + 1 + 1, 2, none⟩ = some (.slice none 0 0) := keep_cell h (by first | (simp; done) | (simp; omega)) (by first | (simp [go_sem]; done) | rfl)
    have k3 : w1.cell? ⟨w.heap.size + 1 + 1, 3, none⟩ = some (.slice none 0 0) := keep_cell h (by first | (simp; done) | (simp; omega)) (by first | (simp [go_sem]; done) | rfl)
    have f0 : w1.frozen? ⟨w.heap.size + 1 + 1, 0, none⟩ = false := keep_free h (by first | (simp; done) | (simp; omega)) (by first | rfl | (simp; done) | (simp [go_sem]; done))
    have f1 : w1.frozen? ⟨w.heap.size + 1 + 1, 1, none⟩ = false := keep_free h (by first | (simp; done) | (simp; omega)) (by first | rfl | (simp; done) | (simp [go_sem]; done))
    have f2 : w1.frozen? ⟨w.heap.size + 1 + 1, 2, none⟩ = false := keep_free h (by first | (simp; done) | (simp; omega)) (by first | rfl | (simp; done) | (simp [go_sem]; done))
    have f3 : w1.frozen? ⟨w.heap.size + 1 + 1, 3, none⟩ = false := keep_free h (by first | (simp; done) | (simp; omega)) (by first | rfl | (simp; done) | (simp [go_sem]; done))
    have g : Below w.heap.size w w1 := (b_two.alloc (by simp; omega) _).trans (h.mono (by simp <;> omega))
    have HV := hide (HA.out.keep g)
    clear h CM
    go_wp2
    exact bodyPost_ret (v := .agg #[.int .i64 i, .bool s, .slice A1 n1 c1, .slice A2 n2 c2]) (by simp [results, Try.results99, go_sem, *]) rfl ⟨_, rfl, (((HV.out.other k0 (by simp) _).other (u := .bool false) (by simp [go_sem, *]) (by simp) _).other (u := .slice none 0 0) (by simp [go_sem, *]) (by simp) _).other (u := .slice none 0 0) (by simp [go_sem, *]) (by simp) _, (((g.setCell (by dsimp only <;> omega) _).setCell (by dsimp only <;> omega) _).setCell (by dsimp only <;> omega) _).setCell (by dsimp only <;> omega) _⟩
end Go.Proofs.Ytljnadoodbninaa

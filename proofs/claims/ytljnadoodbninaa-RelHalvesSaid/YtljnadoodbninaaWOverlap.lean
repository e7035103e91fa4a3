/- The contract of the program's Overlap. -/
import Derived.Test.YtljnadoodbninaaWRel
import Derived.BigQuiet
namespace Go.Proofs.Ytljnadoodbninaa
open Go.RowKit

/-- How two lie to one another, by the places of their ends. -/
def ov (p q r s : Int) : Int := if q < p ∧ s < r then 0 else if q < p then 1 else if s < r then 2 else if q < r then 3 else if s < p then 15 else if p < q ∧ q = r ∧ r < s then 4 else if r < s ∧ s = p ∧ p < q then 14 else
  if p < r ∧ q < s then 5 else if r < p ∧ s < q then 13 else if p < r ∧ q = s then 10 else if p < r then 11 else if r < p ∧ q = s then 8 else if r < p then 7 else if q < s then 6 else if s < q then 12 else 9
def TO (R : Int → Prop) (w : World) (e : Ending) (w' : World) : Prop := ∃ k, e = .returned (.int .i64 k) ∧ R k ∧ Below w.heap.size w w'
def IsOv (p q r s k : Int) : Prop := k = ov p q r s
theorem lt_pl {u v : Int} (hu : Vg.Pl u) (hv : Vg.Pl v) : (FloatKind.f64.format.order (Vg.atn true u) (Vg.atn true v) == some Ordering.lt) = decide (u < v) := by
  rcases Vg.tri hu hv with ⟨o, c⟩ | ⟨o, c⟩ | ⟨o, c⟩ <;> rw [o] <;> simp <;> omega
theorem eq_pl {u v : Int} (hu : Vg.Pl u) (hv : Vg.Pl v) : (FloatKind.f64.format.order (Vg.atn true u) (Vg.atn true v) == some Ordering.eq) = decide (u = v) := by
  rcases Vg.tri hu hv with ⟨o, c⟩ | ⟨o, c⟩ | ⟨o, c⟩ <;> rw [o] <;> simp <;> omega
/-- The ways in which two that are not empty lie to one another. -/
theorem ov_ways {p q r s : Int} (h1 : p ≤ q) (h2 : r ≤ s) :
    q < r ∧ ov p q r s = 3 ∨ r ≤ q ∧ (s < p ∧ ov p q r s = 15 ∨ p ≤ s ∧
      ((p < q ∧ q = r ∧ r < s) ∧ ov p q r s = 4 ∨ (r < s ∧ s = p ∧ p < q) ∧ ov p q r s = 14 ∨
       ¬ (p < q ∧ q = r ∧ r < s) ∧ ¬ (r < s ∧ s = p ∧ p < q) ∧
        ((p < r ∧ q < s) ∧ ov p q r s = 5 ∨ (p < r ∧ q = s) ∧ ov p q r s = 10 ∨ (p < r ∧ s < q) ∧ ov p q r s = 11 ∨ (r < p ∧ s < q) ∧ ov p q r s = 13 ∨ (r < p ∧ q = s) ∧ ov p q r s = 8 ∨ (r < p ∧ q < s) ∧ ov p q r s = 7 ∨
         (p = r ∧ q < s) ∧ ov p q r s = 6 ∨ (p = r ∧ s < q) ∧ ov p q r s = 12 ∨ (p = r ∧ q = s) ∧ ov p q r s = 9))) := by
  have e : ov p q r s = if q < r then 3 else if s < p then 15 else if p < q ∧ q = r ∧ r < s then 4 else if r < s ∧ s = p ∧ p < q then 14 else
    if p < r ∧ q < s then 5 else if r < p ∧ s < q then 13 else if p < r ∧ q = s then 10 else if p < r then 11 else if r < p ∧ q = s then 8 else if r < p then 7 else if q < s then 6 else if s < q then 12 else 9 := by
    unfold ov; rw [if_neg (by omega), if_neg (by omega), if_neg (by omega)]
  rw [e]
  clear e
  by_cases c1 : q < r
  · left; exact ⟨c1, if_pos c1⟩
  right; refine ⟨by omega, ?_⟩; rw [if_neg c1]
  by_cases c2 : s < p
  · left; exact ⟨c2, if_pos c2⟩
  right; refine ⟨by omega, ?_⟩; rw [if_neg c2]
  by_cases c3 : p < q ∧ q = r ∧ r < s
  · left; exact ⟨c3, if_pos c3⟩
  right
  rw [if_neg c3]
  by_cases c4 : r < s ∧ s = p ∧ p < q
  · left; exact ⟨c4, if_pos c4⟩
  right; refine ⟨c3, c4, ?_⟩; rw [if_neg c4]
  rcases Int.lt_trichotomy p r with d | d | d <;> rcases Int.lt_trichotomy q s with f | f | f
  all_goals
    repeat (first | rw [if_pos (by omega)] | rw [if_neg (by omega)])
    omega

set_option maxRecDepth 20000 in
set_option maxHeartbeats 4000000 in
theorem overlap_any (a b c d : Nat) (p q r s : Int) (hx : Vg.Rd a b p q) (hy : Vg.Rd c d r s) (w : World) :
    Calls Try.prog 56 #[.agg #[.float .f64 a, .float .f64 b], .agg #[.float .f64 c, .float .f64 d]] w (TO (IsOv p q r s) w) := by
  have hst := sto
  have HX := hide hx
  have HY := hide hy
  have P := hide (show (Vg.Pl p ∧ Vg.Pl q) ∧ Vg.Pl r ∧ Vg.Pl s from ⟨⟨hx.iv.lo, hx.iv.hi⟩, hy.iv.lo, hy.iv.hi⟩)
  clear hx hy
  go_enter Try.func56, Try.ntmps56
  go_wp2_with fail
  refine (both_any a b c d p q r s HX.out HY.out _).mono ?_; rintro e w1 ⟨k, rfl, hk, hb1⟩
  have k0 : w1.cell? ⟨w.heap.size, 0, none⟩ = some (.float .f64 a) := keep_cell hb1 (by first | (simp; done) | (simp; omega)) (by simp [go_sem])
  have k1 : w1.cell? ⟨w.heap.size, 1, none⟩ = some (.float .f64 b) := keep_cell hb1 (by first | (simp; done) | (simp; omega)) (by simp [go_sem])
  have k2 : w1.cell? ⟨w.heap.size + 1, 0, none⟩ = some (.float .f64 c) := keep_cell hb1 (by first | (simp; done) | (simp; omega)) (by simp [go_sem])
  have k3 : w1.cell? ⟨w.heap.size + 1, 1, none⟩ = some (.float .f64 d) := keep_cell hb1 (by first | (simp; done) | (simp; omega)) (by simp [go_sem])
  have f0 : w1.frozen? ⟨w.heap.size, 0, none⟩ = false := keep_free hb1 (by first | (simp; done) | (simp; omega)) (by simp [go_sem])
  have f1 : w1.frozen? ⟨w.heap.size, 1, none⟩ = false := keep_free hb1 (by first | (simp; done) | (simp; omega)) (by simp [go_sem])
  have f2 : w1.frozen? ⟨w.heap.size + 1, 0, none⟩ = false := keep_free hb1 (by first | (simp; done) | (simp; omega)) (by simp [go_sem])
  have f3 : w1.frozen? ⟨w.heap.size + 1, 1, none⟩ = false := keep_free hb1 (by first | (simp; done) | (simp; omega)) (by simp [go_sem])
  have g := b_two.trans (hb1.mono (by simp; omega))
  clear hb1
  rcases hk with ⟨rfl, c1, c2⟩ | ⟨rfl, c1, c2⟩ | ⟨rfl, c1, c2⟩ | ⟨rfl, c1, c2⟩
  · have l1 := lt_pl P.out.1.2 P.out.2.1
    have l2 := lt_pl P.out.2.2 P.out.1.1
    have l3 := lt_pl P.out.1.1 P.out.1.2
    have l4 := lt_pl P.out.2.1 P.out.2.2
    have l5 := lt_pl P.out.1.1 P.out.2.1
    have l6 := lt_pl P.out.1.2 P.out.2.2
    have l7 := lt_pl P.out.2.1 P.out.1.1
    have l8 := lt_pl P.out.2.2 P.out.1.2
    have e1 := eq_pl P.out.1.2 P.out.2.1
    have e2 := eq_pl P.out.2.2 P.out.1.1
    have e3 := eq_pl P.out.1.2 P.out.2.2
    have C := hide (show _ ∧ _ from ⟨c1, c2⟩)
    have WW := ov_ways c1 c2
    have hov : ∃ k, ov p q r s = k := ⟨_, rfl⟩
    obtain ⟨k, hk⟩ := hov
    rw [hk] at WW
    have HR : Hid (IsOv p q r s k) := hide hk.symm
    clear hk
    rcases WW with ⟨d1, rfl⟩ | ⟨d1, ⟨d2, rfl⟩ | ⟨d2, ⟨d3, rfl⟩ | ⟨d3, rfl⟩ | ⟨d3, d4, ⟨d5, rfl⟩ | ⟨d5, rfl⟩ | ⟨d5, rfl⟩ | ⟨d5, rfl⟩ | ⟨d5, rfl⟩ | ⟨d5, rfl⟩ | ⟨d5, rfl⟩ | ⟨d5, rfl⟩ | ⟨d5, rfl⟩⟩⟩⟩
    all_goals
      by_cases q1 : p < q <;> by_cases q2 : r < s <;> by_cases q3 : q = r <;> by_cases q4 : s = p
    all_goals try (exfalso; omega)
    all_goals
      first | rw [decide_eq_true (by omega)] at l1 | rw [decide_eq_false (by omega)] at l1 | clear l1
      first | rw [decide_eq_true (by omega)] at l2 | rw [decide_eq_false (by omega)] at l2 | clear l2
      first | rw [decide_eq_true (by omega)] at l3 | rw [decide_eq_false (by omega)] at l3 | clear l3
      first | rw [decide_eq_true (by omega)] at l4 | rw [decide_eq_false (by omega)] at l4 | clear l4
      first | rw [decide_eq_true (by omega)] at l5 | rw [decide_eq_false (by omega)] at l5 | clear l5
      first | rw [decide_eq_true (by omega)] at l6 | rw [decide_eq_false (by omega)] at l6 | clear l6
      first | rw [decide_eq_true (by omega)] at l7 | rw [decide_eq_false (by omega)] at l7 | clear l7
      first | rw [decide_eq_true (by omega)] at l8 | rw [decide_eq_false (by omega)] at l8 | clear l8
      first | rw [decide_eq_true (by omega)] at e1 | rw [decide_eq_false (by omega)] at e1 | clear e1
      first | rw [decide_eq_true (by omega)] at e2 | rw [decide_eq_false (by omega)] at e2 | clear e2
      first | rw [decide_eq_true (by omega)] at e3 | rw [decide_eq_false (by omega)] at e3 | clear e3
      clear c1 c2 C q1 q2 q3 q4
      try clear d1
      try clear d2
      try clear d3
      try clear d4
      try clear d5
      go_wp2
      go_quiet (fail)
      go_wp2
      go_ret
      exact ⟨_, rfl, HR.out, below_drewN ((((g.setCell (by simp) _).setCell (by simp) _).setCell (by simp) _).setCell (by simp) _) _⟩
  all_goals
    have HR : Hid (∃ k, IsOv p q r s k) := hide ⟨_, rfl⟩
    first
      | (have HR : Hid (IsOv p q r s 0) := hide (by unfold IsOv ov; rw [if_pos (by omega)]))
      | (have HR : Hid (IsOv p q r s 1) := hide (by unfold IsOv ov; rw [if_neg (by omega), if_pos (by omega)]))
      | (have HR : Hid (IsOv p q r s 2) := hide (by unfold IsOv ov; rw [if_neg (by omega), if_neg (by omega), if_pos (by omega)]))
    clear c1 c2
    go_wp2
    go_ret
    exact ⟨_, rfl, HR.out, (((g.setCell (by simp) _).setCell (by simp) _).setCell (by simp) _).setCell (by simp) _⟩

end Go.Proofs.Ytljnadoodbninaa

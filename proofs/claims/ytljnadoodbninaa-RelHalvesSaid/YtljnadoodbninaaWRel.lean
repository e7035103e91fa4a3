/- Contracts of the relations of two intervals. -/
import Derived.Test.YtljnadoodbninaaWBoth
namespace Go.Proofs.Ytljnadoodbninaa
open Go.RowKit

def TB (φ : Prop) (w : World) (e : Ending) (w' : World) : Prop := ∃ b, e = .returned (.bool b) ∧ (b = true ↔ φ) ∧ Below w.heap.size w w'
theorem yes {φ : Prop} (h : φ) : true = true ↔ φ := ⟨fun _ => h, fun _ => rfl⟩
theorem no {φ : Prop} (h : ¬ φ) : false = true ↔ φ := ⟨fun k => (by cases k), fun k => absurd k h⟩
theorem and01 : bits .and .i64 0 1 = 0 := by decide +kernel
theorem and11 : bits .and .i64 1 1 = 1 := by decide +kernel
theorem and21 : bits .and .i64 2 1 = 0 := by decide +kernel
theorem and31 : bits .and .i64 3 1 = 1 := by decide +kernel
/-- Is an end beaten? -/
def bl (u v : Int) : Prop := u < v ∨ u = v ∧ (u = Vg.PI ∨ u = -Vg.PI)
theorem below_any (u v : Int) (hu : Vg.Pl u) (hv : Vg.Pl v) (n : Bool) (hn : n = true ↔ bl u v) (w : World) : Calls Try.prog 82 #[.float .f64 (Vg.atn true u), .float .f64 (Vg.atn true v)] w fun e w' => e = .returned (.bool n) ∧ w = w' := by
  have hi : Vg.infb (Vg.atn true u) = decide (u = Vg.PI ∨ u = -Vg.PI) := Vg.infb_atn hu
  have hl := hide (Vg.atn_le hu)
  rcases Vg.tri hu hv with ⟨t, c⟩ | ⟨t, c⟩ | ⟨t, c⟩
  · obtain rfl : n = true := hn.2 (.inl c)
    clear hn hi c
    go_enter Try.func82, Try.ntmps82
    go_wp2
    go_ret
    exact ⟨rfl, rfl⟩
  · have e : decide (u = Vg.PI ∨ u = -Vg.PI) = n := by
      rw [Bool.eq_iff_iff, hn, decide_eq_true_iff]; unfold bl; constructor
      · intro h; exact .inr ⟨c, h⟩
      · rintro (h | h)
        · omega
        · exact h.2
    have HI := hide (hi.trans e)
    clear hn hi c e
    go_enter Try.func82, Try.ntmps82
    go_wp2_with (go_at_call 74; refine (isinf_any _ _ HI.out hl.out _).mono ?_; rintro e w' ⟨rfl, rfl⟩)
    go_ret
    exact ⟨rfl, rfl⟩
  · obtain rfl : n = false := by
      cases n
      · rfl
      · have := hn.1 rfl; unfold bl at this; omega
    clear hn hi c
    go_enter Try.func82, Try.ntmps82
    go_wp2
    go_ret
    exact ⟨rfl, rfl⟩

set_option maxRecDepth 20000 in
set_option maxHeartbeats 4000000 in
theorem subset_any (a b c d : Nat) (p q r s : Int) (hx : Vg.Rd a b p q) (hy : Vg.Rd c d r s) (w : World) :
    Calls Try.prog 40 #[.agg #[.float .f64 a, .float .f64 b], .agg #[.float .f64 c, .float .f64 d]] w (TB (q < p ∨ r ≤ p ∧ q ≤ s) w) := by
  have hst := sto
  have HX := hide hx
  have HY := hide hy
  have P := hide (show (Vg.Pl p ∧ Vg.Pl q) ∧ Vg.Pl r ∧ Vg.Pl s from ⟨⟨hx.iv.lo, hx.iv.hi⟩, hy.iv.lo, hy.iv.hi⟩)
  clear hx hy
  go_enter Try.func40, Try.ntmps40
  go_wp2_with fail
  refine (both_any a b c d p q r s HX.out HY.out _).mono ?_; rintro e w1 ⟨k, rfl, hk, hb1⟩
  have k0 : w1.cell? ⟨w.heap.size, 0, none⟩ = some (.float .f64 a) := keep_cell hb1 (by first | (simp; done) | (simp; omega)) (by simp [go_sem])
  have k1 : w1.cell? ⟨w.heap.size, 1, none⟩ = some (.float .f64 b) := keep_cell hb1 (by first | (simp; done) | (simp; omega)) (by simp [go_sem])
  have k2 : w1.cell? ⟨w.heap.size + 1, 0, none⟩ = some (.float .f64 c) := keep_cell hb1 (by first | (simp; done) | (simp; omega)) (by simp [go_sem])
  have k3 : w1.cell? ⟨w.heap.size + 1, 1, none⟩ = some (.float .f64 d) := keep_cell hb1 (by first | (simp; done) | (simp; omega)) (by simp [go_sem])
  have f0 : w1.frozen? ⟨w.heap.size, 0, none⟩ = false := keep_free hb1 (by first | (simp; done) | (simp; omega)) (by simp [go_sem])
  have f1 : w1.frozen? ⟨w.heap.size, 1, none⟩ = false := keep_free hb1 (by first | (simp; done) | (simp; omega)) (by simp [go_sem])
  have f2 : w1.frozen? ⟨w.heap.size + 1, 0, none⟩ = false := keep_free hb1 (by first | (simp; done) | (simp; omega)) (by simp [go_sem])
  have f3 : w1.frozen? ⟨w.heap.size + 1, 1, none⟩ = false := keep_free hb1 (by first | (simp; done) | (simp; omega)) (by simp [go_sem])
  have g := b_two.trans (hb1.mono (by simp; omega))
  clear hb1
  have o0 := and01
  have o1 := and11
  have o2 := and21
  have o3 := and31
  rcases hk with ⟨rfl, c1, c2⟩ | ⟨rfl, c1, c2⟩ | ⟨rfl, c1, c2⟩ | ⟨rfl, c1, c2⟩
  · rcases Vg.tri P.out.2.1 P.out.1.1 with ⟨t0, t0c⟩ | ⟨t0, t0c⟩ | ⟨t0, t0c⟩ <;> rcases Vg.tri P.out.1.2 P.out.2.2 with ⟨t1, t1c⟩ | ⟨t1, t1c⟩ | ⟨t1, t1c⟩
    all_goals
      have C := hide (show (_ ∧ _) ∧ _ ∧ _ from ⟨⟨c1, c2⟩, t0c, t1c⟩)
      clear c1 c2 t0c t1c
      go_wp2
      go_ret
      exact ⟨_, rfl, by first | exact yes (by have := C.out; omega) | exact no (by have := C.out; omega), (((g.setCell (by simp) _).setCell (by simp) _).setCell (by simp) _).setCell (by simp) _⟩
  all_goals
    have C := hide (show _ ∧ _ from ⟨c1, c2⟩)
    clear c1 c2
    go_wp2
    go_ret
    exact ⟨_, rfl, by first | exact yes (by have := C.out; omega) | exact no (by have := C.out; omega), (((g.setCell (by simp) _).setCell (by simp) _).setCell (by simp) _).setCell (by simp) _⟩

set_option maxRecDepth 20000 in
set_option maxHeartbeats 4000000 in
theorem less_any (a b c d : Nat) (p q r s : Int) (hx : Vg.Rd a b p q) (hy : Vg.Rd c d r s) (w : World) :
    Calls Try.prog 43 #[.agg #[.float .f64 a, .float .f64 b], .agg #[.float .f64 c, .float .f64 d]] w (TB (q < p ∧ s < r ∨ (p ≤ q ∧ r ≤ s) ∧ p ≤ r ∧ q ≤ s) w) := by
  have hst := sto
  have HX := hide hx
  have HY := hide hy
  have P := hide (show (Vg.Pl p ∧ Vg.Pl q) ∧ Vg.Pl r ∧ Vg.Pl s from ⟨⟨hx.iv.lo, hx.iv.hi⟩, hy.iv.lo, hy.iv.hi⟩)
  clear hx hy
  go_enter Try.func43, Try.ntmps43
  go_wp2_with fail
  refine (both_any a b c d p q r s HX.out HY.out _).mono ?_; rintro e w1 ⟨k, rfl, hk, hb1⟩
  have k0 : w1.cell? ⟨w.heap.size, 0, none⟩ = some (.float .f64 a) := keep_cell hb1 (by first | (simp; done) | (simp; omega)) (by simp [go_sem])
  have k1 : w1.cell? ⟨w.heap.size, 1, none⟩ = some (.float .f64 b) := keep_cell hb1 (by first | (simp; done) | (simp; omega)) (by simp [go_sem])
  have k2 : w1.cell? ⟨w.heap.size + 1, 0, none⟩ = some (.float .f64 c) := keep_cell hb1 (by first | (simp; done) | (simp; omega)) (by simp [go_sem])
  have k3 : w1.cell? ⟨w.heap.size + 1, 1, none⟩ = some (.float .f64 d) := keep_cell hb1 (by first | (simp; done) | (simp; omega)) (by simp [go_sem])
  have f0 : w1.frozen? ⟨w.heap.size, 0, none⟩ = false := keep_free hb1 (by first | (simp; done) | (simp; omega)) (by simp [go_sem])
  have f1 : w1.frozen? ⟨w.heap.size, 1, none⟩ = false := keep_free hb1 (by first | (simp; done) | (simp; omega)) (by simp [go_sem])
  have f2 : w1.frozen? ⟨w.heap.size + 1, 0, none⟩ = false := keep_free hb1 (by first | (simp; done) | (simp; omega)) (by simp [go_sem])
  have f3 : w1.frozen? ⟨w.heap.size + 1, 1, none⟩ = false := keep_free hb1 (by first | (simp; done) | (simp; omega)) (by simp [go_sem])
  have g := b_two.trans (hb1.mono (by simp; omega))
  clear hb1
  have o0 := and01
  have o1 := and11
  have o2 := and21
  have o3 := and31
  rcases hk with ⟨rfl, c1, c2⟩ | ⟨rfl, c1, c2⟩ | ⟨rfl, c1, c2⟩ | ⟨rfl, c1, c2⟩
  · rcases Vg.tri P.out.1.1 P.out.2.1 with ⟨t0, t0c⟩ | ⟨t0, t0c⟩ | ⟨t0, t0c⟩ <;> rcases Vg.tri P.out.1.2 P.out.2.2 with ⟨t1, t1c⟩ | ⟨t1, t1c⟩ | ⟨t1, t1c⟩
    all_goals
      have C := hide (show (_ ∧ _) ∧ _ ∧ _ from ⟨⟨c1, c2⟩, t0c, t1c⟩)
      clear c1 c2 t0c t1c
      go_wp2
      go_ret
      exact ⟨_, rfl, by first | exact yes (by have := C.out; omega) | exact no (by have := C.out; omega), (((g.setCell (by simp) _).setCell (by simp) _).setCell (by simp) _).setCell (by simp) _⟩
  all_goals
    have C := hide (show _ ∧ _ from ⟨c1, c2⟩)
    clear c1 c2
    go_wp2
    go_ret
    exact ⟨_, rfl, by first | exact yes (by have := C.out; omega) | exact no (by have := C.out; omega), (((g.setCell (by simp) _).setCell (by simp) _).setCell (by simp) _).setCell (by simp) _⟩

set_option maxRecDepth 20000 in
set_option maxHeartbeats 4000000 in
theorem prec_any (a b c d : Nat) (p q r s : Int) (hx : Vg.Rd a b p q) (hy : Vg.Rd c d r s) (w : World) :
    Calls Try.prog 47 #[.agg #[.float .f64 a, .float .f64 b], .agg #[.float .f64 c, .float .f64 d]] w (TB (q < p ∨ s < r ∨ q ≤ r) w) := by
  have hst := sto
  have HX := hide hx
  have HY := hide hy
  have P := hide (show (Vg.Pl p ∧ Vg.Pl q) ∧ Vg.Pl r ∧ Vg.Pl s from ⟨⟨hx.iv.lo, hx.iv.hi⟩, hy.iv.lo, hy.iv.hi⟩)
  clear hx hy
  go_enter Try.func47, Try.ntmps47
  go_wp2_with fail
  refine (both_any a b c d p q r s HX.out HY.out _).mono ?_; rintro e w1 ⟨k, rfl, hk, hb1⟩
  have k0 : w1.cell? ⟨w.heap.size, 0, none⟩ = some (.float .f64 a) := keep_cell hb1 (by first | (simp; done) | (simp; omega)) (by simp [go_sem])
  have k1 : w1.cell? ⟨w.heap.size, 1, none⟩ = some (.float .f64 b) := keep_cell hb1 (by first | (simp; done) | (simp; omega)) (by simp [go_sem])
  have k2 : w1.cell? ⟨w.heap.size + 1, 0, none⟩ = some (.float .f64 c) := keep_cell hb1 (by first | (simp; done) | (simp; omega)) (by simp [go_sem])
  have k3 : w1.cell? ⟨w.heap.size + 1, 1, none⟩ = some (.float .f64 d) := keep_cell hb1 (by first | (simp; done) | (simp; omega)) (by simp [go_sem])
  have f0 : w1.frozen? ⟨w.heap.size, 0, none⟩ = false := keep_free hb1 (by first | (simp; done) | (simp; omega)) (by simp [go_sem])
  have f1 : w1.frozen? ⟨w.heap.size, 1, none⟩ = false := keep_free hb1 (by first | (simp; done) | (simp; omega)) (by simp [go_sem])
  have f2 : w1.frozen? ⟨w.heap.size + 1, 0, none⟩ = false := keep_free hb1 (by first | (simp; done) | (simp; omega)) (by simp [go_sem])
  have f3 : w1.frozen? ⟨w.heap.size + 1, 1, none⟩ = false := keep_free hb1 (by first | (simp; done) | (simp; omega)) (by simp [go_sem])
  have g := b_two.trans (hb1.mono (by simp; omega))
  clear hb1
  have o0 := and01
  have o1 := and11
  have o2 := and21
  have o3 := and31
  rcases hk with ⟨rfl, c1, c2⟩ | ⟨rfl, c1, c2⟩ | ⟨rfl, c1, c2⟩ | ⟨rfl, c1, c2⟩
  · rcases Vg.tri P.out.1.2 P.out.2.1 with ⟨t0, t0c⟩ | ⟨t0, t0c⟩ | ⟨t0, t0c⟩
    all_goals
      have C := hide (show (_ ∧ _) ∧ _ from ⟨⟨c1, c2⟩, t0c⟩)
      clear c1 c2 t0c
      go_wp2
      go_ret
      exact ⟨_, rfl, by first | exact yes (by have := C.out; omega) | exact no (by have := C.out; omega), (((g.setCell (by simp) _).setCell (by simp) _).setCell (by simp) _).setCell (by simp) _⟩
  all_goals
    have C := hide (show _ ∧ _ from ⟨c1, c2⟩)
    clear c1 c2
    go_wp2
    go_ret
    exact ⟨_, rfl, by first | exact yes (by have := C.out; omega) | exact no (by have := C.out; omega), (((g.setCell (by simp) _).setCell (by simp) _).setCell (by simp) _).setCell (by simp) _⟩

set_option maxRecDepth 20000 in
set_option maxHeartbeats 4000000 in
theorem sprec_any (a b c d : Nat) (p q r s : Int) (hx : Vg.Rd a b p q) (hy : Vg.Rd c d r s) (w : World) :
    Calls Try.prog 49 #[.agg #[.float .f64 a, .float .f64 b], .agg #[.float .f64 c, .float .f64 d]] w (TB (q < p ∨ s < r ∨ q < r) w) := by
  have hst := sto
  have HX := hide hx
  have HY := hide hy
  have P := hide (show (Vg.Pl p ∧ Vg.Pl q) ∧ Vg.Pl r ∧ Vg.Pl s from ⟨⟨hx.iv.lo, hx.iv.hi⟩, hy.iv.lo, hy.iv.hi⟩)
  clear hx hy
  go_enter Try.func49, Try.ntmps49
  go_wp2_with fail
  refine (both_any a b c d p q r s HX.out HY.out _).mono ?_; rintro e w1 ⟨k, rfl, hk, hb1⟩
  have k0 : w1.cell? ⟨w.heap.size, 0, none⟩ = some (.float .f64 a) := keep_cell hb1 (by first | (simp; done) | (simp; omega)) (by simp [go_sem])
  have k1 : w1.cell? ⟨w.heap.size, 1, none⟩ = some (.float .f64 b) := keep_cell hb1 (by first | (simp; done) | (simp; omega)) (by simp [go_sem])
  have k2 : w1.cell? ⟨w.heap.size + 1, 0, none⟩ = some (.float .f64 c) := keep_cell hb1 (by first | (simp; done) | (simp; omega)) (by simp [go_sem])
  have k3 : w1.cell? ⟨w.heap.size + 1, 1, none⟩ = some (.float .f64 d) := keep_cell hb1 (by first | (simp; done) | (simp; omega)) (by simp [go_sem])
  have f0 : w1.frozen? ⟨w.heap.size, 0, none⟩ = false := keep_free hb1 (by first | (simp; done) | (simp; omega)) (by simp [go_sem])
  have f1 : w1.frozen? ⟨w.heap.size, 1, none⟩ = false := keep_free hb1 (by first | (simp; done) | (simp; omega)) (by simp [go_sem])
  have f2 : w1.frozen? ⟨w.heap.size + 1, 0, none⟩ = false := keep_free hb1 (by first | (simp; done) | (simp; omega)) (by simp [go_sem])
  have f3 : w1.frozen? ⟨w.heap.size + 1, 1, none⟩ = false := keep_free hb1 (by first | (simp; done) | (simp; omega)) (by simp [go_sem])
  have g := b_two.trans (hb1.mono (by simp; omega))
  clear hb1
  have o0 := and01
  have o1 := and11
  have o2 := and21
  have o3 := and31
  rcases hk with ⟨rfl, c1, c2⟩ | ⟨rfl, c1, c2⟩ | ⟨rfl, c1, c2⟩ | ⟨rfl, c1, c2⟩
  · rcases Vg.tri P.out.1.2 P.out.2.1 with ⟨t0, t0c⟩ | ⟨t0, t0c⟩ | ⟨t0, t0c⟩
    all_goals
      have C := hide (show (_ ∧ _) ∧ _ from ⟨⟨c1, c2⟩, t0c⟩)
      clear c1 c2 t0c
      go_wp2
      go_ret
      exact ⟨_, rfl, by first | exact yes (by have := C.out; omega) | exact no (by have := C.out; omega), (((g.setCell (by simp) _).setCell (by simp) _).setCell (by simp) _).setCell (by simp) _⟩
  all_goals
    have C := hide (show _ ∧ _ from ⟨c1, c2⟩)
    clear c1 c2
    go_wp2
    go_ret
    exact ⟨_, rfl, by first | exact yes (by have := C.out; omega) | exact no (by have := C.out; omega), (((g.setCell (by simp) _).setCell (by simp) _).setCell (by simp) _).setCell (by simp) _⟩

end Go.Proofs.Ytljnadoodbninaa

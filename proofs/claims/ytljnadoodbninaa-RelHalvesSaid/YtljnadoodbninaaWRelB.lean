/- Contracts of the program's Interior and StrictLess, Intersect and Hull, Equal and Disjoint. -/
import Derived.Test.YtljnadoodbninaaWRel
namespace Go.Proofs.Ytljnadoodbninaa
open Go.RowKit

theorem bool_of (φ : Prop) : ∃ n : Bool, n = true ↔ φ := by
  by_cases h : φ
  · exact ⟨true, yes h⟩
  · exact ⟨false, no h⟩
theorem run_max_pl {p r m : Int} (hp : Vg.Pl p) (hr : Vg.Pl r) (hm : max p r = m) (ts : Array TypeId) (t : TypeId) (w : World) : (Builtin.max_ ts t #[.float .f64 (Vg.atn true p), .float .f64 (Vg.atn true r)]).run Try.prog w = .ok (.float .f64 (Vg.atn true m)) w := by
  rcases Vg.tri hp hr with ⟨o, c⟩ | ⟨o, c⟩ | ⟨o, c⟩
  · obtain rfl : r = m := by omega
    simp [Builtin.max_, Builtin.max2, o]
  · subst c
    obtain rfl : p = m := by omega
    simp [Builtin.max_, Builtin.max2, o]
  · obtain rfl : p = m := by omega
    simp [Builtin.max_, Builtin.max2, o]
theorem run_min_pl {p r m : Int} (hp : Vg.Pl p) (hr : Vg.Pl r) (hm : min p r = m) (ts : Array TypeId) (t : TypeId) (w : World) : (Builtin.min_ ts t #[.float .f64 (Vg.atn true p), .float .f64 (Vg.atn true r)]).run Try.prog w = .ok (.float .f64 (Vg.atn true m)) w := by
  rcases Vg.tri hp hr with ⟨o, c⟩ | ⟨o, c⟩ | ⟨o, c⟩
  · obtain rfl : p = m := by omega
    simp [Builtin.min_, Builtin.min2, o]
  · subst c
    obtain rfl : p = m := by omega
    simp [Builtin.min_, Builtin.min2, o]
  · obtain rfl : r = m := by omega
    simp [Builtin.min_, Builtin.min2, o]

/-- What two have in common, and the least that holds both: by places. -/
def Meet (p q r s x y : Int) : Prop := min q s < max p r ∧ x = Vg.PI ∧ y = -Vg.PI ∨ max p r ≤ min q s ∧ x = max p r ∧ y = min q s
def Join (p q r s x y : Int) : Prop := x = min p r ∧ y = max q s
def TI (R : Int → Int → Prop) (w : World) (e : Ending) (w' : World) : Prop := ∃ x y, e = .returned (.agg #[.float .f64 (Vg.atn true x), .float .f64 (Vg.atn true y)]) ∧ R x y ∧ Below w.heap.size w w'

set_option maxRecDepth 20000 in
set_option maxHeartbeats 4000000 in
theorem interior_any (a b c d : Nat) (p q r s : Int) (hx : Vg.Rd a b p q) (hy : Vg.Rd c d r s) (w : World) :
    Calls Try.prog 53 #[.agg #[.float .f64 a, .float .f64 b], .agg #[.float .f64 c, .float .f64 d]] w (TB (q < p ∨ (p ≤ q ∧ r ≤ s) ∧ bl r p ∧ bl q s) w) := by
  have hst := sto
  have HX := hide hx
  have HY := hide hy
  have P := hide (show (Vg.Pl p ∧ Vg.Pl q) ∧ Vg.Pl r ∧ Vg.Pl s from ⟨⟨hx.iv.lo, hx.iv.hi⟩, hy.iv.lo, hy.iv.hi⟩)
  clear hx hy
  go_enter Try.func53, Try.ntmps53
  go_wp2_with fail
  refine (both_any a b c d p q r s HX.out HY.out _).mono ?_; rintro e w1 ⟨k, rfl, hk, hb1⟩
  have k0 : w1.cell? ⟨w.heap.size, 0, none⟩ = some (.float .f64 a) := keep_cell hb1 (by first | (simp; done) | (simp; omega)) (by simp [go_sem])
  have k1 : w1.cell? ⟨w.heap.size, 1, none⟩ = some (.float .f64 b) := keep_cell hb1 (by first | (simp; done) | (simp; omega)) (by simp [go_sem])
  have k2 : w1.cell? ⟨w.heap.size + 1, 0, none⟩ = some (.float .f64 c) := keep_cell hb1 (by first | (simp; done) | (simp; omega)) (by simp [go_sem])
  have k3 : w1.cell? ⟨w.heap.size + 1, 1, none⟩ = some (.float .f64 d) := keep_cell hb1 (by first | (simp; done) | (simp; omega)) (by simp [go_sem])
  have f0 : w1.frozen? ⟨w.heap.size, 0, none⟩ = false := keep_free hb1 (by first | (simp; done) | (simp; omega)) (by simp [go_sem])
  have f1 : w1.frozen? ⟨w.heap.size, 1, none⟩ = false := keep_free hb1 (by first | (simp; done) | (simp; omega)) (by simp [go_sem])
  have f2 : w1.frozen? ⟨w.heap.size + 1, 0, none⟩ = false := keep_free hb1 (by first | (simp; done) | (simp; omega)) (by simp [go_sem])
  have f3 : w1.frozen? ⟨w.heap.size + 1, 1, none⟩ = false := keep_free hb1 (by first | (simp; done) | (simp; omega)) (by simp [go_sem])
  have g := b_two.trans (hb1.mono (by simp; omega))
  clear hb1
  have o0 := and01
  have o1 := and11
  have o2 := and21
  have o3 := and31
  rcases hk with ⟨rfl, c1, c2⟩ | ⟨rfl, c1, c2⟩ | ⟨rfl, c1, c2⟩ | ⟨rfl, c1, c2⟩
  · obtain ⟨n1, h1⟩ := bool_of (bl r p)
    obtain ⟨n2, h2⟩ := bool_of (bl q s)
    have B1 := fun w => below_any r p P.out.2.1 P.out.1.1 n1 h1 w
    have B2 := fun w => below_any q s P.out.1.2 P.out.2.2 n2 h2 w
    have H1 := hide h1
    have H2 := hide h2
    have C := hide (show _ ∧ _ from ⟨c1, c2⟩)
    clear c1 c2 h1 h2
    go_wp2_with fail
    refine (B1 _).mono ?_; rintro e w' ⟨rfl, rfl⟩
    clear B1
    cases n1 <;> cases n2
    all_goals
      go_wp2_with fail
      try (refine (B2 _).mono ?_; rintro e w' ⟨rfl, rfl⟩; go_wp2)
      go_ret
      refine ⟨_, rfl, ?_, (((g.setCell (by simp) _).setCell (by simp) _).setCell (by simp) _).setCell (by simp) _⟩
      have h1 := H1.out
      have h2 := H2.out
      have c := C.out
      try simp only [true_iff, Bool.false_eq_true, false_iff] at h1
      try simp only [true_iff, Bool.false_eq_true, false_iff] at h2
      first
        | exact yes (.inr ⟨c, h1, h2⟩)
        | exact no (fun h => h.elim (fun h => by omega) (fun h => absurd h.2.1 h1))
        | exact no (fun h => h.elim (fun h => by omega) (fun h => absurd h.2.2 h2))
  all_goals
    have C := hide (show _ ∧ _ from ⟨c1, c2⟩)
    clear c1 c2
    go_wp2
    go_ret
    refine ⟨_, rfl, ?_, (((g.setCell (by simp) _).setCell (by simp) _).setCell (by simp) _).setCell (by simp) _⟩
    have c := C.out
    first
      | exact yes (.inl (by omega))
      | exact no (fun h => h.elim (fun h => by omega) (fun h => by have := h.1; omega))

set_option maxRecDepth 20000 in
set_option maxHeartbeats 4000000 in
theorem sless_any (a b c d : Nat) (p q r s : Int) (hx : Vg.Rd a b p q) (hy : Vg.Rd c d r s) (w : World) :
    Calls Try.prog 45 #[.agg #[.float .f64 a, .float .f64 b], .agg #[.float .f64 c, .float .f64 d]] w (TB (q < p ∧ s < r ∨ (p ≤ q ∧ r ≤ s) ∧ bl p r ∧ bl q s) w) := by
  have hst := sto
  have HX := hide hx
  have HY := hide hy
  have P := hide (show (Vg.Pl p ∧ Vg.Pl q) ∧ Vg.Pl r ∧ Vg.Pl s from ⟨⟨hx.iv.lo, hx.iv.hi⟩, hy.iv.lo, hy.iv.hi⟩)
  clear hx hy
  go_enter Try.func45, Try.ntmps45
  go_wp2_with fail
  refine (both_any a b c d p q r s HX.out HY.out _).mono ?_; rintro e w1 ⟨k, rfl, hk, hb1⟩
  have k0 : w1.cell? ⟨w.heap.size, 0, none⟩ = some (.float .f64 a) := keep_cell hb1 (by first | (simp; done) | (simp; omega)) (by simp [go_sem])
  have k1 : w1.cell? ⟨w.heap.size, 1, none⟩ = some (.float .f64 b) := keep_cell hb1 (by first | (simp; done) | (simp; omega)) (by simp [go_sem])
  have k2 : w1.cell? ⟨w.heap.size + 1, 0, none⟩ = some (.float .f64 c) := keep_cell hb1 (by first | (simp; done) | (simp; omega)) (by simp [go_sem])
  have k3 : w1.cell? ⟨w.heap.size + 1, 1, none⟩ = some (.float .f64 d) := keep_cell hb1 (by first | (simp; done) | (simp; omega)) (by simp [go_sem])
  have f0 : w1.frozen? ⟨w.heap.size, 0, none⟩ = false := keep_free hb1 (by first | (simp; done) | (simp; omega)) (by simp [go_sem])
  have f1 : w1.frozen? ⟨w.heap.size, 1, none⟩ = false := keep_free hb1 (by first | (simp; done) | (simp; omega)) (by simp [go_sem])
  have f2 : w1.frozen? ⟨w.heap.size + 1, 0, none⟩ = false := keep_free hb1 (by first | (simp; done) | (simp; omega)) (by simp [go_sem])
  have f3 : w1.frozen? ⟨w.heap.size + 1, 1, none⟩ = false := keep_free hb1 (by first | (simp; done) | (simp; omega)) (by simp [go_sem])
  have g := b_two.trans (hb1.mono (by simp; omega))
  clear hb1
  have o0 := and01
  have o1 := and11
  have o2 := and21
  have o3 := and31
  rcases hk with ⟨rfl, c1, c2⟩ | ⟨rfl, c1, c2⟩ | ⟨rfl, c1, c2⟩ | ⟨rfl, c1, c2⟩
  · obtain ⟨n1, h1⟩ := bool_of (bl p r)
    obtain ⟨n2, h2⟩ := bool_of (bl q s)
    have B1 := fun w => below_any p r P.out.1.1 P.out.2.1 n1 h1 w
    have B2 := fun w => below_any q s P.out.1.2 P.out.2.2 n2 h2 w
    have H1 := hide h1
    have H2 := hide h2
    have C := hide (show _ ∧ _ from ⟨c1, c2⟩)
    clear c1 c2 h1 h2
    go_wp2_with fail
    refine (B1 _).mono ?_; rintro e w' ⟨rfl, rfl⟩
    clear B1
    cases n1 <;> cases n2
    all_goals
      go_wp2_with fail
      try (refine (B2 _).mono ?_; rintro e w' ⟨rfl, rfl⟩; go_wp2)
      go_ret
      refine ⟨_, rfl, ?_, (((g.setCell (by simp) _).setCell (by simp) _).setCell (by simp) _).setCell (by simp) _⟩
      have h1 := H1.out
      have h2 := H2.out
      have c := C.out
      try simp only [true_iff, Bool.false_eq_true, false_iff] at h1
      try simp only [true_iff, Bool.false_eq_true, false_iff] at h2
      first
        | exact yes (.inr ⟨c, h1, h2⟩)
        | exact no (fun h => h.elim (fun h => by omega) (fun h => absurd h.2.1 h1))
        | exact no (fun h => h.elim (fun h => by omega) (fun h => absurd h.2.2 h2))
  all_goals
    have C := hide (show _ ∧ _ from ⟨c1, c2⟩)
    clear c1 c2
    go_wp2
    go_ret
    refine ⟨_, rfl, ?_, (((g.setCell (by simp) _).setCell (by simp) _).setCell (by simp) _).setCell (by simp) _⟩
    have c := C.out
    first
      | exact yes (.inl (by omega))
      | exact no (fun h => h.elim (fun h => by omega) (fun h => by have := h.1; omega))

end Go.Proofs.Ytljnadoodbninaa

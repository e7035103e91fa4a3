/- Contracts of the program's Equal, Disjoint, IsEmpty, IsEntire, IsSingleton, IsCommon, Member. -/
import Derived.Test.YtljnadoodbninaaWMeet
namespace Go.Proofs.Ytljnadoodbninaa
open Go.RowKit

theorem entire_any (w : World) : Calls Try.prog 78 #[] w fun e w' => e = .returned (.agg #[.float .f64 (Vg.atn true (-Vg.PI)), .float .f64 (Vg.atn true Vg.PI)]) ∧ Below w.heap.size w w' := by
  have hst := sto
  go_enter Try.func78, Try.ntmps78
  go_wp2_with (go_at_call 65; first | ((with_reducible refine (inf_top _).mono ?_); rintro e w' ⟨rfl, rfl⟩) | ((with_reducible refine (inf_bot _).mono ?_); rintro e w' ⟨rfl, rfl⟩))
  exact bodyPost_ret (v := .agg #[.float .f64 (Vg.atn true (-Vg.PI)), .float .f64 (Vg.atn true Vg.PI)]) (by simp [results, Try.results78, go_sem]) rfl ⟨rfl, b_one⟩
theorem Meet.iv {p q r s x y : Int} (h : Vg.Iv p q) (k : Vg.Iv r s) (m : Meet p q r s x y) : Vg.Iv x y := by
  have := Vg.PI_pos
  unfold Vg.Iv Meet at *
  omega
theorem Join.iv {p q r s x y : Int} (h : Vg.Iv p q) (k : Vg.Iv r s) (m : Join p q r s x y) : Vg.Iv x y := by
  have := Vg.PI_pos
  unfold Vg.Iv Join at *
  omega
theorem dec_of {φ : Prop} {n : Bool} (h : n = true ↔ φ) [Decidable φ] : decide φ = n := by rw [Bool.eq_iff_iff, h, decide_eq_true_iff]

set_option maxRecDepth 20000 in
set_option maxHeartbeats 4000000 in
theorem isempty_any (a b : Nat) (p q : Int) (hx : Vg.Rd a b p q) (w : World) :
    Calls Try.prog 31 #[.agg #[.float .f64 a, .float .f64 b]] w (TB (q < p) w) := by
  have hst := sto
  have HX := hide hx
  have I := hide hx.iv
  clear hx
  go_enter Try.func31, Try.ntmps31
  go_wp2_with fail
  refine (read_any a b p q HX.out _).mono ?_; rintro e w1 ⟨rfl, hb1⟩
  have g := bch_one hb1
  obtain ⟨n, hn⟩ := bool_of (p = Vg.PI ∧ q = -Vg.PI)
  have e1 := eqPlaces I.out.lo I.out.hi Vg.pl_top Vg.pl_bot n (dec_of hn)
  have hm : Try.prog.eqGuardType Try.prog.depth 28 = false := by kernel_rfl
  have HN := hide (show n = true ↔ (q < p) by first | exact hn | (rw [hn]; have i := I.out; have := Vg.PI_pos; unfold Vg.Iv at i; constructor <;> intro h <;> omega))
  clear hb1 hn
  go_wp2_with fail
  refine (empty_any _).mono ?_; rintro e w2 ⟨rfl, hb2⟩
  go_wp2
  go_ret
  exact ⟨_, rfl, HN.out, bch g hb2⟩

set_option maxRecDepth 20000 in
set_option maxHeartbeats 4000000 in
theorem isentire_any (a b : Nat) (p q : Int) (hx : Vg.Rd a b p q) (w : World) :
    Calls Try.prog 33 #[.agg #[.float .f64 a, .float .f64 b]] w (TB (p = -Vg.PI ∧ q = Vg.PI) w) := by
  have hst := sto
  have HX := hide hx
  have I := hide hx.iv
  clear hx
  go_enter Try.func33, Try.ntmps33
  go_wp2_with fail
  refine (read_any a b p q HX.out _).mono ?_; rintro e w1 ⟨rfl, hb1⟩
  have g := bch_one hb1
  obtain ⟨n, hn⟩ := bool_of (p = -Vg.PI ∧ q = Vg.PI)
  have e1 := eqPlaces I.out.lo I.out.hi Vg.pl_bot Vg.pl_top n (dec_of hn)
  have hm : Try.prog.eqGuardType Try.prog.depth 28 = false := by kernel_rfl
  have HN := hide (show n = true ↔ (p = -Vg.PI ∧ q = Vg.PI) by first | exact hn | (rw [hn]; have i := I.out; have := Vg.PI_pos; unfold Vg.Iv at i; constructor <;> intro h <;> omega))
  clear hb1 hn
  go_wp2_with fail
  refine (entire_any _).mono ?_; rintro e w2 ⟨rfl, hb2⟩
  go_wp2
  go_ret
  exact ⟨_, rfl, HN.out, bch g hb2⟩

set_option maxRecDepth 20000 in
set_option maxHeartbeats 4000000 in
theorem issingle_any (a b : Nat) (p q : Int) (hx : Vg.Rd a b p q) (w : World) :
    Calls Try.prog 35 #[.agg #[.float .f64 a, .float .f64 b]] w (TB (p = q) w) := by
  have hst := sto
  have HX := hide hx
  have I := hide hx.iv
  clear hx
  go_enter Try.func35, Try.ntmps35
  go_wp2_with fail
  refine (read_any a b p q HX.out _).mono ?_; rintro e w1 ⟨rfl, hb1⟩
  have k0 : w1.cell? ⟨w.heap.size, 0, none⟩ = some (.float .f64 a) := keep_cell hb1 (by simp) (by simp)
  have k1 : w1.cell? ⟨w.heap.size, 1, none⟩ = some (.float .f64 b) := keep_cell hb1 (by simp) (by simp)
  have f0 : w1.frozen? ⟨w.heap.size, 0, none⟩ = false := keep_free hb1 (by simp) (by simp)
  have f1 : w1.frozen? ⟨w.heap.size, 1, none⟩ = false := keep_free hb1 (by simp) (by simp)
  have g := bch_one hb1
  clear hb1
  rcases Vg.tri I.out.lo I.out.hi with ⟨o, c⟩ | ⟨o, c⟩ | ⟨o, c⟩
  all_goals
    have C := hide c
    clear c
    go_wp2
    go_ret
    exact ⟨_, rfl, by first | exact yes C.out | exact no (by have := C.out; omega), (g.setCell (by dsimp only <;> omega) _).setCell (by dsimp only <;> omega) _⟩

set_option maxRecDepth 20000 in
set_option maxHeartbeats 4000000 in
theorem iscommon_any (a b : Nat) (p q : Int) (hx : Vg.Rd a b p q) (w : World) :
    Calls Try.prog 36 #[.agg #[.float .f64 a, .float .f64 b]] w (TB (-Vg.PI < p ∧ p ≤ q ∧ q < Vg.PI) w) := by
  have hst := sto
  have HX := hide hx
  have I := hide hx.iv
  clear hx
  go_enter Try.func36, Try.ntmps36
  go_wp2_with fail
  refine (read_any a b p q HX.out _).mono ?_; rintro e w1 ⟨rfl, hb1⟩
  have k0 : w1.cell? ⟨w.heap.size, 0, none⟩ = some (.float .f64 a) := keep_cell hb1 (by simp) (by simp)
  have k1 : w1.cell? ⟨w.heap.size, 1, none⟩ = some (.float .f64 b) := keep_cell hb1 (by simp) (by simp)
  have f0 : w1.frozen? ⟨w.heap.size, 0, none⟩ = false := keep_free hb1 (by simp) (by simp)
  have f1 : w1.frozen? ⟨w.heap.size, 1, none⟩ = false := keep_free hb1 (by simp) (by simp)
  have g := bch_one hb1
  clear hb1
  obtain ⟨n1, h1⟩ := bool_of (p = Vg.PI ∨ p = -Vg.PI)
  obtain ⟨n2, h2⟩ := bool_of (q = Vg.PI ∨ q = -Vg.PI)
  have B1 := fun w => isinf_any (Vg.atn true p) n1 ((Vg.infb_atn I.out.lo).trans (dec_of h1)) (Vg.atn_le I.out.lo) w
  have B2 := fun w => isinf_any (Vg.atn true q) n2 ((Vg.infb_atn I.out.hi).trans (dec_of h2)) (Vg.atn_le I.out.hi) w
  have key : ∀ n : Bool, (n = true ↔ p ≤ q ∧ n1 = false ∧ n2 = false) → (n = true ↔ -Vg.PI < p ∧ p ≤ q ∧ q < Vg.PI) := by
    intro n h
    have i := I.out
    have := Vg.PI_pos
    unfold Vg.Iv at i
    rw [h]
    have e1 : n1 = false ↔ ¬ (p = Vg.PI ∨ p = -Vg.PI) := by rw [← h1]; simp
    have e2 : n2 = false ↔ ¬ (q = Vg.PI ∨ q = -Vg.PI) := by rw [← h2]; simp
    rw [e1, e2]
    constructor <;> intro h <;> omega
  have K := hide key
  clear key h1 h2
  rcases Vg.tri I.out.lo I.out.hi with ⟨o, c⟩ | ⟨o, c⟩ | ⟨o, c⟩
  · have C := hide (show p ≤ q by omega)
    clear c
    go_wp2_with fail
    refine (B1 _).mono ?_; rintro e w2 ⟨rfl, rfl⟩
    cases n1 <;> cases n2
    all_goals
      go_wp2_with fail
      try (refine (B2 _).mono ?_; rintro e w' ⟨rfl, rfl⟩; go_wp2)
      go_ret
      exact ⟨_, rfl, K.out _ (by have := C.out; simp [this]), (g.setCell (by dsimp only <;> omega) _).setCell (by dsimp only <;> omega) _⟩
  · have C := hide (show p ≤ q by omega)
    clear c
    go_wp2_with fail
    refine (B1 _).mono ?_; rintro e w2 ⟨rfl, rfl⟩
    cases n1 <;> cases n2
    all_goals
      go_wp2_with fail
      try (refine (B2 _).mono ?_; rintro e w' ⟨rfl, rfl⟩; go_wp2)
      go_ret
      exact ⟨_, rfl, K.out _ (by have := C.out; simp [this]), (g.setCell (by dsimp only <;> omega) _).setCell (by dsimp only <;> omega) _⟩
  · have C := hide (show ¬ p ≤ q by omega)
    clear c
    go_wp2
    go_ret
    exact ⟨_, rfl, K.out _ (no (by have := C.out; omega)), (g.setCell (by dsimp only <;> omega) _).setCell (by dsimp only <;> omega) _⟩

set_option maxRecDepth 20000 in
set_option maxHeartbeats 4000000 in
theorem disjoint_any (a b c d : Nat) (p q r s : Int) (hx : Vg.Rd a b p q) (hy : Vg.Rd c d r s) (w : World) :
    Calls Try.prog 42 #[.agg #[.float .f64 a, .float .f64 b], .agg #[.float .f64 c, .float .f64 d]] w (TB (min q s < max p r) w) := by
  have hst := sto
  have HX := hide hx
  have HY := hide hy
  have P := hide (show (Vg.Pl p ∧ Vg.Pl q) ∧ Vg.Pl r ∧ Vg.Pl s from ⟨⟨hx.iv.lo, hx.iv.hi⟩, hy.iv.lo, hy.iv.hi⟩)
  clear hx hy
  go_enter Try.func42, Try.ntmps42
  have I := hide (show Vg.Iv p q ∧ Vg.Iv r s from ⟨HX.out.iv, HY.out.iv⟩)
  go_wp2_with fail
  refine (meet_any a b c d p q r s HX.out HY.out _).mono ?_; rintro e w1 ⟨x, y, rfl, hm1, hb1⟩
  have g := b_two.trans (hb1.mono (by simp; omega))
  have J := hm1.iv I.out.1 I.out.2
  obtain ⟨n, hn⟩ := bool_of (x = Vg.PI ∧ y = -Vg.PI)
  have e1 := eqPlaces J.lo J.hi Vg.pl_top Vg.pl_bot n (dec_of hn)
  have hm : Try.prog.eqGuardType Try.prog.depth 28 = false := by kernel_rfl
  have HN := hide (show n = true ↔ min q s < max p r by rw [hn]; have i := I.out; have := Vg.PI_pos; unfold Vg.Iv at i; unfold Meet at hm1; constructor <;> intro h <;> omega)
  clear hb1 hn hm1 J
  go_wp2_with fail
  refine (empty_any _).mono ?_; rintro e w2 ⟨rfl, hb2⟩
  go_wp2
  go_ret
  exact ⟨_, rfl, HN.out, bch g hb2⟩

set_option maxRecDepth 20000 in
set_option maxHeartbeats 4000000 in
theorem equal_any (a b c d : Nat) (p q r s : Int) (hx : Vg.Rd a b p q) (hy : Vg.Rd c d r s) (w : World) :
    Calls Try.prog 41 #[.agg #[.float .f64 a, .float .f64 b], .agg #[.float .f64 c, .float .f64 d]] w (TB (p = r ∧ q = s) w) := by
  have hst := sto
  have HX := hide hx
  have HY := hide hy
  have P := hide (show (Vg.Pl p ∧ Vg.Pl q) ∧ Vg.Pl r ∧ Vg.Pl s from ⟨⟨hx.iv.lo, hx.iv.hi⟩, hy.iv.lo, hy.iv.hi⟩)
  clear hx hy
  go_enter Try.func41, Try.ntmps41
  go_wp2_with fail
  refine (both_any a b c d p q r s HX.out HY.out _).mono ?_; rintro e w1 ⟨k, rfl, hk, hb1⟩
  have k0 : w1.cell? ⟨w.heap.size, 0, none⟩ = some (.float .f64 a) := keep_cell hb1 (by first | (simp; done) | (simp; omega)) (by simp [go_sem])
  have k1 : w1.cell? ⟨w.heap.size, 1, none⟩ = some (.float .f64 b) := keep_cell hb1 (by first | (simp; done) | (simp; omega)) (by simp [go_sem])
  have k2 : w1.cell? ⟨w.heap.size + 1, 0, none⟩ = some (.float .f64 c) := keep_cell hb1 (by first | (simp; done) | (simp; omega)) (by simp [go_sem])
  have k3 : w1.cell? ⟨w.heap.size + 1, 1, none⟩ = some (.float .f64 d) := keep_cell hb1 (by first | (simp; done) | (simp; omega)) (by simp [go_sem])
  have f0 : w1.frozen? ⟨w.heap.size, 0, none⟩ = false := keep_free hb1 (by first | (simp; done) | (simp; omega)) (by simp [go_sem])
  have f1 : w1.frozen? ⟨w.heap.size, 1, none⟩ = false := keep_free hb1 (by first | (simp; done) | (simp; omega)) (by simp [go_sem])
  have f2 : w1.frozen? ⟨w.heap.size + 1, 0, none⟩ = false := keep_free hb1 (by first | (simp; done) | (simp; omega)) (by simp [go_sem])
  have f3 : w1.frozen? ⟨w.heap.size + 1, 1, none⟩ = false := keep_free hb1 (by first | (simp; done) | (simp; omega)) (by simp [go_sem])
  have g := b_two.trans (hb1.mono (by simp; omega))
  clear hb1
  obtain ⟨n, hn⟩ := bool_of (p = r ∧ q = s)
  have e1 := eqPlaces P.out.1.1 P.out.1.2 P.out.2.1 P.out.2.2 n (dec_of hn)
  have hm : Try.prog.eqGuardType Try.prog.depth 28 = false := by kernel_rfl
  have HN := hide hn
  clear hn hk
  go_wp2
  go_ret
  exact ⟨_, rfl, HN.out, (((g.setCell (by simp) _).setCell (by simp) _).setCell (by simp) _).setCell (by simp) _⟩

end Go.Proofs.Ytljnadoodbninaa

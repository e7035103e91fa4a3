/- Contracts of the reference's relations. -/
import Derived.Test.YtljnadoodbninaaMRows
import Derived.Test.YtljnadoodbninaaWRefRows
namespace Go.Proofs.Ytljnadoodbninaa
open Go.RowKit

theorem Ivn.of {p q r s P Q R S n : Int} (h : Vg.Rws p q r s P Q R S n) (i : Vg.Iv p q) (j : Vg.Iv r s) : Ivn P Q n ∧ Ivn R S n := by
  have pi := Vg.PI_pos
  obtain ⟨⟨a, b, c, d, m, e1, e2, e3, e4, e5, m1, m2, a1, a2, b1, b2, c1, c2, d1, d2⟩, pq, -, -, -, -, rs, p1, q1, r1, s1⟩ := h
  refine ⟨⟨⟨a, b, m, e1, e2, e5⟩, by omega, ?_⟩, ⟨⟨c, d, m, e3, e4, e5⟩, by omega, ?_⟩⟩
  · clear rs r1 s1 j
    rcases i with ⟨h1, h2⟩ | ⟨h1, h2, h3, h4, h5⟩
    · left; exact ⟨p1.2.1 h1, q1.1.1 h2⟩
    · right
      have x1 : P ≠ n := fun h => by have := p1.2.2 h; omega
      have x2 : Q ≠ 0 := fun h => by have := q1.1.2 h; omega
      have x3 : P ≤ Q := by have := pq.2; omega
      omega
  · clear pq p1 q1 i
    rcases j with ⟨h1, h2⟩ | ⟨h1, h2, h3, h4, h5⟩
    · left; exact ⟨r1.2.1 h1, s1.1.1 h2⟩
    · right
      have x1 : R ≠ n := fun h => by have := r1.2.2 h; omega
      have x2 : S ≠ 0 := fun h => by have := s1.1.2 h; omega
      have x3 : R ≤ S := by have := rs.2; omega
      omega
theorem lt_le {x y X Y : Int} (h : (x < y ↔ X < Y) ∧ (y < x ↔ Y < X)) : (x ≤ y ↔ X ≤ Y) ∧ (y ≤ x ↔ Y ≤ X) ∧ (x = y ↔ X = Y) := by
  refine ⟨?_, ?_, ?_⟩
  · rw [← Int.not_lt, ← Int.not_lt, h.2]
  · rw [← Int.not_lt, ← Int.not_lt, h.1]
  · constructor
    · intro e
      have a : ¬ X < Y := fun c => by have := h.1.2 c; omega
      have b : ¬ Y < X := fun c => by have := h.2.2 c; omega
      omega
    · intro e
      have a : ¬ x < y := fun c => by have := h.1.1 c; omega
      have b : ¬ y < x := fun c => by have := h.2.1 c; omega
      omega
section
variable {p q r s P Q R S n : Int} (h : Vg.Rws p q r s P Q R S n) {N M : Bool} (i : Vg.Iv p q) (j : Vg.Iv r s) (hN : Fact N (q < p)) (hM : Fact M (s < r))
include h i j hN hM
theorem requal_iff : (ES 0 N P Q M R S n n ∧ ES 0 M R S N P Q n n) ↔ (p = r ∧ q = s) := by
  have k := Ivn.of h i j
  have pi := Vg.PI_pos
  obtain ⟨-, pq, pr, ps, qr, qs, rs, p1, q1, r1, s1⟩ := h
  have gN : N = true ↔ Q < P := Iff.trans hN pq.2
  have gM : M = true ↔ S < R := Iff.trans hM rs.2
  rw [ES0 k.1 k.2 gN gM, ES0 k.2 k.1 gM gN]
  refine Iff.trans (b := P = R ∧ Q = S) ?_ ?_
  · clear pq pr ps qr qs rs p1 q1 r1 s1 gN gM hN hM i j
    obtain ⟨⟨_, _, k1⟩, ⟨_, _, k2⟩⟩ := k
    omega
  · clear k hN hM gN gM
    have lpr := lt_le pr
    have lqs := lt_le qs
    rw [← lpr.2.2, ← lqs.2.2]
theorem rsubset_iff : (ES 0 N P Q M R S n n) ↔ (q < p ∨ r ≤ p ∧ q ≤ s) := by
  have k := Ivn.of h i j
  have pi := Vg.PI_pos
  obtain ⟨-, pq, pr, ps, qr, qs, rs, p1, q1, r1, s1⟩ := h
  have gN : N = true ↔ Q < P := Iff.trans hN pq.2
  have gM : M = true ↔ S < R := Iff.trans hM rs.2
  rw [ES0 k.1 k.2 gN gM]
  refine Iff.trans (b := Q < P ∨ R ≤ P ∧ Q ≤ S) ?_ ?_
  · clear pq pr ps qr qs rs p1 q1 r1 s1 gN gM hN hM i j
    obtain ⟨⟨_, _, k1⟩, ⟨_, _, k2⟩⟩ := k
    omega
  · clear k hN hM gN gM
    have lpq := lt_le pq
    have lpr := lt_le pr
    have lqs := lt_le qs
    rw [← pq.2, ← lpr.2.1, ← lqs.1]
theorem rinterior_iff : (ES 3 N P Q M R S n n ∧ ES 2 N P Q M R S n n) ↔ (q < p ∨ (p ≤ q ∧ r ≤ s) ∧ bl r p ∧ bl q s) := by
  have k := Ivn.of h i j
  have pi := Vg.PI_pos
  obtain ⟨-, pq, pr, ps, qr, qs, rs, p1, q1, r1, s1⟩ := h
  have gN : N = true ↔ Q < P := Iff.trans hN pq.2
  have gM : M = true ↔ S < R := Iff.trans hM rs.2
  rw [ES3 k.1 k.2 gN gM, ES2 k.1 k.2 gN gM]
  refine Iff.trans (b := Q < P ∨ (P ≤ Q ∧ R ≤ S) ∧ (R < P ∨ R = P ∧ R = 0) ∧ (Q < S ∨ Q = S ∧ Q = n)) ?_ ?_
  · clear pq pr ps qr qs rs p1 q1 r1 s1 gN gM hN hM i j
    obtain ⟨⟨_, _, k1⟩, ⟨_, _, k2⟩⟩ := k
    omega
  · clear k hN hM gN gM
    have lpq := lt_le pq
    have lrs := lt_le rs
    have lpr := lt_le pr
    have lqs := lt_le qs
    have e1 : (R = P ↔ r = p) := ⟨fun h => (lpr.2.2.2 h.symm).symm, fun h => (lpr.2.2.1 h.symm).symm⟩
    rw [← pq.2, ← lpq.1, ← lrs.1, ← pr.2, e1, ← r1.1, ← qs.1, ← lqs.2.2, ← q1.2]
    clear pq pr ps qr qs rs p1 q1 r1 s1 lpq lrs lpr lqs e1
    unfold Vg.Iv at i j
    unfold bl
    omega
theorem rdisjoint_iff : (EE 5 N P Q M R S n n) ↔ (min q s < max p r) := by
  have k := Ivn.of h i j
  have pi := Vg.PI_pos
  obtain ⟨-, pq, pr, ps, qr, qs, rs, p1, q1, r1, s1⟩ := h
  have gN : N = true ↔ Q < P := Iff.trans hN pq.2
  have gM : M = true ↔ S < R := Iff.trans hM rs.2
  rw [EE5 k.1 k.2 gN gM]
  refine Iff.trans (b := Q < P ∨ S < R ∨ Q < R ∨ S < P) ?_ ?_
  · clear pq pr ps qr qs rs p1 q1 r1 s1 gN gM hN hM i j
    obtain ⟨⟨_, _, k1⟩, ⟨_, _, k2⟩⟩ := k
    omega
  · clear k hN hM gN gM
    have lpq := lt_le pq
    have lrs := lt_le rs
    have lqr := lt_le qr
    have lps := lt_le ps
    rw [← pq.2, ← rs.2, ← qr.1, ← ps.2]
    clear pq pr ps qr qs rs p1 q1 r1 s1 lpq lrs lqr lps i j
    omega
theorem rless_iff : (ES 1 N P Q M R S n n ∧ ES 4 M R S N P Q n n) ↔ (q < p ∧ s < r ∨ (p ≤ q ∧ r ≤ s) ∧ p ≤ r ∧ q ≤ s) := by
  have k := Ivn.of h i j
  have pi := Vg.PI_pos
  obtain ⟨-, pq, pr, ps, qr, qs, rs, p1, q1, r1, s1⟩ := h
  have gN : N = true ↔ Q < P := Iff.trans hN pq.2
  have gM : M = true ↔ S < R := Iff.trans hM rs.2
  rw [ES1 k.1 k.2 gN gM, ES4 k.2 k.1 gM gN]
  refine Iff.trans (b := Q < P ∧ S < R ∨ (P ≤ Q ∧ R ≤ S) ∧ P ≤ R ∧ Q ≤ S) ?_ ?_
  · clear pq pr ps qr qs rs p1 q1 r1 s1 gN gM hN hM i j
    obtain ⟨⟨_, _, k1⟩, ⟨_, _, k2⟩⟩ := k
    omega
  · clear k hN hM gN gM
    have lpq := lt_le pq
    have lrs := lt_le rs
    have lpr := lt_le pr
    have lqs := lt_le qs
    rw [← pq.2, ← rs.2, ← lpq.1, ← lrs.1, ← lpr.1, ← lqs.1]
theorem rsless_iff : (ES 2 N P Q M R S n n ∧ ES 3 M R S N P Q n n) ↔ (q < p ∧ s < r ∨ (p ≤ q ∧ r ≤ s) ∧ bl p r ∧ bl q s) := by
  have k := Ivn.of h i j
  have pi := Vg.PI_pos
  obtain ⟨-, pq, pr, ps, qr, qs, rs, p1, q1, r1, s1⟩ := h
  have gN : N = true ↔ Q < P := Iff.trans hN pq.2
  have gM : M = true ↔ S < R := Iff.trans hM rs.2
  rw [ES2 k.1 k.2 gN gM, ES3 k.2 k.1 gM gN]
  refine Iff.trans (b := Q < P ∧ S < R ∨ (P ≤ Q ∧ R ≤ S) ∧ (P < R ∨ P = R ∧ P = 0) ∧ (Q < S ∨ Q = S ∧ Q = n)) ?_ ?_
  · clear pq pr ps qr qs rs p1 q1 r1 s1 gN gM hN hM i j
    obtain ⟨⟨_, _, k1⟩, ⟨_, _, k2⟩⟩ := k
    omega
  · clear k hN hM gN gM
    have lpq := lt_le pq
    have lrs := lt_le rs
    have lpr := lt_le pr
    have lqs := lt_le qs
    rw [← pq.2, ← rs.2, ← lpq.1, ← lrs.1, ← pr.1, ← lpr.2.2, ← p1.1, ← qs.1, ← lqs.2.2, ← q1.2]
    clear pq pr ps qr qs rs p1 q1 r1 s1 lpq lrs lpr lqs
    unfold Vg.Iv at i j
    unfold bl
    omega
theorem rprec_iff : (EE 1 N P Q M R S n n) ↔ (q < p ∨ s < r ∨ q ≤ r) := by
  have k := Ivn.of h i j
  have pi := Vg.PI_pos
  obtain ⟨-, pq, pr, ps, qr, qs, rs, p1, q1, r1, s1⟩ := h
  have gN : N = true ↔ Q < P := Iff.trans hN pq.2
  have gM : M = true ↔ S < R := Iff.trans hM rs.2
  rw [EE1 k.1 k.2 gN gM]
  refine Iff.trans (b := Q < P ∨ S < R ∨ Q ≤ R) ?_ ?_
  · clear pq pr ps qr qs rs p1 q1 r1 s1 gN gM hN hM i j
    obtain ⟨⟨_, _, k1⟩, ⟨_, _, k2⟩⟩ := k
    omega
  · clear k hN hM gN gM
    have lpq := lt_le pq
    have lrs := lt_le rs
    have lqr := lt_le qr
    rw [← pq.2, ← rs.2, ← lqr.1]
theorem rsprec_iff : (EE 2 N P Q M R S n n) ↔ (q < p ∨ s < r ∨ q < r) := by
  have k := Ivn.of h i j
  have pi := Vg.PI_pos
  obtain ⟨-, pq, pr, ps, qr, qs, rs, p1, q1, r1, s1⟩ := h
  have gN : N = true ↔ Q < P := Iff.trans hN pq.2
  have gM : M = true ↔ S < R := Iff.trans hM rs.2
  rw [EE2 k.1 k.2 gN gM]
  refine Iff.trans (b := Q < P ∨ S < R ∨ Q < R) ?_ ?_
  · clear pq pr ps qr qs rs p1 q1 r1 s1 gN gM hN hM i j
    obtain ⟨⟨_, _, k1⟩, ⟨_, _, k2⟩⟩ := k
    omega
  · clear k hN hM gN gM
    have lpq := lt_le pq
    have lrs := lt_le rs
    have lqr := lt_le qr
    rw [← pq.2, ← rs.2, ← qr.1]
end

set_option maxRecDepth 20000 in
set_option maxHeartbeats 4000000 in
theorem requal_any (a b c d : Nat) (p q r s : Int) (hx : Vg.Rd a b p q) (hy : Vg.Rd c d r s) (w : World) :
    Calls Try.prog 51 #[.agg #[.int .u64 a, .int .u64 b], .agg #[.int .u64 c, .int .u64 d]] w (TB (p = r ∧ q = s) w) := by
  have HX := hide hx
  have HY := hide hy
  clear hx hy
  go_enter Try.func51, Try.ntmps51
  go_upto_region 1 with fail
  go_cut [5, 6, 7] (fun v5 v6 v7 wx => Below w.heap.size w wx ∧ ∃ (B0 B1 : Nat) (P Q R S n : Int) (N M : Bool), v5 = .pointer (some ⟨B0, 0, none⟩) ∧ v6 = .pointer (some ⟨B1, 0, none⟩) ∧ v7 = .int .i64 n ∧
    wx.cell? ⟨B0, 0, none⟩ = some (.bool N) ∧ wx.cell? ⟨B0, 1, none⟩ = some (.int .i64 P) ∧ wx.cell? ⟨B0, 2, none⟩ = some (.int .i64 Q) ∧ B0 < wx.heap.size ∧
    wx.cell? ⟨B1, 0, none⟩ = some (.bool M) ∧ wx.cell? ⟨B1, 1, none⟩ = some (.int .i64 R) ∧ wx.cell? ⟨B1, 2, none⟩ = some (.int .i64 S) ∧ B1 < wx.heap.size ∧
    Hid (Vg.Rws p q r s P Q R S n) ∧ Fact N (q < p) ∧ Fact M (s < r))
  case first =>
    go_wp2_with fail
    refine (rows_any a b c d p q r s HX.out HY.out _).mono ?_; rintro e w2 ⟨P, Q, R, S, n, N, M, rfl, hr, gN, gM, hb⟩
    have HR := hide hr
    have g := b_two.trans (hb.mono (by simp; omega))
    clear hb hr
    go_wp2_with fail
    go_meet
    refine ⟨(g.alloc g.size _).alloc (by have := g.size; simp; omega) _, _, _, P, Q, R, S, n, N, M, rfl, rfl, rfl, ?_, ?_, ?_, ?_, ?_, ?_, ?_, ?_, HR, gN, gM⟩
    all_goals (simp [go_sem]; try omega)
  case rest =>
  obtain ⟨g, B0, B1, P, Q, R, S, n, N, M, rfl, rfl, rfl, k00, k01, k02, z0, k10, k11, k12, z1, HR, gN, gM⟩ := hcut
  have I := requal_iff HR.out HX.out.iv HY.out.iv gN gM
  have hn : 1 ≤ n ∧ n ≤ 20 := by obtain ⟨⟨_, _, _, _, m, _, _, _, _, e, m1, m2, _⟩, _⟩ := HR.out; omega
  have HN := hide hn
  clear hn gN gM
  obtain ⟨n0, g0⟩ := bool_of (ES 0 N P Q M R S n n)
  have G0 : Fact n0 _ := g0
  obtain ⟨n1, g1⟩ := bool_of (ES 0 M R S N P Q n n)
  have G1 : Fact n1 _ := g1
  have J : Hid ((n0 && n1) = true ↔ p = r ∧ q = s) := hide (by rw [Bool.and_eq_true, g0, g1]; exact I)
  clear g0 g1 I
  cases n0
  all_goals
    go_wp2_with (first | (go_at_call 81; (with_reducible refine ((eachSome_any 0 N P Q M R S n (by decide) HN.out _).mono (fun _ _ h => TB.bool G0 h)).mono ?_); rintro e w' ⟨rfl, hb⟩; have k00 := keep_cell hb z0 k00; have k01 := keep_cell hb z0 k01; have k02 := keep_cell hb z0 k02; have k10 := keep_cell hb z1 k10; have k11 := keep_cell hb z1 k11; have k12 := keep_cell hb z1 k12; have z0 := Nat.lt_of_lt_of_le z0 hb.size; have z1 := Nat.lt_of_lt_of_le z1 hb.size; have g := bch g hb; clear hb) | (go_at_call 81; (with_reducible refine ((eachSome_any 0 M R S N P Q n (by decide) HN.out _).mono (fun _ _ h => TB.bool G1 h)).mono ?_); rintro e w' ⟨rfl, hb⟩; have k00 := keep_cell hb z0 k00; have k01 := keep_cell hb z0 k01; have k02 := keep_cell hb z0 k02; have k10 := keep_cell hb z1 k10; have k11 := keep_cell hb z1 k11; have k12 := keep_cell hb z1 k12; have z0 := Nat.lt_of_lt_of_le z0 hb.size; have z1 := Nat.lt_of_lt_of_le z1 hb.size; have g := bch g hb; clear hb))
    go_ret
    exact ⟨_, rfl, by simpa using J.out, g⟩

set_option maxRecDepth 20000 in
set_option maxHeartbeats 4000000 in
theorem rsubset_any (a b c d : Nat) (p q r s : Int) (hx : Vg.Rd a b p q) (hy : Vg.Rd c d r s) (w : World) :
    Calls Try.prog 52 #[.agg #[.int .u64 a, .int .u64 b], .agg #[.int .u64 c, .int .u64 d]] w (TB (q < p ∨ r ≤ p ∧ q ≤ s) w) := by
  have HX := hide hx
  have HY := hide hy
  clear hx hy
  go_enter Try.func52, Try.ntmps52
  go_upto_region 1 with fail
  go_cut [5, 6, 7] (fun v5 v6 v7 wx => Below w.heap.size w wx ∧ ∃ (B0 B1 : Nat) (P Q R S n : Int) (N M : Bool), v5 = .pointer (some ⟨B0, 0, none⟩) ∧ v6 = .pointer (some ⟨B1, 0, none⟩) ∧ v7 = .int .i64 n ∧
    wx.cell? ⟨B0, 0, none⟩ = some (.bool N) ∧ wx.cell? ⟨B0, 1, none⟩ = some (.int .i64 P) ∧ wx.cell? ⟨B0, 2, none⟩ = some (.int .i64 Q) ∧ B0 < wx.heap.size ∧
    wx.cell? ⟨B1, 0, none⟩ = some (.bool M) ∧ wx.cell? ⟨B1, 1, none⟩ = some (.int .i64 R) ∧ wx.cell? ⟨B1, 2, none⟩ = some (.int .i64 S) ∧ B1 < wx.heap.size ∧
    Hid (Vg.Rws p q r s P Q R S n) ∧ Fact N (q < p) ∧ Fact M (s < r))
  case first =>
    go_wp2_with fail
    refine (rows_any a b c d p q r s HX.out HY.out _).mono ?_; rintro e w2 ⟨P, Q, R, S, n, N, M, rfl, hr, gN, gM, hb⟩
    have HR := hide hr
    have g := b_two.trans (hb.mono (by simp; omega))
    clear hb hr
    go_wp2_with fail
    go_meet
    refine ⟨(g.alloc g.size _).alloc (by have := g.size; simp; omega) _, _, _, P, Q, R, S, n, N, M, rfl, rfl, rfl, ?_, ?_, ?_, ?_, ?_, ?_, ?_, ?_, HR, gN, gM⟩
    all_goals (simp [go_sem]; try omega)
  case rest =>
  obtain ⟨g, B0, B1, P, Q, R, S, n, N, M, rfl, rfl, rfl, k00, k01, k02, z0, k10, k11, k12, z1, HR, gN, gM⟩ := hcut
  have I := rsubset_iff HR.out HX.out.iv HY.out.iv gN gM
  have hn : 1 ≤ n ∧ n ≤ 20 := by obtain ⟨⟨_, _, _, _, m, _, _, _, _, e, m1, m2, _⟩, _⟩ := HR.out; omega
  have HN := hide hn
  clear hn gN gM
  obtain ⟨n0, g0⟩ := bool_of (ES 0 N P Q M R S n n)
  have G0 : Fact n0 _ := g0
  have J := hide (g0.trans I)
  clear g0 I
  go_wp2_with (first | (go_at_call 81; (with_reducible refine ((eachSome_any 0 N P Q M R S n (by decide) HN.out _).mono (fun _ _ h => TB.bool G0 h)).mono ?_); rintro e w' ⟨rfl, hb⟩; have k00 := keep_cell hb z0 k00; have k01 := keep_cell hb z0 k01; have k02 := keep_cell hb z0 k02; have k10 := keep_cell hb z1 k10; have k11 := keep_cell hb z1 k11; have k12 := keep_cell hb z1 k12; have z0 := Nat.lt_of_lt_of_le z0 hb.size; have z1 := Nat.lt_of_lt_of_le z1 hb.size; have g := bch g hb; clear hb))
  go_ret
  exact ⟨_, rfl, J.out, g⟩

set_option maxRecDepth 20000 in
set_option maxHeartbeats 4000000 in
theorem rinterior_any (a b c d : Nat) (p q r s : Int) (hx : Vg.Rd a b p q) (hy : Vg.Rd c d r s) (w : World) :
    Calls Try.prog 54 #[.agg #[.int .u64 a, .int .u64 b], .agg #[.int .u64 c, .int .u64 d]] w (TB (q < p ∨ (p ≤ q ∧ r ≤ s) ∧ bl r p ∧ bl q s) w) := by
  have HX := hide hx
  have HY := hide hy
  clear hx hy
  go_enter Try.func54, Try.ntmps54
  go_upto_region 1 with fail
  go_cut [5, 6, 7] (fun v5 v6 v7 wx => Below w.heap.size w wx ∧ ∃ (B0 B1 : Nat) (P Q R S n : Int) (N M : Bool), v5 = .pointer (some ⟨B0, 0, none⟩) ∧ v6 = .pointer (some ⟨B1, 0, none⟩) ∧ v7 = .int .i64 n ∧
    wx.cell? ⟨B0, 0, none⟩ = some (.bool N) ∧ wx.cell? ⟨B0, 1, none⟩ = some (.int .i64 P) ∧ wx.cell? ⟨B0, 2, none⟩ = some (.int .i64 Q) ∧ B0 < wx.heap.size ∧
    wx.cell? ⟨B1, 0, none⟩ = some (.bool M) ∧ wx.cell? ⟨B1, 1, none⟩ = some (.int .i64 R) ∧ wx.cell? ⟨B1, 2, none⟩ = some (.int .i64 S) ∧ B1 < wx.heap.size ∧
    Hid (Vg.Rws p q r s P Q R S n) ∧ Fact N (q < p) ∧ Fact M (s < r))
  case first =>
    go_wp2_with fail
    refine (rows_any a b c d p q r s HX.out HY.out _).mono ?_; rintro e w2 ⟨P, Q, R, S, n, N, M, rfl, hr, gN, gM, hb⟩
    have HR := hide hr
    have g := b_two.trans (hb.mono (by simp; omega))
    clear hb hr
    go_wp2_with fail
    go_meet
    refine ⟨(g.alloc g.size _).alloc (by have := g.size; simp; omega) _, _, _, P, Q, R, S, n, N, M, rfl, rfl, rfl, ?_, ?_, ?_, ?_, ?_, ?_, ?_, ?_, HR, gN, gM⟩
    all_goals (simp [go_sem]; try omega)
  case rest =>
  obtain ⟨g, B0, B1, P, Q, R, S, n, N, M, rfl, rfl, rfl, k00, k01, k02, z0, k10, k11, k12, z1, HR, gN, gM⟩ := hcut
  have I := rinterior_iff HR.out HX.out.iv HY.out.iv gN gM
  have hn : 1 ≤ n ∧ n ≤ 20 := by obtain ⟨⟨_, _, _, _, m, _, _, _, _, e, m1, m2, _⟩, _⟩ := HR.out; omega
  have HN := hide hn
  clear hn gN gM
  obtain ⟨n0, g0⟩ := bool_of (ES 3 N P Q M R S n n)
  have G0 : Fact n0 _ := g0
  obtain ⟨n1, g1⟩ := bool_of (ES 2 N P Q M R S n n)
  have G1 : Fact n1 _ := g1
  have J : Hid ((n0 && n1) = true ↔ q < p ∨ (p ≤ q ∧ r ≤ s) ∧ bl r p ∧ bl q s) := hide (by rw [Bool.and_eq_true, g0, g1]; exact I)
  clear g0 g1 I
  cases n0
  all_goals
    go_wp2_with (first | (go_at_call 81; (with_reducible refine ((eachSome_any 3 N P Q M R S n (by decide) HN.out _).mono (fun _ _ h => TB.bool G0 h)).mono ?_); rintro e w' ⟨rfl, hb⟩; have k00 := keep_cell hb z0 k00; have k01 := keep_cell hb z0 k01; have k02 := keep_cell hb z0 k02; have k10 := keep_cell hb z1 k10; have k11 := keep_cell hb z1 k11; have k12 := keep_cell hb z1 k12; have z0 := Nat.lt_of_lt_of_le z0 hb.size; have z1 := Nat.lt_of_lt_of_le z1 hb.size; have g := bch g hb; clear hb) | (go_at_call 81; (with_reducible refine ((eachSome_any 2 N P Q M R S n (by decide) HN.out _).mono (fun _ _ h => TB.bool G1 h)).mono ?_); rintro e w' ⟨rfl, hb⟩; have k00 := keep_cell hb z0 k00; have k01 := keep_cell hb z0 k01; have k02 := keep_cell hb z0 k02; have k10 := keep_cell hb z1 k10; have k11 := keep_cell hb z1 k11; have k12 := keep_cell hb z1 k12; have z0 := Nat.lt_of_lt_of_le z0 hb.size; have z1 := Nat.lt_of_lt_of_le z1 hb.size; have g := bch g hb; clear hb))
    go_ret
    exact ⟨_, rfl, by simpa using J.out, g⟩

set_option maxRecDepth 20000 in
set_option maxHeartbeats 4000000 in
theorem rdisjoint_any (a b c d : Nat) (p q r s : Int) (hx : Vg.Rd a b p q) (hy : Vg.Rd c d r s) (w : World) :
    Calls Try.prog 55 #[.agg #[.int .u64 a, .int .u64 b], .agg #[.int .u64 c, .int .u64 d]] w (TB (min q s < max p r) w) := by
  have HX := hide hx
  have HY := hide hy
  clear hx hy
  go_enter Try.func55, Try.ntmps55
  go_upto_region 1 with fail
  go_cut [5, 6, 7] (fun v5 v6 v7 wx => Below w.heap.size w wx ∧ ∃ (B0 B1 : Nat) (P Q R S n : Int) (N M : Bool), v5 = .pointer (some ⟨B0, 0, none⟩) ∧ v6 = .pointer (some ⟨B1, 0, none⟩) ∧ v7 = .int .i64 n ∧
    wx.cell? ⟨B0, 0, none⟩ = some (.bool N) ∧ wx.cell? ⟨B0, 1, none⟩ = some (.int .i64 P) ∧ wx.cell? ⟨B0, 2, none⟩ = some (.int .i64 Q) ∧ B0 < wx.heap.size ∧
    wx.cell? ⟨B1, 0, none⟩ = some (.bool M) ∧ wx.cell? ⟨B1, 1, none⟩ = some (.int .i64 R) ∧ wx.cell? ⟨B1, 2, none⟩ = some (.int .i64 S) ∧ B1 < wx.heap.size ∧
    Hid (Vg.Rws p q r s P Q R S n) ∧ Fact N (q < p) ∧ Fact M (s < r))
  case first =>
    go_wp2_with fail
    refine (rows_any a b c d p q r s HX.out HY.out _).mono ?_; rintro e w2 ⟨P, Q, R, S, n, N, M, rfl, hr, gN, gM, hb⟩
    have HR := hide hr
    have g := b_two.trans (hb.mono (by simp; omega))
    clear hb hr
    go_wp2_with fail
    go_meet
    refine ⟨(g.alloc g.size _).alloc (by have := g.size; simp; omega) _, _, _, P, Q, R, S, n, N, M, rfl, rfl, rfl, ?_, ?_, ?_, ?_, ?_, ?_, ?_, ?_, HR, gN, gM⟩
    all_goals (simp [go_sem]; try omega)
  case rest =>
  obtain ⟨g, B0, B1, P, Q, R, S, n, N, M, rfl, rfl, rfl, k00, k01, k02, z0, k10, k11, k12, z1, HR, gN, gM⟩ := hcut
  have I := rdisjoint_iff HR.out HX.out.iv HY.out.iv gN gM
  have hn : 1 ≤ n ∧ n ≤ 20 := by obtain ⟨⟨_, _, _, _, m, _, _, _, _, e, m1, m2, _⟩, _⟩ := HR.out; omega
  have HN := hide hn
  clear hn gN gM
  obtain ⟨n0, g0⟩ := bool_of (EE 5 N P Q M R S n n)
  have G0 : Fact n0 _ := g0
  have J := hide (g0.trans I)
  clear g0 I
  go_wp2_with (first | (go_at_call 83; (with_reducible refine ((eachEach_any 5 N P Q M R S n (by decide) HN.out _).mono (fun _ _ h => TB.bool G0 h)).mono ?_); rintro e w' ⟨rfl, hb⟩; have k00 := keep_cell hb z0 k00; have k01 := keep_cell hb z0 k01; have k02 := keep_cell hb z0 k02; have k10 := keep_cell hb z1 k10; have k11 := keep_cell hb z1 k11; have k12 := keep_cell hb z1 k12; have z0 := Nat.lt_of_lt_of_le z0 hb.size; have z1 := Nat.lt_of_lt_of_le z1 hb.size; have g := bch g hb; clear hb))
  go_ret
  exact ⟨_, rfl, J.out, g⟩

set_option maxRecDepth 20000 in
set_option maxHeartbeats 4000000 in
theorem rless_any (a b c d : Nat) (p q r s : Int) (hx : Vg.Rd a b p q) (hy : Vg.Rd c d r s) (w : World) :
    Calls Try.prog 44 #[.agg #[.int .u64 a, .int .u64 b], .agg #[.int .u64 c, .int .u64 d]] w (TB (q < p ∧ s < r ∨ (p ≤ q ∧ r ≤ s) ∧ p ≤ r ∧ q ≤ s) w) := by
  have HX := hide hx
  have HY := hide hy
  clear hx hy
  go_enter Try.func44, Try.ntmps44
  go_upto_region 1 with fail
  go_cut [5, 6, 7] (fun v5 v6 v7 wx => Below w.heap.size w wx ∧ ∃ (B0 B1 : Nat) (P Q R S n : Int) (N M : Bool), v5 = .pointer (some ⟨B0, 0, none⟩) ∧ v6 = .pointer (some ⟨B1, 0, none⟩) ∧ v7 = .int .i64 n ∧
    wx.cell? ⟨B0, 0, none⟩ = some (.bool N) ∧ wx.cell? ⟨B0, 1, none⟩ = some (.int .i64 P) ∧ wx.cell? ⟨B0, 2, none⟩ = some (.int .i64 Q) ∧ B0 < wx.heap.size ∧
    wx.cell? ⟨B1, 0, none⟩ = some (.bool M) ∧ wx.cell? ⟨B1, 1, none⟩ = some (.int .i64 R) ∧ wx.cell? ⟨B1, 2, none⟩ = some (.int .i64 S) ∧ B1 < wx.heap.size ∧
    Hid (Vg.Rws p q r s P Q R S n) ∧ Fact N (q < p) ∧ Fact M (s < r))
  case first =>
    go_wp2_with fail
    refine (rows_any a b c d p q r s HX.out HY.out _).mono ?_; rintro e w2 ⟨P, Q, R, S, n, N, M, rfl, hr, gN, gM, hb⟩
    have HR := hide hr
    have g := b_two.trans (hb.mono (by simp; omega))
    clear hb hr
    go_wp2_with fail
    go_meet
    refine ⟨(g.alloc g.size _).alloc (by have := g.size; simp; omega) _, _, _, P, Q, R, S, n, N, M, rfl, rfl, rfl, ?_, ?_, ?_, ?_, ?_, ?_, ?_, ?_, HR, gN, gM⟩
    all_goals (simp [go_sem]; try omega)
  case rest =>
  obtain ⟨g, B0, B1, P, Q, R, S, n, N, M, rfl, rfl, rfl, k00, k01, k02, z0, k10, k11, k12, z1, HR, gN, gM⟩ := hcut
  have I := rless_iff HR.out HX.out.iv HY.out.iv gN gM
  have hn : 1 ≤ n ∧ n ≤ 20 := by obtain ⟨⟨_, _, _, _, m, _, _, _, _, e, m1, m2, _⟩, _⟩ := HR.out; omega
  have HN := hide hn
  clear hn gN gM
  obtain ⟨n0, g0⟩ := bool_of (ES 1 N P Q M R S n n)
  have G0 : Fact n0 _ := g0
  obtain ⟨n1, g1⟩ := bool_of (ES 4 M R S N P Q n n)
  have G1 : Fact n1 _ := g1
  have J : Hid ((n0 && n1) = true ↔ q < p ∧ s < r ∨ (p ≤ q ∧ r ≤ s) ∧ p ≤ r ∧ q ≤ s) := hide (by rw [Bool.and_eq_true, g0, g1]; exact I)
  clear g0 g1 I
  cases n0
  all_goals
    go_wp2_with (first | (go_at_call 81; (with_reducible refine ((eachSome_any 1 N P Q M R S n (by decide) HN.out _).mono (fun _ _ h => TB.bool G0 h)).mono ?_); rintro e w' ⟨rfl, hb⟩; have k00 := keep_cell hb z0 k00; have k01 := keep_cell hb z0 k01; have k02 := keep_cell hb z0 k02; have k10 := keep_cell hb z1 k10; have k11 := keep_cell hb z1 k11; have k12 := keep_cell hb z1 k12; have z0 := Nat.lt_of_lt_of_le z0 hb.size; have z1 := Nat.lt_of_lt_of_le z1 hb.size; have g := bch g hb; clear hb) | (go_at_call 81; (with_reducible refine ((eachSome_any 4 M R S N P Q n (by decide) HN.out _).mono (fun _ _ h => TB.bool G1 h)).mono ?_); rintro e w' ⟨rfl, hb⟩; have k00 := keep_cell hb z0 k00; have k01 := keep_cell hb z0 k01; have k02 := keep_cell hb z0 k02; have k10 := keep_cell hb z1 k10; have k11 := keep_cell hb z1 k11; have k12 := keep_cell hb z1 k12; have z0 := Nat.lt_of_lt_of_le z0 hb.size; have z1 := Nat.lt_of_lt_of_le z1 hb.size; have g := bch g hb; clear hb))
    go_ret
    exact ⟨_, rfl, by simpa using J.out, g⟩

set_option maxRecDepth 20000 in
set_option maxHeartbeats 4000000 in
theorem rsless_any (a b c d : Nat) (p q r s : Int) (hx : Vg.Rd a b p q) (hy : Vg.Rd c d r s) (w : World) :
    Calls Try.prog 46 #[.agg #[.int .u64 a, .int .u64 b], .agg #[.int .u64 c, .int .u64 d]] w (TB (q < p ∧ s < r ∨ (p ≤ q ∧ r ≤ s) ∧ bl p r ∧ bl q s) w) := by
  have HX := hide hx
  have HY := hide hy
  clear hx hy
  go_enter Try.func46, Try.ntmps46
  go_upto_region 1 with fail
  go_cut [5, 6, 7] (fun v5 v6 v7 wx => Below w.heap.size w wx ∧ ∃ (B0 B1 : Nat) (P Q R S n : Int) (N M : Bool), v5 = .pointer (some ⟨B0, 0, none⟩) ∧ v6 = .pointer (some ⟨B1, 0, none⟩) ∧ v7 = .int .i64 n ∧
    wx.cell? ⟨B0, 0, none⟩ = some (.bool N) ∧ wx.cell? ⟨B0, 1, none⟩ = some (.int .i64 P) ∧ wx.cell? ⟨B0, 2, none⟩ = some (.int .i64 Q) ∧ B0 < wx.heap.size ∧
    wx.cell? ⟨B1, 0, none⟩ = some (.bool M) ∧ wx.cell? ⟨B1, 1, none⟩ = some (.int .i64 R) ∧ wx.cell? ⟨B1, 2, none⟩ = some (.int .i64 S) ∧ B1 < wx.heap.size ∧
    Hid (Vg.Rws p q r s P Q R S n) ∧ Fact N (q < p) ∧ Fact M (s < r))
  case first =>
    go_wp2_with fail
    refine (rows_any a b c d p q r s HX.out HY.out _).mono ?_; rintro e w2 ⟨P, Q, R, S, n, N, M, rfl, hr, gN, gM, hb⟩
    have HR := hide hr
    have g := b_two.trans (hb.mono (by simp; omega))
    clear hb hr
    go_wp2_with fail
    go_meet
    refine ⟨(g.alloc g.size _).alloc (by have := g.size; simp; omega) _, _, _, P, Q, R, S, n, N, M, rfl, rfl, rfl, ?_, ?_, ?_, ?_, ?_, ?_, ?_, ?_, HR, gN, gM⟩
    all_goals (simp [go_sem]; try omega)
  case rest =>
  obtain ⟨g, B0, B1, P, Q, R, S, n, N, M, rfl, rfl, rfl, k00, k01, k02, z0, k10, k11, k12, z1, HR, gN, gM⟩ := hcut
  have I := rsless_iff HR.out HX.out.iv HY.out.iv gN gM
  have hn : 1 ≤ n ∧ n ≤ 20 := by obtain ⟨⟨_, _, _, _, m, _, _, _, _, e, m1, m2, _⟩, _⟩ := HR.out; omega
  have HN := hide hn
  clear hn gN gM
  obtain ⟨n0, g0⟩ := bool_of (ES 2 N P Q M R S n n)
  have G0 : Fact n0 _ := g0
  obtain ⟨n1, g1⟩ := bool_of (ES 3 M R S N P Q n n)
  have G1 : Fact n1 _ := g1
  have J : Hid ((n0 && n1) = true ↔ q < p ∧ s < r ∨ (p ≤ q ∧ r ≤ s) ∧ bl p r ∧ bl q s) := hide (by rw [Bool.and_eq_true, g0, g1]; exact I)
  clear g0 g1 I
  cases n0
  all_goals
    go_wp2_with (first | (go_at_call 81; (with_reducible refine ((eachSome_any 2 N P Q M R S n (by decide) HN.out _).mono (fun _ _ h => TB.bool G0 h)).mono ?_); rintro e w' ⟨rfl, hb⟩; have k00 := keep_cell hb z0 k00; have k01 := keep_cell hb z0 k01; have k02 := keep_cell hb z0 k02; have k10 := keep_cell hb z1 k10; have k11 := keep_cell hb z1 k11; have k12 := keep_cell hb z1 k12; have z0 := Nat.lt_of_lt_of_le z0 hb.size; have z1 := Nat.lt_of_lt_of_le z1 hb.size; have g := bch g hb; clear hb) | (go_at_call 81; (with_reducible refine ((eachSome_any 3 M R S N P Q n (by decide) HN.out _).mono (fun _ _ h => TB.bool G1 h)).mono ?_); rintro e w' ⟨rfl, hb⟩; have k00 := keep_cell hb z0 k00; have k01 := keep_cell hb z0 k01; have k02 := keep_cell hb z0 k02; have k10 := keep_cell hb z1 k10; have k11 := keep_cell hb z1 k11; have k12 := keep_cell hb z1 k12; have z0 := Nat.lt_of_lt_of_le z0 hb.size; have z1 := Nat.lt_of_lt_of_le z1 hb.size; have g := bch g hb; clear hb))
    go_ret
    exact ⟨_, rfl, by simpa using J.out, g⟩

set_option maxRecDepth 20000 in
set_option maxHeartbeats 4000000 in
theorem rprec_any (a b c d : Nat) (p q r s : Int) (hx : Vg.Rd a b p q) (hy : Vg.Rd c d r s) (w : World) :
    Calls Try.prog 48 #[.agg #[.int .u64 a, .int .u64 b], .agg #[.int .u64 c, .int .u64 d]] w (TB (q < p ∨ s < r ∨ q ≤ r) w) := by
  have HX := hide hx
  have HY := hide hy
  clear hx hy
  go_enter Try.func48, Try.ntmps48
  go_upto_region 1 with fail
  go_cut [5, 6, 7] (fun v5 v6 v7 wx => Below w.heap.size w wx ∧ ∃ (B0 B1 : Nat) (P Q R S n : Int) (N M : Bool), v5 = .pointer (some ⟨B0, 0, none⟩) ∧ v6 = .pointer (some ⟨B1, 0, none⟩) ∧ v7 = .int .i64 n ∧
    wx.cell? ⟨B0, 0, none⟩ = some (.bool N) ∧ wx.cell? ⟨B0, 1, none⟩ = some (.int .i64 P) ∧ wx.cell? ⟨B0, 2, none⟩ = some (.int .i64 Q) ∧ B0 < wx.heap.size ∧
    wx.cell? ⟨B1, 0, none⟩ = some (.bool M) ∧ wx.cell? ⟨B1, 1, none⟩ = some (.int .i64 R) ∧ wx.cell? ⟨B1, 2, none⟩ = some (.int .i64 S) ∧ B1 < wx.heap.size ∧
    Hid (Vg.Rws p q r s P Q R S n) ∧ Fact N (q < p) ∧ Fact M (s < r))
  case first =>
    go_wp2_with fail
    refine (rows_any a b c d p q r s HX.out HY.out _).mono ?_; rintro e w2 ⟨P, Q, R, S, n, N, M, rfl, hr, gN, gM, hb⟩
    have HR := hide hr
    have g := b_two.trans (hb.mono (by simp; omega))
    clear hb hr
    go_wp2_with fail
    go_meet
    refine ⟨(g.alloc g.size _).alloc (by have := g.size; simp; omega) _, _, _, P, Q, R, S, n, N, M, rfl, rfl, rfl, ?_, ?_, ?_, ?_, ?_, ?_, ?_, ?_, HR, gN, gM⟩
    all_goals (simp [go_sem]; try omega)
  case rest =>
  obtain ⟨g, B0, B1, P, Q, R, S, n, N, M, rfl, rfl, rfl, k00, k01, k02, z0, k10, k11, k12, z1, HR, gN, gM⟩ := hcut
  have I := rprec_iff HR.out HX.out.iv HY.out.iv gN gM
  have hn : 1 ≤ n ∧ n ≤ 20 := by obtain ⟨⟨_, _, _, _, m, _, _, _, _, e, m1, m2, _⟩, _⟩ := HR.out; omega
  have HN := hide hn
  clear hn gN gM
  obtain ⟨n0, g0⟩ := bool_of (EE 1 N P Q M R S n n)
  have G0 : Fact n0 _ := g0
  have J := hide (g0.trans I)
  clear g0 I
  go_wp2_with (first | (go_at_call 83; (with_reducible refine ((eachEach_any 1 N P Q M R S n (by decide) HN.out _).mono (fun _ _ h => TB.bool G0 h)).mono ?_); rintro e w' ⟨rfl, hb⟩; have k00 := keep_cell hb z0 k00; have k01 := keep_cell hb z0 k01; have k02 := keep_cell hb z0 k02; have k10 := keep_cell hb z1 k10; have k11 := keep_cell hb z1 k11; have k12 := keep_cell hb z1 k12; have z0 := Nat.lt_of_lt_of_le z0 hb.size; have z1 := Nat.lt_of_lt_of_le z1 hb.size; have g := bch g hb; clear hb))
  go_ret
  exact ⟨_, rfl, J.out, g⟩

set_option maxRecDepth 20000 in
set_option maxHeartbeats 4000000 in
theorem rsprec_any (a b c d : Nat) (p q r s : Int) (hx : Vg.Rd a b p q) (hy : Vg.Rd c d r s) (w : World) :
    Calls Try.prog 50 #[.agg #[.int .u64 a, .int .u64 b], .agg #[.int .u64 c, .int .u64 d]] w (TB (q < p ∨ s < r ∨ q < r) w) := by
  have HX := hide hx
  have HY := hide hy
  clear hx hy
  go_enter Try.func50, Try.ntmps50
  go_upto_region 1 with fail
  go_cut [5, 6, 7] (fun v5 v6 v7 wx => Below w.heap.size w wx ∧ ∃ (B0 B1 : Nat) (P Q R S n : Int) (N M : Bool), v5 = .pointer (some ⟨B0, 0, none⟩) ∧ v6 = .pointer (some ⟨B1, 0, none⟩) ∧ v7 = .int .i64 n ∧
    wx.cell? ⟨B0, 0, none⟩ = some (.bool N) ∧ wx.cell? ⟨B0, 1, none⟩ = some (.int .i64 P) ∧ wx.cell? ⟨B0, 2, none⟩ = some (.int .i64 Q) ∧ B0 < wx.heap.size ∧
    wx.cell? ⟨B1, 0, none⟩ = some (.bool M) ∧ wx.cell? ⟨B1, 1, none⟩ = some (.int .i64 R) ∧ wx.cell? ⟨B1, 2, none⟩ = some (.int .i64 S) ∧ B1 < wx.heap.size ∧
    Hid (Vg.Rws p q r s P Q R S n) ∧ Fact N (q < p) ∧ Fact M (s < r))
  case first =>
    go_wp2_with fail
    refine (rows_any a b c d p q r s HX.out HY.out _).mono ?_; rintro e w2 ⟨P, Q, R, S, n, N, M, rfl, hr, gN, gM, hb⟩
    have HR := hide hr
    have g := b_two.trans (hb.mono (by simp; omega))
    clear hb hr
    go_wp2_with fail
    go_meet
    refine ⟨(g.alloc g.size _).alloc (by have := g.size; simp; omega) _, _, _, P, Q, R, S, n, N, M, rfl, rfl, rfl, ?_, ?_, ?_, ?_, ?_, ?_, ?_, ?_, HR, gN, gM⟩
    all_goals (simp [go_sem]; try omega)
  case rest =>
  obtain ⟨g, B0, B1, P, Q, R, S, n, N, M, rfl, rfl, rfl, k00, k01, k02, z0, k10, k11, k12, z1, HR, gN, gM⟩ := hcut
  have I := rsprec_iff HR.out HX.out.iv HY.out.iv gN gM
  have hn : 1 ≤ n ∧ n ≤ 20 := by obtain ⟨⟨_, _, _, _, m, _, _, _, _, e, m1, m2, _⟩, _⟩ := HR.out; omega
  have HN := hide hn
  clear hn gN gM
  obtain ⟨n0, g0⟩ := bool_of (EE 2 N P Q M R S n n)
  have G0 : Fact n0 _ := g0
  have J := hide (g0.trans I)
  clear g0 I
  go_wp2_with (first | (go_at_call 83; (with_reducible refine ((eachEach_any 2 N P Q M R S n (by decide) HN.out _).mono (fun _ _ h => TB.bool G0 h)).mono ?_); rintro e w' ⟨rfl, hb⟩; have k00 := keep_cell hb z0 k00; have k01 := keep_cell hb z0 k01; have k02 := keep_cell hb z0 k02; have k10 := keep_cell hb z1 k10; have k11 := keep_cell hb z1 k11; have k12 := keep_cell hb z1 k12; have z0 := Nat.lt_of_lt_of_le z0 hb.size; have z1 := Nat.lt_of_lt_of_le z1 hb.size; have g := bch g hb; clear hb))
  go_ret
  exact ⟨_, rfl, J.out, g⟩
end Go.Proofs.Ytljnadoodbninaa

/- Intersect and Hull are a lattice, of which Subset is the order. The walk. -/
import Derived.Test.YtljnadoodbninaaMLattice
namespace Go.Proofs.Ytljnadoodbninaa.relLattice
open Go.RowKit

theorem meetC {a b c d : Nat} {p q r s x y : Int} (hx : Vg.Rd a b p q) (hy : Vg.Rd c d r s) (hm : Meet p q r s x y) (w : World) : Calls Try.prog 23 #[.agg #[.float .f64 a, .float .f64 b], .agg #[.float .f64 c, .float .f64 d]] w fun e w' => e = .returned (.agg #[.float .f64 (Vg.atn true x), .float .f64 (Vg.atn true y)]) ∧ Below w.heap.size w w' :=
  (meet_any a b c d p q r s hx hy w).mono fun _ _ ⟨x', y', h1, h2, h3⟩ => by
    obtain ⟨rfl, rfl⟩ : x' = x ∧ y' = y := by unfold Meet at hm h2; omega
    exact ⟨h1, h3⟩
theorem joinC {a b c d : Nat} {p q r s x y : Int} (hx : Vg.Rd a b p q) (hy : Vg.Rd c d r s) (hm : Join p q r s x y) (w : World) : Calls Try.prog 20 #[.agg #[.float .f64 a, .float .f64 b], .agg #[.float .f64 c, .float .f64 d]] w fun e w' => e = .returned (.agg #[.float .f64 (Vg.atn true x), .float .f64 (Vg.atn true y)]) ∧ Below w.heap.size w w' :=
  (hull_any a b c d p q r s hx hy w).mono fun _ _ ⟨x', y', h1, h2, h3⟩ => by
    obtain ⟨rfl, rfl⟩ : x' = x ∧ y' = y := by unfold Join at hm h2; omega
    exact ⟨h1, h3⟩
theorem Meet.ex (p q r s : Int) : ∃ x y, Meet p q r s x y := by
  by_cases h : min q s < max p r
  · exact ⟨_, _, .inl ⟨h, rfl, rfl⟩⟩
  · exact ⟨_, _, .inr ⟨by omega, rfl, rfl⟩⟩
theorem Join.ex (p q r s : Int) : ∃ x y, Join p q r s x y := ⟨_, _, rfl, rfl⟩

set_option maxRecDepth 20000 in
set_option maxHeartbeats 8000000 in
theorem walk (a00 a01 a10 a11 a20 a21 : Int) (w00 : (Lit.int .u64 a00).wf = true) (w01 : (Lit.int .u64 a01).wf = true) (w10 : (Lit.int .u64 a10).wf = true) (w11 : (Lit.int .u64 a11).wf = true) (w20 : (Lit.int .u64 a20).wf = true) (w21 : (Lit.int .u64 a21).wf = true) (w : World) :
    Calls Try.prog 9 #[.agg #[.int .u64 a00, .int .u64 a01], .agg #[.int .u64 a10, .int .u64 a11], .agg #[.int .u64 a20, .int .u64 a21]] w fun e w' => e = .returned (.bool true) ∧ Below w.heap.size w w' := by
  obtain ⟨p, q, h0⟩ := Vg.Rd.ex a00.toNat a01.toNat (by have := u64_bd w00; omega) (by have := u64_bd w01; omega)
  have H0 := hide h0
  obtain ⟨r, s, h1⟩ := Vg.Rd.ex a10.toNat a11.toNat (by have := u64_bd w10; omega) (by have := u64_bd w11; omega)
  have H1 := hide h1
  obtain ⟨t, u, h2⟩ := Vg.Rd.ex a20.toNat a21.toNat (by have := u64_bd w20; omega) (by have := u64_bd w21; omega)
  have H2 := hide h2
  have I := hide (show Vg.Iv p q ∧ Vg.Iv r s ∧ Vg.Iv t u from ⟨h0.iv, h1.iv, h2.iv⟩)
  clear h0 h1 h2 w00 w01 w10 w11 w20 w21
  have hst := sto
  obtain ⟨X0, e0⟩ : ∃ n, a00.toNat = n := ⟨_, rfl⟩
  obtain ⟨Y0, f0⟩ : ∃ n, a01.toNat = n := ⟨_, rfl⟩
  rw [e0, f0] at H0
  have N0 := fun w => in_any a00 a01 w
  rw [e0, f0] at N0
  clear e0 f0
  obtain ⟨X1, e1⟩ : ∃ n, a10.toNat = n := ⟨_, rfl⟩
  obtain ⟨Y1, f1⟩ : ∃ n, a11.toNat = n := ⟨_, rfl⟩
  rw [e1, f1] at H1
  have N1 := fun w => in_any a10 a11 w
  rw [e1, f1] at N1
  clear e1 f1
  obtain ⟨X2, e2⟩ : ∃ n, a20.toNat = n := ⟨_, rfl⟩
  obtain ⟨Y2, f2⟩ : ∃ n, a21.toNat = n := ⟨_, rfl⟩
  rw [e2, f2] at H2
  have N2 := fun w => in_any a20 a21 w
  rw [e2, f2] at N2
  clear e2 f2
  obtain ⟨i1, i2, hi⟩ := Meet.ex p q r s
  obtain ⟨h1, h2, hh⟩ := Join.ex p q r s
  have Ii := hi.iv I.out.1 I.out.2.1
  have Ih := hh.iv I.out.1 I.out.2.1
  obtain ⟨m1, m2, hm⟩ := Meet.ex i1 i2 t u
  obtain ⟨y1, y2, hy⟩ := Meet.ex r s t u
  obtain ⟨l1, l2, hl⟩ := Join.ex h1 h2 t u
  obtain ⟨x1, x2, hx⟩ := Join.ex r s t u
  have Iy := hy.iv I.out.2.1 I.out.2.2
  have Ix := hx.iv I.out.2.1 I.out.2.2
  have Im := hm.iv Ii I.out.2.2
  have Il := hl.iv Ih I.out.2.2
  have F1 := meet_comm hi
  have F2 := join_comm hh
  have F3 := meet_assoc I.out.1 I.out.2.1 I.out.2.2 hi hm hy
  have F4 := join_assoc hh hl hx
  have F5 := meet_self I.out.1
  have F6 := join_self p q
  have F7 := meet_join I.out.1 I.out.2.1 hh
  have F8 := join_meet I.out.1 I.out.2.1 hi
  have F9 := join_self r s
  have Ri := Vg.Rd.self Ii
  have Rh := Vg.Rd.self Ih
  have Ry := Vg.Rd.self Iy
  have Rx := Vg.Rd.self Ix
  obtain ⟨nuab, guab⟩ := bool_of (q < p ∨ r ≤ p ∧ q ≤ s)
  obtain ⟨nubc, gubc⟩ := bool_of (s < r ∨ t ≤ r ∧ s ≤ u)
  obtain ⟨nuac, guac⟩ := bool_of (q < p ∨ t ≤ p ∧ q ≤ u)
  obtain ⟨nqab, gqab⟩ := bool_of (p = r ∧ q = s)
  obtain ⟨ndab, gdab⟩ := bool_of (min q s < max p r)
  have Guab : Fact nuab _ := guab
  have Gubc : Fact nubc _ := gubc
  have Guac : Fact nuac _ := guac
  have Gqab : Fact nqab _ := gqab
  have Gdab : Fact ndab _ := gdab
  have Gei : Fact ndab (i2 < i1) := gdab.trans (dis_meet hi).symm
  have P := hide (show (Vg.Pl p ∧ Vg.Pl q) ∧ Vg.Pl r ∧ Vg.Pl s from ⟨⟨I.out.1.lo, I.out.1.hi⟩, I.out.2.1.lo, I.out.2.1.hi⟩)
  have E1 := eqPlaces Ii.lo Ii.hi Ii.lo Ii.hi true (by simp)
  have E2 := eqPlaces Ih.lo Ih.hi Ih.lo Ih.hi true (by simp)
  have E3 := eqPlaces Im.lo Im.hi Im.lo Im.hi true (by simp)
  have E4 := eqPlaces Il.lo Il.hi Il.lo Il.hi true (by simp)
  have E5 := eqPlaces P.out.1.1 P.out.1.2 P.out.1.1 P.out.1.2 true (by simp)
  have E6 := eqPlaces Ii.lo Ii.hi P.out.1.1 P.out.1.2 nuab (dec_of (guab.trans (sub_meet I.out.1 I.out.2.1 hi).symm))
  have E7 := eqPlaces Ih.lo Ih.hi P.out.2.1 P.out.2.2 nuab (dec_of (guab.trans (sub_join I.out.1 I.out.2.1 hh).symm))
  have E8 := eqPlaces P.out.1.1 P.out.1.2 P.out.2.1 P.out.2.2 nqab (dec_of gqab)
  have hmg : Try.prog.eqGuardType Try.prog.depth 28 = false := by kernel_rfl
  have W1 : nuab = false ∨ nuab = true ∧ nubc = false ∨ nuab = true ∧ nubc = true ∧ nuac = true := by
    cases nuab
    · exact .inl rfl
    · cases nubc
      · exact .inr (.inl ⟨rfl, rfl⟩)
      · have f1 := guab.1 rfl
        have f2 := gubc.1 rfl
        have i0 := I.out
        unfold Vg.Iv at i0
        exact .inr (.inr ⟨rfl, rfl, guac.2 (by omega)⟩)
  have ZW := hide W1
  clear W1 guab gubc guac gqab gdab
  go_enter Try.func9, Try.ntmps9
  go_wp2_with fail
  refine (awake_any _).mono ?_; rintro e w1 ⟨rfl, hb1⟩
  have m00 : w1.cell? ⟨w.heap.size, 0, none⟩ = some (.int .u64 a00) := keep_cell hb1 (by first | (simp; done) | (simp; omega)) (by simp [go_sem])
  have m01 : w1.cell? ⟨w.heap.size, 1, none⟩ = some (.int .u64 a01) := keep_cell hb1 (by first | (simp; done) | (simp; omega)) (by simp [go_sem])
  have m10 : w1.cell? ⟨w.heap.size + 1, 0, none⟩ = some (.int .u64 a10) := keep_cell hb1 (by first | (simp; done) | (simp; omega)) (by simp [go_sem])
  have m11 : w1.cell? ⟨w.heap.size + 1, 1, none⟩ = some (.int .u64 a11) := keep_cell hb1 (by first | (simp; done) | (simp; omega)) (by simp [go_sem])
  have m20 : w1.cell? ⟨w.heap.size + 1 + 1, 0, none⟩ = some (.int .u64 a20) := keep_cell hb1 (by first | (simp; done) | (simp; omega)) (by simp [go_sem])
  have m21 : w1.cell? ⟨w.heap.size + 1 + 1, 1, none⟩ = some (.int .u64 a21) := keep_cell hb1 (by first | (simp; done) | (simp; omega)) (by simp [go_sem])
  have z : w.heap.size + 2 < w1.heap.size := by have := hb1.size; simp at this; omega
  have g : Below w.heap.size w w1 := b_three.trans (hb1.mono (by simp <;> omega))
  clear hb1
  go_upto_region 3 with fail
  go_cut [7] (fun v wx => Below w.heap.size w wx ∧ wx.cell? ⟨w.heap.size + 1, 0, none⟩ = some (.int .u64 a10) ∧ wx.cell? ⟨w.heap.size + 1, 1, none⟩ = some (.int .u64 a11) ∧ wx.cell? ⟨w.heap.size + 1 + 1, 0, none⟩ = some (.int .u64 a20) ∧ wx.cell? ⟨w.heap.size + 1 + 1, 1, none⟩ = some (.int .u64 a21) ∧ w.heap.size + 2 < wx.heap.size ∧ (∃ B : Nat, v = .pointer (some ⟨B, 0, none⟩) ∧ wx.cell? ⟨B, 0, none⟩ = some (.float .f64 X0) ∧ wx.cell? ⟨B, 1, none⟩ = some (.float .f64 Y0) ∧ B < wx.heap.size))
  case first =>
    go_wp2_with fail
    refine (N0 _).mono ?_; rintro e w2 ⟨rfl, hb2⟩
    have m10 := keep_cell hb2 (by dsimp only <;> omega) m10
    have m11 := keep_cell hb2 (by dsimp only <;> omega) m11
    have m20 := keep_cell hb2 (by dsimp only <;> omega) m20
    have m21 := keep_cell hb2 (by dsimp only <;> omega) m21
    have z := Nat.lt_of_lt_of_le z hb2.size
    have g := bch g hb2
    clear hb2
    go_wp2_with fail
    go_meet
    refine ⟨?_, ?_, ?_, ?_, ?_, ?_, _, rfl, ?_, ?_, ?_⟩
    all_goals first | exact keep_cell b_one (by dsimp only <;> omega) (by assumption) | (simp [go_sem, *]; done) | exact g.alloc g.size _ | (simp; omega)
  case rest =>
  clear N0
  clear m00
  clear m01
  clear m10
  clear m11
  clear m20
  clear m21
  clear z
  clear g
  obtain ⟨g, m10, m11, m20, m21, z, B0, rfl, k00, k01, z0⟩ := hcut
  go_upto_region 4 with fail
  go_cut [8] (fun v wx => Below w.heap.size w wx ∧ wx.cell? ⟨w.heap.size + 1 + 1, 0, none⟩ = some (.int .u64 a20) ∧ wx.cell? ⟨w.heap.size + 1 + 1, 1, none⟩ = some (.int .u64 a21) ∧ w.heap.size + 2 < wx.heap.size ∧ wx.cell? ⟨B0, 0, none⟩ = some (.float .f64 X0) ∧ wx.cell? ⟨B0, 1, none⟩ = some (.float .f64 Y0) ∧ B0 < wx.heap.size ∧ (∃ B : Nat, v = .pointer (some ⟨B, 0, none⟩) ∧ wx.cell? ⟨B, 0, none⟩ = some (.float .f64 X1) ∧ wx.cell? ⟨B, 1, none⟩ = some (.float .f64 Y1) ∧ B < wx.heap.size))
  case first =>
    go_wp2_with fail
    refine (N1 _).mono ?_; rintro e w2 ⟨rfl, hb2⟩
    have m20 := keep_cell hb2 (by dsimp only <;> omega) m20
    have m21 := keep_cell hb2 (by dsimp only <;> omega) m21
    have k00 := keep_cell hb2 z0 k00
    have k01 := keep_cell hb2 z0 k01
    have z0 := Nat.lt_of_lt_of_le z0 hb2.size
    have z := Nat.lt_of_lt_of_le z hb2.size
    have g := bch g hb2
    clear hb2
    go_wp2_with fail
    go_meet
    refine ⟨?_, ?_, ?_, ?_, ?_, ?_, ?_, _, rfl, ?_, ?_, ?_⟩
    all_goals first | exact keep_cell b_one (by dsimp only <;> omega) (by assumption) | (simp [go_sem, *]; done) | exact g.alloc g.size _ | (simp; omega)
  case rest =>
  clear N1
  clear m10
  clear m11
  clear m20
  clear m21
  clear z
  clear g
  clear k00
  clear k01
  clear z0
  obtain ⟨g, m20, m21, z, k00, k01, z0, B1, rfl, k10, k11, z1⟩ := hcut
  go_upto_region 5 with fail
  go_cut [9] (fun v wx => Below w.heap.size w wx ∧ wx.cell? ⟨B0, 0, none⟩ = some (.float .f64 X0) ∧ wx.cell? ⟨B0, 1, none⟩ = some (.float .f64 Y0) ∧ B0 < wx.heap.size ∧ wx.cell? ⟨B1, 0, none⟩ = some (.float .f64 X1) ∧ wx.cell? ⟨B1, 1, none⟩ = some (.float .f64 Y1) ∧ B1 < wx.heap.size ∧ (∃ B : Nat, v = .pointer (some ⟨B, 0, none⟩) ∧ wx.cell? ⟨B, 0, none⟩ = some (.float .f64 X2) ∧ wx.cell? ⟨B, 1, none⟩ = some (.float .f64 Y2) ∧ B < wx.heap.size))
  case first =>
    go_wp2_with fail
    refine (N2 _).mono ?_; rintro e w2 ⟨rfl, hb2⟩
    have k00 := keep_cell hb2 z0 k00
    have k01 := keep_cell hb2 z0 k01
    have z0 := Nat.lt_of_lt_of_le z0 hb2.size
    have k10 := keep_cell hb2 z1 k10
    have k11 := keep_cell hb2 z1 k11
    have z1 := Nat.lt_of_lt_of_le z1 hb2.size
    have g := bch g hb2
    clear hb2
    go_wp2_with fail
    go_meet
    refine ⟨?_, ?_, ?_, ?_, ?_, ?_, ?_, _, rfl, ?_, ?_, ?_⟩
    all_goals first | exact keep_cell b_one (by dsimp only <;> omega) (by assumption) | (simp [go_sem, *]; done) | exact g.alloc g.size _ | (simp; omega)
  case rest =>
  clear N2
  clear m20
  clear m21
  clear z
  clear g
  clear k00
  clear k01
  clear z0
  clear k10
  clear k11
  clear z1
  obtain ⟨g, k00, k01, z0, k10, k11, z1, B2, rfl, k20, k21, z2⟩ := hcut
  go_upto_region 6 with fail
  go_cut [10] (fun v wx => wx.cell? ⟨B0, 0, none⟩ = some (.float .f64 X0) ∧ wx.cell? ⟨B0, 1, none⟩ = some (.float .f64 Y0) ∧ B0 < wx.heap.size ∧ wx.cell? ⟨B1, 0, none⟩ = some (.float .f64 X1) ∧ wx.cell? ⟨B1, 1, none⟩ = some (.float .f64 Y1) ∧ B1 < wx.heap.size ∧ wx.cell? ⟨B2, 0, none⟩ = some (.float .f64 X2) ∧ wx.cell? ⟨B2, 1, none⟩ = some (.float .f64 Y2) ∧ B2 < wx.heap.size ∧ Below w.heap.size w wx ∧ ∃ B : Nat, v = .pointer (some ⟨B, 0, none⟩) ∧ wx.cell? ⟨B, 0, none⟩ = some (.float .f64 (Vg.atn true i1)) ∧ wx.cell? ⟨B, 1, none⟩ = some (.float .f64 (Vg.atn true i2)) ∧ B < wx.heap.size)
  case first =>
    go_wp2_with fail
    refine (meetC H0.out H1.out hi _).mono ?_; rintro e w' ⟨rfl, hb⟩
    have k00 := keep_cell hb z0 k00
    have k01 := keep_cell hb z0 k01
    have k10 := keep_cell hb z1 k10
    have k11 := keep_cell hb z1 k11
    have k20 := keep_cell hb z2 k20
    have k21 := keep_cell hb z2 k21
    have z0 := Nat.lt_of_lt_of_le z0 hb.size
    have z1 := Nat.lt_of_lt_of_le z1 hb.size
    have z2 := Nat.lt_of_lt_of_le z2 hb.size
    have g := (by first | exact bch g hb | exact bch g.drew hb)
    clear hb
    go_wp2_with fail
    go_meet
    refine ⟨?_, ?_, ?_, ?_, ?_, ?_, ?_, ?_, ?_, ?_, _, rfl, ?_, ?_, ?_⟩
    all_goals first | exact keep_cell b_one (by dsimp only <;> omega) (by assumption) | (simp [go_sem, *]; done) | exact g.alloc g.size _ | (simp; omega)
  case rest =>
  clear k00 k01 z0 k10 k11 z1 k20 k21 z2 g
  obtain ⟨k00, k01, z0, k10, k11, z1, k20, k21, z2, g, B3, rfl, k30, k31, z3⟩ := hcut
  go_upto_region 7 with fail
  go_cut [11] (fun v wx => wx.cell? ⟨B0, 0, none⟩ = some (.float .f64 X0) ∧ wx.cell? ⟨B0, 1, none⟩ = some (.float .f64 Y0) ∧ B0 < wx.heap.size ∧ wx.cell? ⟨B1, 0, none⟩ = some (.float .f64 X1) ∧ wx.cell? ⟨B1, 1, none⟩ = some (.float .f64 Y1) ∧ B1 < wx.heap.size ∧ wx.cell? ⟨B2, 0, none⟩ = some (.float .f64 X2) ∧ wx.cell? ⟨B2, 1, none⟩ = some (.float .f64 Y2) ∧ B2 < wx.heap.size ∧ wx.cell? ⟨B3, 0, none⟩ = some (.float .f64 (Vg.atn true i1)) ∧ wx.cell? ⟨B3, 1, none⟩ = some (.float .f64 (Vg.atn true i2)) ∧ B3 < wx.heap.size ∧ Below w.heap.size w wx ∧ ∃ B : Nat, v = .pointer (some ⟨B, 0, none⟩) ∧ wx.cell? ⟨B, 0, none⟩ = some (.float .f64 (Vg.atn true h1)) ∧ wx.cell? ⟨B, 1, none⟩ = some (.float .f64 (Vg.atn true h2)) ∧ B < wx.heap.size)
  case first =>
    go_wp2_with fail
    refine (joinC H0.out H1.out hh _).mono ?_; rintro e w' ⟨rfl, hb⟩
    have k00 := keep_cell hb z0 k00
    have k01 := keep_cell hb z0 k01
    have k10 := keep_cell hb z1 k10
    have k11 := keep_cell hb z1 k11
    have k20 := keep_cell hb z2 k20
    have k21 := keep_cell hb z2 k21
    have k30 := keep_cell hb z3 k30
    have k31 := keep_cell hb z3 k31
    have z0 := Nat.lt_of_lt_of_le z0 hb.size
    have z1 := Nat.lt_of_lt_of_le z1 hb.size
    have z2 := Nat.lt_of_lt_of_le z2 hb.size
    have z3 := Nat.lt_of_lt_of_le z3 hb.size
    have g := (by first | exact bch g hb | exact bch g.drew hb)
    clear hb
    go_wp2_with fail
    go_meet
    refine ⟨?_, ?_, ?_, ?_, ?_, ?_, ?_, ?_, ?_, ?_, ?_, ?_, ?_, _, rfl, ?_, ?_, ?_⟩
    all_goals first | exact keep_cell b_one (by dsimp only <;> omega) (by assumption) | (simp [go_sem, *]; done) | exact g.alloc g.size _ | (simp; omega)
  case rest =>
  clear k00 k01 z0 k10 k11 z1 k20 k21 z2 k30 k31 z3 g
  obtain ⟨k00, k01, z0, k10, k11, z1, k20, k21, z2, k30, k31, z3, g, B4, rfl, k40, k41, z4⟩ := hcut
  go_upto_region 8 with fail
  go_cut [61] (fun v wx => v = .bool false ∧ wx.cell? ⟨B0, 0, none⟩ = some (.float .f64 X0) ∧ wx.cell? ⟨B0, 1, none⟩ = some (.float .f64 Y0) ∧ B0 < wx.heap.size ∧ wx.cell? ⟨B1, 0, none⟩ = some (.float .f64 X1) ∧ wx.cell? ⟨B1, 1, none⟩ = some (.float .f64 Y1) ∧ B1 < wx.heap.size ∧ wx.cell? ⟨B2, 0, none⟩ = some (.float .f64 X2) ∧ wx.cell? ⟨B2, 1, none⟩ = some (.float .f64 Y2) ∧ B2 < wx.heap.size ∧ wx.cell? ⟨B3, 0, none⟩ = some (.float .f64 (Vg.atn true i1)) ∧ wx.cell? ⟨B3, 1, none⟩ = some (.float .f64 (Vg.atn true i2)) ∧ B3 < wx.heap.size ∧ wx.cell? ⟨B4, 0, none⟩ = some (.float .f64 (Vg.atn true h1)) ∧ wx.cell? ⟨B4, 1, none⟩ = some (.float .f64 (Vg.atn true h2)) ∧ B4 < wx.heap.size ∧ Below w.heap.size w wx)
  case first =>
    go_region_held3 (fun wx => wx.cell? ⟨B0, 0, none⟩ = some (.float .f64 X0) ∧ wx.cell? ⟨B0, 1, none⟩ = some (.float .f64 Y0) ∧ B0 < wx.heap.size ∧ wx.cell? ⟨B1, 0, none⟩ = some (.float .f64 X1) ∧ wx.cell? ⟨B1, 1, none⟩ = some (.float .f64 Y1) ∧ B1 < wx.heap.size ∧ wx.cell? ⟨B2, 0, none⟩ = some (.float .f64 X2) ∧ wx.cell? ⟨B2, 1, none⟩ = some (.float .f64 Y2) ∧ B2 < wx.heap.size ∧ wx.cell? ⟨B3, 0, none⟩ = some (.float .f64 (Vg.atn true i1)) ∧ wx.cell? ⟨B3, 1, none⟩ = some (.float .f64 (Vg.atn true i2)) ∧ B3 < wx.heap.size ∧ wx.cell? ⟨B4, 0, none⟩ = some (.float .f64 (Vg.atn true h1)) ∧ wx.cell? ⟨B4, 1, none⟩ = some (.float .f64 (Vg.atn true h2)) ∧ B4 < wx.heap.size ∧ Below w.heap.size w wx)
      (((try dsimp only); (repeat' apply And.intro) <;> first | assumption | (simp [*]; done) | exact Below.drew (by assumption) | exact keep_cell hb1 (by first | (dsimp only; omega) | (simp; omega)) (by simp [*]) | (have := hb1.size; omega) | (have := hb1.size; simp at this; omega) | exact bch (by simp [*]) hb1 | exact bch (Below.drew (by simp [*])) hb1))
      (first | (go_at_call 23; first | ((with_reducible refine (meetC H1.out H0.out F1 _).mono ?_); rintro e w' ⟨rfl, hb1⟩) | ((with_reducible refine (meetC Ri H2.out hm _).mono ?_); rintro e w' ⟨rfl, hb1⟩) | ((with_reducible refine (meetC H1.out H2.out hy _).mono ?_); rintro e w' ⟨rfl, hb1⟩) | ((with_reducible refine (meetC H0.out Ry F3 _).mono ?_); rintro e w' ⟨rfl, hb1⟩)) | (go_at_call 20; first | ((with_reducible refine (joinC H1.out H0.out F2 _).mono ?_); rintro e w' ⟨rfl, hb1⟩) | ((with_reducible refine (joinC Rh H2.out hl _).mono ?_); rintro e w' ⟨rfl, hb1⟩) | ((with_reducible refine (joinC H1.out H2.out hx _).mono ?_); rintro e w' ⟨rfl, hb1⟩) | ((with_reducible refine (joinC H0.out Rx F4 _).mono ?_); rintro e w' ⟨rfl, hb1⟩)))
    go_wp2_with fail
    go_meet
    exact ⟨rfl, by assumption⟩
  case rest =>
  clear k00 k01 z0 k10 k11 z1 k20 k21 z2 k30 k31 z3 k40 k41 z4 g
  obtain ⟨rfl, k00, k01, z0, k10, k11, z1, k20, k21, z2, k30, k31, z3, k40, k41, z4, g⟩ := hcut
  clear E1 E2 E3 E4 F1 F2 F3 F4 hm hy hl hx
  go_upto_region 10 with fail
  go_cut [12] (fun v wx => wx.cell? ⟨B0, 0, none⟩ = some (.float .f64 X0) ∧ wx.cell? ⟨B0, 1, none⟩ = some (.float .f64 Y0) ∧ B0 < wx.heap.size ∧ wx.cell? ⟨B1, 0, none⟩ = some (.float .f64 X1) ∧ wx.cell? ⟨B1, 1, none⟩ = some (.float .f64 Y1) ∧ B1 < wx.heap.size ∧ wx.cell? ⟨B2, 0, none⟩ = some (.float .f64 X2) ∧ wx.cell? ⟨B2, 1, none⟩ = some (.float .f64 Y2) ∧ B2 < wx.heap.size ∧ wx.cell? ⟨B3, 0, none⟩ = some (.float .f64 (Vg.atn true i1)) ∧ wx.cell? ⟨B3, 1, none⟩ = some (.float .f64 (Vg.atn true i2)) ∧ B3 < wx.heap.size ∧ wx.cell? ⟨B4, 0, none⟩ = some (.float .f64 (Vg.atn true h1)) ∧ wx.cell? ⟨B4, 1, none⟩ = some (.float .f64 (Vg.atn true h2)) ∧ B4 < wx.heap.size ∧ Below w.heap.size w wx ∧ ∃ B : Nat, v = .pointer (some ⟨B, 0, none⟩) ∧ wx.cell? ⟨B, 0, none⟩ = some (.float .f64 (Vg.atn true p)) ∧ wx.cell? ⟨B, 1, none⟩ = some (.float .f64 (Vg.atn true q)) ∧ B < wx.heap.size)
  case first =>
    go_wp2_with fail
    refine (meetC H0.out H0.out F5 _).mono ?_; rintro e w' ⟨rfl, hb⟩
    have k00 := keep_cell hb z0 k00
    have k01 := keep_cell hb z0 k01
    have k10 := keep_cell hb z1 k10
    have k11 := keep_cell hb z1 k11
    have k20 := keep_cell hb z2 k20
    have k21 := keep_cell hb z2 k21
    have k30 := keep_cell hb z3 k30
    have k31 := keep_cell hb z3 k31
    have k40 := keep_cell hb z4 k40
    have k41 := keep_cell hb z4 k41
    have z0 := Nat.lt_of_lt_of_le z0 hb.size
    have z1 := Nat.lt_of_lt_of_le z1 hb.size
    have z2 := Nat.lt_of_lt_of_le z2 hb.size
    have z3 := Nat.lt_of_lt_of_le z3 hb.size
    have z4 := Nat.lt_of_lt_of_le z4 hb.size
    have g := (by first | exact bch g hb | exact bch g.drew hb)
    clear hb
    go_wp2_with fail
    go_meet
    refine ⟨?_, ?_, ?_, ?_, ?_, ?_, ?_, ?_, ?_, ?_, ?_, ?_, ?_, ?_, ?_, ?_, _, rfl, ?_, ?_, ?_⟩
    all_goals first | exact keep_cell b_one (by dsimp only <;> omega) (by assumption) | (simp [go_sem, *]; done) | exact g.alloc g.size _ | (simp; omega)
  case rest =>
  clear k00 k01 z0 k10 k11 z1 k20 k21 z2 k30 k31 z3 k40 k41 z4 g
  obtain ⟨k00, k01, z0, k10, k11, z1, k20, k21, z2, k30, k31, z3, k40, k41, z4, g, B5, rfl, k50, k51, z5⟩ := hcut
  go_upto_region 11 with fail
  go_cut [13] (fun v wx => wx.cell? ⟨B0, 0, none⟩ = some (.float .f64 X0) ∧ wx.cell? ⟨B0, 1, none⟩ = some (.float .f64 Y0) ∧ B0 < wx.heap.size ∧ wx.cell? ⟨B1, 0, none⟩ = some (.float .f64 X1) ∧ wx.cell? ⟨B1, 1, none⟩ = some (.float .f64 Y1) ∧ B1 < wx.heap.size ∧ wx.cell? ⟨B2, 0, none⟩ = some (.float .f64 X2) ∧ wx.cell? ⟨B2, 1, none⟩ = some (.float .f64 Y2) ∧ B2 < wx.heap.size ∧ wx.cell? ⟨B3, 0, none⟩ = some (.float .f64 (Vg.atn true i1)) ∧ wx.cell? ⟨B3, 1, none⟩ = some (.float .f64 (Vg.atn true i2)) ∧ B3 < wx.heap.size ∧ wx.cell? ⟨B4, 0, none⟩ = some (.float .f64 (Vg.atn true h1)) ∧ wx.cell? ⟨B4, 1, none⟩ = some (.float .f64 (Vg.atn true h2)) ∧ B4 < wx.heap.size ∧ wx.cell? ⟨B5, 0, none⟩ = some (.float .f64 (Vg.atn true p)) ∧ wx.cell? ⟨B5, 1, none⟩ = some (.float .f64 (Vg.atn true q)) ∧ B5 < wx.heap.size ∧ Below w.heap.size w wx ∧ ∃ B : Nat, v = .pointer (some ⟨B, 0, none⟩) ∧ wx.cell? ⟨B, 0, none⟩ = some (.float .f64 (Vg.atn true r)) ∧ wx.cell? ⟨B, 1, none⟩ = some (.float .f64 (Vg.atn true s)) ∧ B < wx.heap.size)
  case first =>
    go_wp2_with fail
    refine (joinC H1.out H1.out F9 _).mono ?_; rintro e w' ⟨rfl, hb⟩
    have k00 := keep_cell hb z0 k00
    have k01 := keep_cell hb z0 k01
    have k10 := keep_cell hb z1 k10
    have k11 := keep_cell hb z1 k11
    have k20 := keep_cell hb z2 k20
    have k21 := keep_cell hb z2 k21
    have k30 := keep_cell hb z3 k30
    have k31 := keep_cell hb z3 k31
    have k40 := keep_cell hb z4 k40
    have k41 := keep_cell hb z4 k41
    have k50 := keep_cell hb z5 k50
    have k51 := keep_cell hb z5 k51
    have z0 := Nat.lt_of_lt_of_le z0 hb.size
    have z1 := Nat.lt_of_lt_of_le z1 hb.size
    have z2 := Nat.lt_of_lt_of_le z2 hb.size
    have z3 := Nat.lt_of_lt_of_le z3 hb.size
    have z4 := Nat.lt_of_lt_of_le z4 hb.size
    have z5 := Nat.lt_of_lt_of_le z5 hb.size
    have g := (by first | exact bch g hb | exact bch g.drew hb)
    clear hb
    go_wp2_with fail
    go_meet
    refine ⟨?_, ?_, ?_, ?_, ?_, ?_, ?_, ?_, ?_, ?_, ?_, ?_, ?_, ?_, ?_, ?_, ?_, ?_, ?_, _, rfl, ?_, ?_, ?_⟩
    all_goals first | exact keep_cell b_one (by dsimp only <;> omega) (by assumption) | (simp [go_sem, *]; done) | exact g.alloc g.size _ | (simp; omega)
  case rest =>
  clear k00 k01 z0 k10 k11 z1 k20 k21 z2 k30 k31 z3 k40 k41 z4 k50 k51 z5 g
  obtain ⟨k00, k01, z0, k10, k11, z1, k20, k21, z2, k30, k31, z3, k40, k41, z4, k50, k51, z5, g, B6, rfl, k60, k61, z6⟩ := hcut
  go_upto_region 12 with fail
  go_cut [86] (fun v wx => v = .bool false ∧ wx.cell? ⟨B0, 0, none⟩ = some (.float .f64 X0) ∧ wx.cell? ⟨B0, 1, none⟩ = some (.float .f64 Y0) ∧ B0 < wx.heap.size ∧ wx.cell? ⟨B1, 0, none⟩ = some (.float .f64 X1) ∧ wx.cell? ⟨B1, 1, none⟩ = some (.float .f64 Y1) ∧ B1 < wx.heap.size ∧ wx.cell? ⟨B2, 0, none⟩ = some (.float .f64 X2) ∧ wx.cell? ⟨B2, 1, none⟩ = some (.float .f64 Y2) ∧ B2 < wx.heap.size ∧ wx.cell? ⟨B3, 0, none⟩ = some (.float .f64 (Vg.atn true i1)) ∧ wx.cell? ⟨B3, 1, none⟩ = some (.float .f64 (Vg.atn true i2)) ∧ B3 < wx.heap.size ∧ wx.cell? ⟨B4, 0, none⟩ = some (.float .f64 (Vg.atn true h1)) ∧ wx.cell? ⟨B4, 1, none⟩ = some (.float .f64 (Vg.atn true h2)) ∧ B4 < wx.heap.size ∧ wx.cell? ⟨B5, 0, none⟩ = some (.float .f64 (Vg.atn true p)) ∧ wx.cell? ⟨B5, 1, none⟩ = some (.float .f64 (Vg.atn true q)) ∧ B5 < wx.heap.size ∧ wx.cell? ⟨B6, 0, none⟩ = some (.float .f64 (Vg.atn true r)) ∧ wx.cell? ⟨B6, 1, none⟩ = some (.float .f64 (Vg.atn true s)) ∧ B6 < wx.heap.size ∧ Below w.heap.size w wx)
  case first =>
    go_region_held3 (fun wx => wx.cell? ⟨B0, 0, none⟩ = some (.float .f64 X0) ∧ wx.cell? ⟨B0, 1, none⟩ = some (.float .f64 Y0) ∧ B0 < wx.heap.size ∧ wx.cell? ⟨B1, 0, none⟩ = some (.float .f64 X1) ∧ wx.cell? ⟨B1, 1, none⟩ = some (.float .f64 Y1) ∧ B1 < wx.heap.size ∧ wx.cell? ⟨B2, 0, none⟩ = some (.float .f64 X2) ∧ wx.cell? ⟨B2, 1, none⟩ = some (.float .f64 Y2) ∧ B2 < wx.heap.size ∧ wx.cell? ⟨B3, 0, none⟩ = some (.float .f64 (Vg.atn true i1)) ∧ wx.cell? ⟨B3, 1, none⟩ = some (.float .f64 (Vg.atn true i2)) ∧ B3 < wx.heap.size ∧ wx.cell? ⟨B4, 0, none⟩ = some (.float .f64 (Vg.atn true h1)) ∧ wx.cell? ⟨B4, 1, none⟩ = some (.float .f64 (Vg.atn true h2)) ∧ B4 < wx.heap.size ∧ wx.cell? ⟨B5, 0, none⟩ = some (.float .f64 (Vg.atn true p)) ∧ wx.cell? ⟨B5, 1, none⟩ = some (.float .f64 (Vg.atn true q)) ∧ B5 < wx.heap.size ∧ wx.cell? ⟨B6, 0, none⟩ = some (.float .f64 (Vg.atn true r)) ∧ wx.cell? ⟨B6, 1, none⟩ = some (.float .f64 (Vg.atn true s)) ∧ B6 < wx.heap.size ∧ Below w.heap.size w wx)
      (((try dsimp only); (repeat' apply And.intro) <;> first | assumption | (simp [*]; done) | exact Below.drew (by assumption) | exact keep_cell hb1 (by first | (dsimp only; omega) | (simp; omega)) (by simp [*]) | (have := hb1.size; omega) | (have := hb1.size; simp at this; omega) | exact bch (by simp [*]) hb1 | exact bch (Below.drew (by simp [*])) hb1))
      (first | (go_at_call 20; first | ((with_reducible refine (joinC H0.out H0.out F6 _).mono ?_); rintro e w' ⟨rfl, hb1⟩) | ((with_reducible refine (joinC H0.out Ri F8 _).mono ?_); rintro e w' ⟨rfl, hb1⟩)) | (go_at_call 23; first | ((with_reducible refine (meetC H0.out Rh F7 _).mono ?_); rintro e w' ⟨rfl, hb1⟩)))
    go_wp2_with fail
    go_meet
    exact ⟨rfl, by assumption⟩
  case rest =>
  clear k00 k01 z0 k10 k11 z1 k20 k21 z2 k30 k31 z3 k40 k41 z4 k50 k51 z5 k60 k61 z6 g
  obtain ⟨rfl, k00, k01, z0, k10, k11, z1, k20, k21, z2, k30, k31, z3, k40, k41, z4, k50, k51, z5, k60, k61, z6, g⟩ := hcut
  go_upto_region 14 with fail
  go_cut [119] (fun v wx => v = .bool false ∧ wx.cell? ⟨B0, 0, none⟩ = some (.float .f64 X0) ∧ wx.cell? ⟨B0, 1, none⟩ = some (.float .f64 Y0) ∧ B0 < wx.heap.size ∧ wx.cell? ⟨B1, 0, none⟩ = some (.float .f64 X1) ∧ wx.cell? ⟨B1, 1, none⟩ = some (.float .f64 Y1) ∧ B1 < wx.heap.size ∧ wx.cell? ⟨B2, 0, none⟩ = some (.float .f64 X2) ∧ wx.cell? ⟨B2, 1, none⟩ = some (.float .f64 Y2) ∧ B2 < wx.heap.size ∧ wx.cell? ⟨B3, 0, none⟩ = some (.float .f64 (Vg.atn true i1)) ∧ wx.cell? ⟨B3, 1, none⟩ = some (.float .f64 (Vg.atn true i2)) ∧ B3 < wx.heap.size ∧ wx.cell? ⟨B4, 0, none⟩ = some (.float .f64 (Vg.atn true h1)) ∧ wx.cell? ⟨B4, 1, none⟩ = some (.float .f64 (Vg.atn true h2)) ∧ B4 < wx.heap.size ∧ wx.cell? ⟨B5, 0, none⟩ = some (.float .f64 (Vg.atn true p)) ∧ wx.cell? ⟨B5, 1, none⟩ = some (.float .f64 (Vg.atn true q)) ∧ B5 < wx.heap.size ∧ wx.cell? ⟨B6, 0, none⟩ = some (.float .f64 (Vg.atn true r)) ∧ wx.cell? ⟨B6, 1, none⟩ = some (.float .f64 (Vg.atn true s)) ∧ B6 < wx.heap.size ∧ Below w.heap.size w wx)
  case first =>
    go_region_held3 (fun wx => wx.cell? ⟨B0, 0, none⟩ = some (.float .f64 X0) ∧ wx.cell? ⟨B0, 1, none⟩ = some (.float .f64 Y0) ∧ B0 < wx.heap.size ∧ wx.cell? ⟨B1, 0, none⟩ = some (.float .f64 X1) ∧ wx.cell? ⟨B1, 1, none⟩ = some (.float .f64 Y1) ∧ B1 < wx.heap.size ∧ wx.cell? ⟨B2, 0, none⟩ = some (.float .f64 X2) ∧ wx.cell? ⟨B2, 1, none⟩ = some (.float .f64 Y2) ∧ B2 < wx.heap.size ∧ wx.cell? ⟨B3, 0, none⟩ = some (.float .f64 (Vg.atn true i1)) ∧ wx.cell? ⟨B3, 1, none⟩ = some (.float .f64 (Vg.atn true i2)) ∧ B3 < wx.heap.size ∧ wx.cell? ⟨B4, 0, none⟩ = some (.float .f64 (Vg.atn true h1)) ∧ wx.cell? ⟨B4, 1, none⟩ = some (.float .f64 (Vg.atn true h2)) ∧ B4 < wx.heap.size ∧ wx.cell? ⟨B5, 0, none⟩ = some (.float .f64 (Vg.atn true p)) ∧ wx.cell? ⟨B5, 1, none⟩ = some (.float .f64 (Vg.atn true q)) ∧ B5 < wx.heap.size ∧ wx.cell? ⟨B6, 0, none⟩ = some (.float .f64 (Vg.atn true r)) ∧ wx.cell? ⟨B6, 1, none⟩ = some (.float .f64 (Vg.atn true s)) ∧ B6 < wx.heap.size ∧ Below w.heap.size w wx)
      (((try dsimp only); (repeat' apply And.intro) <;> first | assumption | (simp [*]; done) | exact Below.drew (by assumption) | exact keep_cell hb1 (by first | (dsimp only; omega) | (simp; omega)) (by simp [*]) | (have := hb1.size; omega) | (have := hb1.size; simp at this; omega) | exact bch (by simp [*]) hb1 | exact bch (Below.drew (by simp [*])) hb1))
      (first | (go_at_call 40; first | ((with_reducible refine ((subset_any X0 Y0 X1 Y1 p q r s H0.out H1.out _).mono (fun _ _ h => TB.bool Guab h)).mono ?_); rintro e w' ⟨rfl, hb1⟩) | ((with_reducible refine ((subset_any X1 Y1 X2 Y2 r s t u H1.out H2.out _).mono (fun _ _ h => TB.bool Gubc h)).mono ?_); rintro e w' ⟨rfl, hb1⟩) | ((with_reducible refine ((subset_any X0 Y0 X2 Y2 p q t u H0.out H2.out _).mono (fun _ _ h => TB.bool Guac h)).mono ?_); rintro e w' ⟨rfl, hb1⟩)) | (go_at_call 41; first | ((with_reducible refine ((equal_any X0 Y0 X1 Y1 p q r s H0.out H1.out _).mono (fun _ _ h => TB.bool Gqab h)).mono ?_); rintro e w' ⟨rfl, hb1⟩)) | (go_at_call 42; first | ((with_reducible refine ((disjoint_any X0 Y0 X1 Y1 p q r s H0.out H1.out _).mono (fun _ _ h => TB.bool Gdab h)).mono ?_); rintro e w' ⟨rfl, hb1⟩)) | (go_at_call 31; first | ((with_reducible refine ((isempty_any _ _ i1 i2 Ri _).mono (fun _ _ h => TB.bool Gei h)).mono ?_); rintro e w' ⟨rfl, hb1⟩)))
    go_wp2_with fail
    go_meet
    exact ⟨rfl, by assumption⟩
  case rest =>
  clear k00 k01 z0 k10 k11 z1 k20 k21 z2 k30 k31 z3 k40 k41 z4 k50 k51 z5 k60 k61 z6 g
  obtain ⟨rfl, k00, k01, z0, k10, k11, z1, k20, k21, z2, k30, k31, z3, k40, k41, z4, k50, k51, z5, k60, k61, z6, g⟩ := hcut
  rcases ZW.out with rfl | ⟨rfl, rfl⟩ | ⟨rfl, rfl, rfl⟩
  all_goals
    go_wp2_with (first | (go_at_call 40; first | ((with_reducible refine ((subset_any X0 Y0 X1 Y1 p q r s H0.out H1.out _).mono (fun _ _ h => TB.bool Guab h)).mono ?_); rintro e w' ⟨rfl, hb⟩; have k00 := keep_cell hb z0 k00; have k01 := keep_cell hb z0 k01; have k10 := keep_cell hb z1 k10; have k11 := keep_cell hb z1 k11; have k20 := keep_cell hb z2 k20; have k21 := keep_cell hb z2 k21; have k30 := keep_cell hb z3 k30; have k31 := keep_cell hb z3 k31; have k40 := keep_cell hb z4 k40; have k41 := keep_cell hb z4 k41; have k50 := keep_cell hb z5 k50; have k51 := keep_cell hb z5 k51; have k60 := keep_cell hb z6 k60; have k61 := keep_cell hb z6 k61; have z0 := Nat.lt_of_lt_of_le z0 hb.size; have z1 := Nat.lt_of_lt_of_le z1 hb.size; have z2 := Nat.lt_of_lt_of_le z2 hb.size; have z3 := Nat.lt_of_lt_of_le z3 hb.size; have z4 := Nat.lt_of_lt_of_le z4 hb.size; have z5 := Nat.lt_of_lt_of_le z5 hb.size; have z6 := Nat.lt_of_lt_of_le z6 hb.size; have g := (by first | exact bch g hb | exact bch g.drew hb); clear hb) | ((with_reducible refine ((subset_any X1 Y1 X2 Y2 r s t u H1.out H2.out _).mono (fun _ _ h => TB.bool Gubc h)).mono ?_); rintro e w' ⟨rfl, hb⟩; have k00 := keep_cell hb z0 k00; have k01 := keep_cell hb z0 k01; have k10 := keep_cell hb z1 k10; have k11 := keep_cell hb z1 k11; have k20 := keep_cell hb z2 k20; have k21 := keep_cell hb z2 k21; have k30 := keep_cell hb z3 k30; have k31 := keep_cell hb z3 k31; have k40 := keep_cell hb z4 k40; have k41 := keep_cell hb z4 k41; have k50 := keep_cell hb z5 k50; have k51 := keep_cell hb z5 k51; have k60 := keep_cell hb z6 k60; have k61 := keep_cell hb z6 k61; have z0 := Nat.lt_of_lt_of_le z0 hb.size; have z1 := Nat.lt_of_lt_of_le z1 hb.size; have z2 := Nat.lt_of_lt_of_le z2 hb.size; have z3 := Nat.lt_of_lt_of_le z3 hb.size; have z4 := Nat.lt_of_lt_of_le z4 hb.size; have z5 := Nat.lt_of_lt_of_le z5 hb.size; have z6 := Nat.lt_of_lt_of_le z6 hb.size; have g := (by first | exact bch g hb | exact bch g.drew hb); clear hb) | ((with_reducible refine ((subset_any X0 Y0 X2 Y2 p q t u H0.out H2.out _).mono (fun _ _ h => TB.bool Guac h)).mono ?_); rintro e w' ⟨rfl, hb⟩; have k00 := keep_cell hb z0 k00; have k01 := keep_cell hb z0 k01; have k10 := keep_cell hb z1 k10; have k11 := keep_cell hb z1 k11; have k20 := keep_cell hb z2 k20; have k21 := keep_cell hb z2 k21; have k30 := keep_cell hb z3 k30; have k31 := keep_cell hb z3 k31; have k40 := keep_cell hb z4 k40; have k41 := keep_cell hb z4 k41; have k50 := keep_cell hb z5 k50; have k51 := keep_cell hb z5 k51; have k60 := keep_cell hb z6 k60; have k61 := keep_cell hb z6 k61; have z0 := Nat.lt_of_lt_of_le z0 hb.size; have z1 := Nat.lt_of_lt_of_le z1 hb.size; have z2 := Nat.lt_of_lt_of_le z2 hb.size; have z3 := Nat.lt_of_lt_of_le z3 hb.size; have z4 := Nat.lt_of_lt_of_le z4 hb.size; have z5 := Nat.lt_of_lt_of_le z5 hb.size; have z6 := Nat.lt_of_lt_of_le z6 hb.size; have g := (by first | exact bch g hb | exact bch g.drew hb); clear hb)) | (go_at_call 41; first | ((with_reducible refine ((equal_any X0 Y0 X1 Y1 p q r s H0.out H1.out _).mono (fun _ _ h => TB.bool Gqab h)).mono ?_); rintro e w' ⟨rfl, hb⟩; have k00 := keep_cell hb z0 k00; have k01 := keep_cell hb z0 k01; have k10 := keep_cell hb z1 k10; have k11 := keep_cell hb z1 k11; have k20 := keep_cell hb z2 k20; have k21 := keep_cell hb z2 k21; have k30 := keep_cell hb z3 k30; have k31 := keep_cell hb z3 k31; have k40 := keep_cell hb z4 k40; have k41 := keep_cell hb z4 k41; have k50 := keep_cell hb z5 k50; have k51 := keep_cell hb z5 k51; have k60 := keep_cell hb z6 k60; have k61 := keep_cell hb z6 k61; have z0 := Nat.lt_of_lt_of_le z0 hb.size; have z1 := Nat.lt_of_lt_of_le z1 hb.size; have z2 := Nat.lt_of_lt_of_le z2 hb.size; have z3 := Nat.lt_of_lt_of_le z3 hb.size; have z4 := Nat.lt_of_lt_of_le z4 hb.size; have z5 := Nat.lt_of_lt_of_le z5 hb.size; have z6 := Nat.lt_of_lt_of_le z6 hb.size; have g := (by first | exact bch g hb | exact bch g.drew hb); clear hb)) | (go_at_call 42; first | ((with_reducible refine ((disjoint_any X0 Y0 X1 Y1 p q r s H0.out H1.out _).mono (fun _ _ h => TB.bool Gdab h)).mono ?_); rintro e w' ⟨rfl, hb⟩; have k00 := keep_cell hb z0 k00; have k01 := keep_cell hb z0 k01; have k10 := keep_cell hb z1 k10; have k11 := keep_cell hb z1 k11; have k20 := keep_cell hb z2 k20; have k21 := keep_cell hb z2 k21; have k30 := keep_cell hb z3 k30; have k31 := keep_cell hb z3 k31; have k40 := keep_cell hb z4 k40; have k41 := keep_cell hb z4 k41; have k50 := keep_cell hb z5 k50; have k51 := keep_cell hb z5 k51; have k60 := keep_cell hb z6 k60; have k61 := keep_cell hb z6 k61; have z0 := Nat.lt_of_lt_of_le z0 hb.size; have z1 := Nat.lt_of_lt_of_le z1 hb.size; have z2 := Nat.lt_of_lt_of_le z2 hb.size; have z3 := Nat.lt_of_lt_of_le z3 hb.size; have z4 := Nat.lt_of_lt_of_le z4 hb.size; have z5 := Nat.lt_of_lt_of_le z5 hb.size; have z6 := Nat.lt_of_lt_of_le z6 hb.size; have g := (by first | exact bch g hb | exact bch g.drew hb); clear hb)) | (go_at_call 31; first | ((with_reducible refine ((isempty_any _ _ i1 i2 Ri _).mono (fun _ _ h => TB.bool Gei h)).mono ?_); rintro e w' ⟨rfl, hb⟩; have k00 := keep_cell hb z0 k00; have k01 := keep_cell hb z0 k01; have k10 := keep_cell hb z1 k10; have k11 := keep_cell hb z1 k11; have k20 := keep_cell hb z2 k20; have k21 := keep_cell hb z2 k21; have k30 := keep_cell hb z3 k30; have k31 := keep_cell hb z3 k31; have k40 := keep_cell hb z4 k40; have k41 := keep_cell hb z4 k41; have k50 := keep_cell hb z5 k50; have k51 := keep_cell hb z5 k51; have k60 := keep_cell hb z6 k60; have k61 := keep_cell hb z6 k61; have z0 := Nat.lt_of_lt_of_le z0 hb.size; have z1 := Nat.lt_of_lt_of_le z1 hb.size; have z2 := Nat.lt_of_lt_of_le z2 hb.size; have z3 := Nat.lt_of_lt_of_le z3 hb.size; have z4 := Nat.lt_of_lt_of_le z4 hb.size; have z5 := Nat.lt_of_lt_of_le z5 hb.size; have z6 := Nat.lt_of_lt_of_le z6 hb.size; have g := (by first | exact bch g hb | exact bch g.drew hb); clear hb)))
    go_ret
    exact ⟨rfl, g⟩

end Go.Proofs.Ytljnadoodbninaa.relLattice

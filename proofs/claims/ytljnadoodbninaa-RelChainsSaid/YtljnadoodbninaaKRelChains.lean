/- Which relations lead on from one pair to the next, and which say more than others. The walk. -/
import Derived.Test.YtljnadoodbninaaWTold
namespace Go.Proofs.Ytljnadoodbninaa.relChains
open Go.RowKit

set_option maxRecDepth 20000 in
set_option maxHeartbeats 8000000 in
theorem walk (a00 a01 a10 a11 a20 a21 : Int) (w00 : (Lit.int .u64 a00).wf = true) (w01 : (Lit.int .u64 a01).wf = true) (w10 : (Lit.int .u64 a10).wf = true) (w11 : (Lit.int .u64 a11).wf = true) (w20 : (Lit.int .u64 a20).wf = true) (w21 : (Lit.int .u64 a21).wf = true) (w : World) :
    Calls Try.prog 14 #[.agg #[.int .u64 a00, .int .u64 a01], .agg #[.int .u64 a10, .int .u64 a11], .agg #[.int .u64 a20, .int .u64 a21]] w fun e w' => e = .returned (.bool true) ∧ Below w.heap.size w w' := by
  obtain ⟨p, q, h0⟩ := Vg.Rd.ex a00.toNat a01.toNat (by have := u64_bd w00; omega) (by have := u64_bd w01; omega)
  have H0 := hide h0
  obtain ⟨r, s, h1⟩ := Vg.Rd.ex a10.toNat a11.toNat (by have := u64_bd w10; omega) (by have := u64_bd w11; omega)
  have H1 := hide h1
  obtain ⟨t, u, h2⟩ := Vg.Rd.ex a20.toNat a21.toNat (by have := u64_bd w20; omega) (by have := u64_bd w21; omega)
  have H2 := hide h2
  have I := hide (show Vg.Iv p q ∧ Vg.Iv r s ∧ Vg.Iv t u from ⟨h0.iv, h1.iv, h2.iv⟩)
  clear h0 h1 h2 w00 w01 w10 w11 w20 w21
  have hst := sto
  obtain ⟨X0, e0⟩ : ∃ n, a00.toNat = n := ⟨_, rfl⟩
  obtain ⟨Y0, f0⟩ : ∃ n, a01.toNat = n := ⟨_, rfl⟩
  rw [e0, f0] at H0
  have N0 := fun w => in_any a00 a01 w
  rw [e0, f0] at N0
  clear e0 f0
  obtain ⟨X1, e1⟩ : ∃ n, a10.toNat = n := ⟨_, rfl⟩
  obtain ⟨Y1, f1⟩ : ∃ n, a11.toNat = n := ⟨_, rfl⟩
  rw [e1, f1] at H1
  have N1 := fun w => in_any a10 a11 w
  rw [e1, f1] at N1
  clear e1 f1
  obtain ⟨X2, e2⟩ : ∃ n, a20.toNat = n := ⟨_, rfl⟩
  obtain ⟨Y2, f2⟩ : ∃ n, a21.toNat = n := ⟨_, rfl⟩
  rw [e2, f2] at H2
  have N2 := fun w => in_any a20 a21 w
  rw [e2, f2] at N2
  clear e2 f2
  obtain ⟨nlab, glab⟩ := bool_of (q < p ∧ s < r ∨ (p ≤ q ∧ r ≤ s) ∧ p ≤ r ∧ q ≤ s)
  have Glab : Fact nlab (q < p ∧ s < r ∨ (p ≤ q ∧ r ≤ s) ∧ p ≤ r ∧ q ≤ s) := glab
  obtain ⟨nlbc, glbc⟩ := bool_of (s < r ∧ u < t ∨ (r ≤ s ∧ t ≤ u) ∧ r ≤ t ∧ s ≤ u)
  have Glbc : Fact nlbc (s < r ∧ u < t ∨ (r ≤ s ∧ t ≤ u) ∧ r ≤ t ∧ s ≤ u) := glbc
  obtain ⟨nlac, glac⟩ := bool_of (q < p ∧ u < t ∨ (p ≤ q ∧ t ≤ u) ∧ p ≤ t ∧ q ≤ u)
  have Glac : Fact nlac (q < p ∧ u < t ∨ (p ≤ q ∧ t ≤ u) ∧ p ≤ t ∧ q ≤ u) := glac
  obtain ⟨nlba, glba⟩ := bool_of (s < r ∧ q < p ∨ (r ≤ s ∧ p ≤ q) ∧ r ≤ p ∧ s ≤ q)
  have Glba : Fact nlba (s < r ∧ q < p ∨ (r ≤ s ∧ p ≤ q) ∧ r ≤ p ∧ s ≤ q) := glba
  obtain ⟨nsab, gsab⟩ := bool_of (q < p ∧ s < r ∨ (p ≤ q ∧ r ≤ s) ∧ bl p r ∧ bl q s)
  have Gsab : Fact nsab (q < p ∧ s < r ∨ (p ≤ q ∧ r ≤ s) ∧ bl p r ∧ bl q s) := gsab
  obtain ⟨nsbc, gsbc⟩ := bool_of (s < r ∧ u < t ∨ (r ≤ s ∧ t ≤ u) ∧ bl r t ∧ bl s u)
  have Gsbc : Fact nsbc (s < r ∧ u < t ∨ (r ≤ s ∧ t ≤ u) ∧ bl r t ∧ bl s u) := gsbc
  obtain ⟨nsac, gsac⟩ := bool_of (q < p ∧ u < t ∨ (p ≤ q ∧ t ≤ u) ∧ bl p t ∧ bl q u)
  have Gsac : Fact nsac (q < p ∧ u < t ∨ (p ≤ q ∧ t ≤ u) ∧ bl p t ∧ bl q u) := gsac
  obtain ⟨npab, gpab⟩ := bool_of (q < p ∨ s < r ∨ q ≤ r)
  have Gpab : Fact npab (q < p ∨ s < r ∨ q ≤ r) := gpab
  obtain ⟨npbc, gpbc⟩ := bool_of (s < r ∨ u < t ∨ s ≤ t)
  have Gpbc : Fact npbc (s < r ∨ u < t ∨ s ≤ t) := gpbc
  obtain ⟨npac, gpac⟩ := bool_of (q < p ∨ u < t ∨ q ≤ t)
  have Gpac : Fact npac (q < p ∨ u < t ∨ q ≤ t) := gpac
  obtain ⟨nvab, gvab⟩ := bool_of (q < p ∨ s < r ∨ q < r)
  have Gvab : Fact nvab (q < p ∨ s < r ∨ q < r) := gvab
  obtain ⟨ndab, gdab⟩ := bool_of (min q s < max p r)
  have Gdab : Fact ndab (min q s < max p r) := gdab
  obtain ⟨niab, giab⟩ := bool_of (q < p ∨ (p ≤ q ∧ r ≤ s) ∧ bl r p ∧ bl q s)
  have Giab : Fact niab (q < p ∨ (p ≤ q ∧ r ≤ s) ∧ bl r p ∧ bl q s) := giab
  obtain ⟨nuab, guab⟩ := bool_of (q < p ∨ r ≤ p ∧ q ≤ s)
  have Guab : Fact nuab (q < p ∨ r ≤ p ∧ q ≤ s) := guab
  obtain ⟨nea, gea⟩ := bool_of (q < p)
  have Gea : Fact nea (q < p) := gea
  obtain ⟨neb, geb⟩ := bool_of (s < r)
  have Geb : Fact neb (s < r) := geb
  obtain ⟨nqab, gqab⟩ := bool_of (p = r ∧ q = s)
  have Gqab : Fact nqab (p = r ∧ q = s) := gqab
  have W1 : nlab = false ∨ nlab = true ∧ nlbc = false ∨ nlab = true ∧ nlbc = true ∧ nlac = true := by
    cases nlab
    · exact .inl rfl
    cases nlbc
    · exact .inr (.inl ⟨rfl, rfl⟩)
    refine .inr (.inr ⟨rfl, rfl, ?_⟩)
    have flab := glab.1 rfl
    have flbc := glbc.1 rfl
    refine glac.2 ?_
    have i0 := I.out
    have := Vg.PI_pos
    unfold Vg.Iv at i0
    omega
  have W2 : nsab = false ∨ nsab = true ∧ nsbc = false ∨ nsab = true ∧ nsbc = true ∧ nsac = true := by
    cases nsab
    · exact .inl rfl
    cases nsbc
    · exact .inr (.inl ⟨rfl, rfl⟩)
    refine .inr (.inr ⟨rfl, rfl, ?_⟩)
    have fsab := gsab.1 rfl
    have fsbc := gsbc.1 rfl
    refine gsac.2 ?_
    have i0 := I.out
    have := Vg.PI_pos
    unfold Vg.Iv at i0
    unfold bl at *
    omega
  have W3 : neb = true ∨ neb = false ∧ npab = false ∨ neb = false ∧ npab = true ∧ npbc = false ∨ neb = false ∧ npab = true ∧ npbc = true ∧ npac = true := by
    cases neb
    rotate_left
    · exact .inl rfl
    cases npab
    · exact .inr (.inl ⟨rfl, rfl⟩)
    cases npbc
    · exact .inr (.inr (.inl ⟨rfl, rfl, rfl⟩))
    refine .inr (.inr (.inr ⟨rfl, rfl, rfl, ?_⟩))
    have feb : ¬ (s < r) := fun h => by have := geb.2 h; cases this
    have fpab := gpab.1 rfl
    have fpbc := gpbc.1 rfl
    refine gpac.2 ?_
    have i0 := I.out
    have := Vg.PI_pos
    unfold Vg.Iv at i0
    omega
  have W5 : nsab = false ∨ nsab = true ∧ nlab = true := by
    cases nsab
    · exact .inl rfl
    refine .inr ⟨rfl, ?_⟩
    have fsab := gsab.1 rfl
    refine glab.2 ?_
    have i0 := I.out
    have := Vg.PI_pos
    unfold Vg.Iv at i0
    unfold bl at *
    omega
  have W6 : niab = false ∨ niab = true ∧ nuab = true := by
    cases niab
    · exact .inl rfl
    refine .inr ⟨rfl, ?_⟩
    have fiab := giab.1 rfl
    refine guab.2 ?_
    have i0 := I.out
    have := Vg.PI_pos
    unfold Vg.Iv at i0
    unfold bl at *
    omega
  have W7 : nea = true ∨ nea = false ∧ neb = true ∨ nea = false ∧ neb = false ∧ npab = false ∨ nea = false ∧ neb = false ∧ npab = true ∧ nlab = true := by
    cases nea
    rotate_left
    · exact .inl rfl
    cases neb
    rotate_left
    · exact .inr (.inl ⟨rfl, rfl⟩)
    cases npab
    · exact .inr (.inr (.inl ⟨rfl, rfl, rfl⟩))
    refine .inr (.inr (.inr ⟨rfl, rfl, rfl, ?_⟩))
    have fea : ¬ (q < p) := fun h => by have := gea.2 h; cases this
    have feb : ¬ (s < r) := fun h => by have := geb.2 h; cases this
    have fpab := gpab.1 rfl
    refine glab.2 ?_
    have i0 := I.out
    have := Vg.PI_pos
    unfold Vg.Iv at i0
    omega
  have W4 : nvab = false ∨ nvab = true ∧ npab = true ∧ ndab = true := by
    cases nvab
    · exact .inl rfl
    have f := gvab.1 rfl
    have i0 := I.out
    have := Vg.PI_pos
    unfold Vg.Iv at i0
    exact .inr ⟨rfl, gpab.2 (by omega), gdab.2 (by omega)⟩
  have W8 : nlab = false ∧ nqab = false ∨ nlab = true ∧ nlba = false ∧ nqab = false ∨ nlab = true ∧ nlba = true ∧ nqab = true := by
    have no : ∀ n : Bool, n = false ↔ ¬ n = true := by simp
    have i0 := I.out
    have := Vg.PI_pos
    unfold Vg.Iv at i0
    cases nlab
    · left
      refine ⟨rfl, (no _).2 fun h => ?_⟩
      have f := gqab.1 h
      have : ¬ (q < p ∧ s < r ∨ (p ≤ q ∧ r ≤ s) ∧ p ≤ r ∧ q ≤ s) := fun h => by have := glab.2 h; cases this
      omega
    right
    have f := glab.1 rfl
    cases nlba
    · left
      refine ⟨rfl, rfl, (no _).2 fun h => ?_⟩
      have f := gqab.1 h
      have : ¬ (s < r ∧ q < p ∨ (r ≤ s ∧ p ≤ q) ∧ r ≤ p ∧ s ≤ q) := fun h => by have := glba.2 h; cases this
      omega
    · right
      have f2 := glba.1 rfl
      exact ⟨rfl, rfl, gqab.2 (by omega)⟩
  clear glab glbc glac glba gsab gsbc gsac gpab gpbc gpac gvab gdab giab guab gea geb gqab
  have ZW1 := hide W1
  clear W1
  have ZW2 := hide W2
  clear W2
  have ZW3 := hide W3
  clear W3
  have ZW4 := hide W4
  clear W4
  have ZW5 := hide W5
  clear W5
  have ZW6 := hide W6
  clear W6
  have ZW7 := hide W7
  clear W7
  have ZW8 := hide W8
  clear W8
  go_enter Try.func14, Try.ntmps14
  go_wp2_with fail
  refine (awake_any _).mono ?_; rintro e w1 ⟨rfl, hb1⟩
  have m00 : w1.cell? ⟨w.heap.size, 0, none⟩ = some (.int .u64 a00) := keep_cell hb1 (by first | (simp; done) | (simp; omega)) (by simp [go_sem])
  have m01 : w1.cell? ⟨w.heap.size, 1, none⟩ = some (.int .u64 a01) := keep_cell hb1 (by first | (simp; done) | (simp; omega)) (by simp [go_sem])
  have m10 : w1.cell? ⟨w.heap.size + 1, 0, none⟩ = some (.int .u64 a10) := keep_cell hb1 (by first | (simp; done) | (simp; omega)) (by simp [go_sem])
  have m11 : w1.cell? ⟨w.heap.size + 1, 1, none⟩ = some (.int .u64 a11) := keep_cell hb1 (by first | (simp; done) | (simp; omega)) (by simp [go_sem])
  have m20 : w1.cell? ⟨w.heap.size + 1 + 1, 0, none⟩ = some (.int .u64 a20) := keep_cell hb1 (by first | (simp; done) | (simp; omega)) (by simp [go_sem])
  have m21 : w1.cell? ⟨w.heap.size + 1 + 1, 1, none⟩ = some (.int .u64 a21) := keep_cell hb1 (by first | (simp; done) | (simp; omega)) (by simp [go_sem])
  have z : w.heap.size + 2 < w1.heap.size := by have := hb1.size; simp at this; omega
  have g : Below w.heap.size w w1 := b_three.trans (hb1.mono (by simp <;> omega))
  clear hb1
  go_upto_region 3 with fail
  go_cut [7] (fun v wx => Below w.heap.size w wx ∧ wx.cell? ⟨w.heap.size + 1, 0, none⟩ = some (.int .u64 a10) ∧ wx.cell? ⟨w.heap.size + 1, 1, none⟩ = some (.int .u64 a11) ∧ wx.cell? ⟨w.heap.size + 1 + 1, 0, none⟩ = some (.int .u64 a20) ∧ wx.cell? ⟨w.heap.size + 1 + 1, 1, none⟩ = some (.int .u64 a21) ∧ w.heap.size + 2 < wx.heap.size ∧ (∃ B : Nat, v = .pointer (some ⟨B, 0, none⟩) ∧ wx.cell? ⟨B, 0, none⟩ = some (.float .f64 X0) ∧ wx.cell? ⟨B, 1, none⟩ = some (.float .f64 Y0) ∧ B < wx.heap.size))
  case first =>
    go_wp2_with fail
    refine (N0 _).mono ?_; rintro e w2 ⟨rfl, hb2⟩
    have m10 := keep_cell hb2 (by dsimp only <;> omega) m10
    have m11 := keep_cell hb2 (by dsimp only <;> omega) m11
    have m20 := keep_cell hb2 (by dsimp only <;> omega) m20
    have m21 := keep_cell hb2 (by dsimp only <;> omega) m21
    have z := Nat.lt_of_lt_of_le z hb2.size
    have g := bch g hb2
    clear hb2
    go_wp2_with fail
    go_meet
    refine ⟨?_, ?_, ?_, ?_, ?_, ?_, _, rfl, ?_, ?_, ?_⟩
    all_goals first | exact keep_cell b_one (by dsimp only <;> omega) (by assumption) | (simp [go_sem, *]; done) | exact g.alloc g.size _ | (simp; omega)
  case rest =>
  clear N0
  clear m00
  clear m01
  clear m10
  clear m11
  clear m20
  clear m21
  clear z
  clear g
  obtain ⟨g, m10, m11, m20, m21, z, B0, rfl, k00, k01, z0⟩ := hcut
  go_upto_region 4 with fail
  go_cut [8] (fun v wx => Below w.heap.size w wx ∧ wx.cell? ⟨w.heap.size + 1 + 1, 0, none⟩ = some (.int .u64 a20) ∧ wx.cell? ⟨w.heap.size + 1 + 1, 1, none⟩ = some (.int .u64 a21) ∧ w.heap.size + 2 < wx.heap.size ∧ wx.cell? ⟨B0, 0, none⟩ = some (.float .f64 X0) ∧ wx.cell? ⟨B0, 1, none⟩ = some (.float .f64 Y0) ∧ B0 < wx.heap.size ∧ (∃ B : Nat, v = .pointer (some ⟨B, 0, none⟩) ∧ wx.cell? ⟨B, 0, none⟩ = some (.float .f64 X1) ∧ wx.cell? ⟨B, 1, none⟩ = some (.float .f64 Y1) ∧ B < wx.heap.size))
  case first =>
    go_wp2_with fail
    refine (N1 _).mono ?_; rintro e w2 ⟨rfl, hb2⟩
    have m20 := keep_cell hb2 (by dsimp only <;> omega) m20
    have m21 := keep_cell hb2 (by dsimp only <;> omega) m21
    have k00 := keep_cell hb2 z0 k00
    have k01 := keep_cell hb2 z0 k01
    have z0 := Nat.lt_of_lt_of_le z0 hb2.size
    have z := Nat.lt_of_lt_of_le z hb2.size
    have g := bch g hb2
    clear hb2
    go_wp2_with fail
    go_meet
    refine ⟨?_, ?_, ?_, ?_, ?_, ?_, ?_, _, rfl, ?_, ?_, ?_⟩
    all_goals first | exact keep_cell b_one (by dsimp only <;> omega) (by assumption) | (simp [go_sem, *]; done) | exact g.alloc g.size _ | (simp; omega)
  case rest =>
  clear N1
  clear m10
  clear m11
  clear m20
  clear m21
  clear z
  clear g
  clear k00
  clear k01
  clear z0
  obtain ⟨g, m20, m21, z, k00, k01, z0, B1, rfl, k10, k11, z1⟩ := hcut
  go_upto_region 5 with fail
  go_cut [9] (fun v wx => Below w.heap.size w wx ∧ wx.cell? ⟨B0, 0, none⟩ = some (.float .f64 X0) ∧ wx.cell? ⟨B0, 1, none⟩ = some (.float .f64 Y0) ∧ B0 < wx.heap.size ∧ wx.cell? ⟨B1, 0, none⟩ = some (.float .f64 X1) ∧ wx.cell? ⟨B1, 1, none⟩ = some (.float .f64 Y1) ∧ B1 < wx.heap.size ∧ (∃ B : Nat, v = .pointer (some ⟨B, 0, none⟩) ∧ wx.cell? ⟨B, 0, none⟩ = some (.float .f64 X2) ∧ wx.cell? ⟨B, 1, none⟩ = some (.float .f64 Y2) ∧ B < wx.heap.size))
  case first =>
    go_wp2_with fail
    refine (N2 _).mono ?_; rintro e w2 ⟨rfl, hb2⟩
    have k00 := keep_cell hb2 z0 k00
    have k01 := keep_cell hb2 z0 k01
    have z0 := Nat.lt_of_lt_of_le z0 hb2.size
    have k10 := keep_cell hb2 z1 k10
    have k11 := keep_cell hb2 z1 k11
    have z1 := Nat.lt_of_lt_of_le z1 hb2.size
    have g := bch g hb2
    clear hb2
    go_wp2_with fail
    go_meet
    refine ⟨?_, ?_, ?_, ?_, ?_, ?_, ?_, _, rfl, ?_, ?_, ?_⟩
    all_goals first | exact keep_cell b_one (by dsimp only <;> omega) (by assumption) | (simp [go_sem, *]; done) | exact g.alloc g.size _ | (simp; omega)
  case rest =>
  clear N2
  clear m20
  clear m21
  clear z
  clear g
  clear k00
  clear k01
  clear z0
  clear k10
  clear k11
  clear z1
  obtain ⟨g, k00, k01, z0, k10, k11, z1, B2, rfl, k20, k21, z2⟩ := hcut
  go_upto_region 6 with fail
  go_cut [47] (fun v wx => v = .bool false ∧ wx.cell? ⟨B0, 0, none⟩ = some (.float .f64 X0) ∧ wx.cell? ⟨B0, 1, none⟩ = some (.float .f64 Y0) ∧ B0 < wx.heap.size ∧ wx.cell? ⟨B1, 0, none⟩ = some (.float .f64 X1) ∧ wx.cell? ⟨B1, 1, none⟩ = some (.float .f64 Y1) ∧ B1 < wx.heap.size ∧ wx.cell? ⟨B2, 0, none⟩ = some (.float .f64 X2) ∧ wx.cell? ⟨B2, 1, none⟩ = some (.float .f64 Y2) ∧ B2 < wx.heap.size ∧ Below w.heap.size w wx)
  case first =>
    rcases ZW1.out with rfl | ⟨rfl, rfl⟩ | ⟨rfl, rfl, rfl⟩ <;> rcases ZW2.out with rfl | ⟨rfl, rfl⟩ | ⟨rfl, rfl, rfl⟩
    all_goals
      go_wp2_with (first | (go_at_call 43; first | ((with_reducible refine ((less_any X0 Y0 X1 Y1 p q r s H0.out H1.out _).mono (fun _ _ h => TB.bool Glab h)).mono ?_); rintro e w' ⟨rfl, hb⟩; have k00 := keep_cell hb z0 k00; have k01 := keep_cell hb z0 k01; have k10 := keep_cell hb z1 k10; have k11 := keep_cell hb z1 k11; have k20 := keep_cell hb z2 k20; have k21 := keep_cell hb z2 k21; have z0 := Nat.lt_of_lt_of_le z0 hb.size; have z1 := Nat.lt_of_lt_of_le z1 hb.size; have z2 := Nat.lt_of_lt_of_le z2 hb.size; have g := (by first | exact bch g hb | exact bch g.drew hb); clear hb) | ((with_reducible refine ((less_any X1 Y1 X2 Y2 r s t u H1.out H2.out _).mono (fun _ _ h => TB.bool Glbc h)).mono ?_); rintro e w' ⟨rfl, hb⟩; have k00 := keep_cell hb z0 k00; have k01 := keep_cell hb z0 k01; have k10 := keep_cell hb z1 k10; have k11 := keep_cell hb z1 k11; have k20 := keep_cell hb z2 k20; have k21 := keep_cell hb z2 k21; have z0 := Nat.lt_of_lt_of_le z0 hb.size; have z1 := Nat.lt_of_lt_of_le z1 hb.size; have z2 := Nat.lt_of_lt_of_le z2 hb.size; have g := (by first | exact bch g hb | exact bch g.drew hb); clear hb) | ((with_reducible refine ((less_any X0 Y0 X2 Y2 p q t u H0.out H2.out _).mono (fun _ _ h => TB.bool Glac h)).mono ?_); rintro e w' ⟨rfl, hb⟩; have k00 := keep_cell hb z0 k00; have k01 := keep_cell hb z0 k01; have k10 := keep_cell hb z1 k10; have k11 := keep_cell hb z1 k11; have k20 := keep_cell hb z2 k20; have k21 := keep_cell hb z2 k21; have z0 := Nat.lt_of_lt_of_le z0 hb.size; have z1 := Nat.lt_of_lt_of_le z1 hb.size; have z2 := Nat.lt_of_lt_of_le z2 hb.size; have g := (by first | exact bch g hb | exact bch g.drew hb); clear hb)) | (go_at_call 45; first | ((with_reducible refine ((sless_any X0 Y0 X1 Y1 p q r s H0.out H1.out _).mono (fun _ _ h => TB.bool Gsab h)).mono ?_); rintro e w' ⟨rfl, hb⟩; have k00 := keep_cell hb z0 k00; have k01 := keep_cell hb z0 k01; have k10 := keep_cell hb z1 k10; have k11 := keep_cell hb z1 k11; have k20 := keep_cell hb z2 k20; have k21 := keep_cell hb z2 k21; have z0 := Nat.lt_of_lt_of_le z0 hb.size; have z1 := Nat.lt_of_lt_of_le z1 hb.size; have z2 := Nat.lt_of_lt_of_le z2 hb.size; have g := (by first | exact bch g hb | exact bch g.drew hb); clear hb) | ((with_reducible refine ((sless_any X1 Y1 X2 Y2 r s t u H1.out H2.out _).mono (fun _ _ h => TB.bool Gsbc h)).mono ?_); rintro e w' ⟨rfl, hb⟩; have k00 := keep_cell hb z0 k00; have k01 := keep_cell hb z0 k01; have k10 := keep_cell hb z1 k10; have k11 := keep_cell hb z1 k11; have k20 := keep_cell hb z2 k20; have k21 := keep_cell hb z2 k21; have z0 := Nat.lt_of_lt_of_le z0 hb.size; have z1 := Nat.lt_of_lt_of_le z1 hb.size; have z2 := Nat.lt_of_lt_of_le z2 hb.size; have g := (by first | exact bch g hb | exact bch g.drew hb); clear hb) | ((with_reducible refine ((sless_any X0 Y0 X2 Y2 p q t u H0.out H2.out _).mono (fun _ _ h => TB.bool Gsac h)).mono ?_); rintro e w' ⟨rfl, hb⟩; have k00 := keep_cell hb z0 k00; have k01 := keep_cell hb z0 k01; have k10 := keep_cell hb z1 k10; have k11 := keep_cell hb z1 k11; have k20 := keep_cell hb z2 k20; have k21 := keep_cell hb z2 k21; have z0 := Nat.lt_of_lt_of_le z0 hb.size; have z1 := Nat.lt_of_lt_of_le z1 hb.size; have z2 := Nat.lt_of_lt_of_le z2 hb.size; have g := (by first | exact bch g hb | exact bch g.drew hb); clear hb)))
      go_meet
      exact ⟨rfl, k00, k01, z0, k10, k11, z1, k20, k21, z2, g⟩
  case rest =>
  clear k00 k01 z0 k10 k11 z1 k20 k21 z2 g
  obtain ⟨rfl, k00, k01, z0, k10, k11, z1, k20, k21, z2, g⟩ := hcut
  go_upto_region 8 with fail
  go_cut [66] (fun v wx => v = .bool false ∧ wx.cell? ⟨B0, 0, none⟩ = some (.float .f64 X0) ∧ wx.cell? ⟨B0, 1, none⟩ = some (.float .f64 Y0) ∧ B0 < wx.heap.size ∧ wx.cell? ⟨B1, 0, none⟩ = some (.float .f64 X1) ∧ wx.cell? ⟨B1, 1, none⟩ = some (.float .f64 Y1) ∧ B1 < wx.heap.size ∧ wx.cell? ⟨B2, 0, none⟩ = some (.float .f64 X2) ∧ wx.cell? ⟨B2, 1, none⟩ = some (.float .f64 Y2) ∧ B2 < wx.heap.size ∧ Below w.heap.size w wx)
  case first =>
    rcases ZW3.out with rfl | ⟨rfl, rfl⟩ | ⟨rfl, rfl, rfl⟩ | ⟨rfl, rfl, rfl, rfl⟩
    all_goals
      go_wp2_with (first | (go_at_call 31; first | ((with_reducible refine ((isempty_any X1 Y1 r s H1.out _).mono (fun _ _ h => TB.bool Geb h)).mono ?_); rintro e w' ⟨rfl, hb⟩; have k00 := keep_cell hb z0 k00; have k01 := keep_cell hb z0 k01; have k10 := keep_cell hb z1 k10; have k11 := keep_cell hb z1 k11; have k20 := keep_cell hb z2 k20; have k21 := keep_cell hb z2 k21; have z0 := Nat.lt_of_lt_of_le z0 hb.size; have z1 := Nat.lt_of_lt_of_le z1 hb.size; have z2 := Nat.lt_of_lt_of_le z2 hb.size; have g := (by first | exact bch g hb | exact bch g.drew hb); clear hb)) | (go_at_call 47; first | ((with_reducible refine ((prec_any X0 Y0 X1 Y1 p q r s H0.out H1.out _).mono (fun _ _ h => TB.bool Gpab h)).mono ?_); rintro e w' ⟨rfl, hb⟩; have k00 := keep_cell hb z0 k00; have k01 := keep_cell hb z0 k01; have k10 := keep_cell hb z1 k10; have k11 := keep_cell hb z1 k11; have k20 := keep_cell hb z2 k20; have k21 := keep_cell hb z2 k21; have z0 := Nat.lt_of_lt_of_le z0 hb.size; have z1 := Nat.lt_of_lt_of_le z1 hb.size; have z2 := Nat.lt_of_lt_of_le z2 hb.size; have g := (by first | exact bch g hb | exact bch g.drew hb); clear hb) | ((with_reducible refine ((prec_any X1 Y1 X2 Y2 r s t u H1.out H2.out _).mono (fun _ _ h => TB.bool Gpbc h)).mono ?_); rintro e w' ⟨rfl, hb⟩; have k00 := keep_cell hb z0 k00; have k01 := keep_cell hb z0 k01; have k10 := keep_cell hb z1 k10; have k11 := keep_cell hb z1 k11; have k20 := keep_cell hb z2 k20; have k21 := keep_cell hb z2 k21; have z0 := Nat.lt_of_lt_of_le z0 hb.size; have z1 := Nat.lt_of_lt_of_le z1 hb.size; have z2 := Nat.lt_of_lt_of_le z2 hb.size; have g := (by first | exact bch g hb | exact bch g.drew hb); clear hb) | ((with_reducible refine ((prec_any X0 Y0 X2 Y2 p q t u H0.out H2.out _).mono (fun _ _ h => TB.bool Gpac h)).mono ?_); rintro e w' ⟨rfl, hb⟩; have k00 := keep_cell hb z0 k00; have k01 := keep_cell hb z0 k01; have k10 := keep_cell hb z1 k10; have k11 := keep_cell hb z1 k11; have k20 := keep_cell hb z2 k20; have k21 := keep_cell hb z2 k21; have z0 := Nat.lt_of_lt_of_le z0 hb.size; have z1 := Nat.lt_of_lt_of_le z1 hb.size; have z2 := Nat.lt_of_lt_of_le z2 hb.size; have g := (by first | exact bch g hb | exact bch g.drew hb); clear hb)))
      go_meet
      exact ⟨rfl, k00, k01, z0, k10, k11, z1, k20, k21, z2, g⟩
  case rest =>
  clear k00 k01 z0 k10 k11 z1 k20 k21 z2 g
  obtain ⟨rfl, k00, k01, z0, k10, k11, z1, k20, k21, z2, g⟩ := hcut
  go_upto_region 10 with fail
  go_cut [102] (fun v wx => v = .bool false ∧ wx.cell? ⟨B0, 0, none⟩ = some (.float .f64 X0) ∧ wx.cell? ⟨B0, 1, none⟩ = some (.float .f64 Y0) ∧ B0 < wx.heap.size ∧ wx.cell? ⟨B1, 0, none⟩ = some (.float .f64 X1) ∧ wx.cell? ⟨B1, 1, none⟩ = some (.float .f64 Y1) ∧ B1 < wx.heap.size ∧ wx.cell? ⟨B2, 0, none⟩ = some (.float .f64 X2) ∧ wx.cell? ⟨B2, 1, none⟩ = some (.float .f64 Y2) ∧ B2 < wx.heap.size ∧ Below w.heap.size w wx)
  case first =>
    rcases ZW4.out with rfl | ⟨rfl, rfl, rfl⟩ <;> rcases ZW5.out with rfl | ⟨rfl, rfl⟩ <;> rcases ZW6.out with rfl | ⟨rfl, rfl⟩
    all_goals
      go_wp2_with (first | (go_at_call 49; first | ((with_reducible refine ((sprec_any X0 Y0 X1 Y1 p q r s H0.out H1.out _).mono (fun _ _ h => TB.bool Gvab h)).mono ?_); rintro e w' ⟨rfl, hb⟩; have k00 := keep_cell hb z0 k00; have k01 := keep_cell hb z0 k01; have k10 := keep_cell hb z1 k10; have k11 := keep_cell hb z1 k11; have k20 := keep_cell hb z2 k20; have k21 := keep_cell hb z2 k21; have z0 := Nat.lt_of_lt_of_le z0 hb.size; have z1 := Nat.lt_of_lt_of_le z1 hb.size; have z2 := Nat.lt_of_lt_of_le z2 hb.size; have g := (by first | exact bch g hb | exact bch g.drew hb); clear hb)) | (go_at_call 47; first | ((with_reducible refine ((prec_any X0 Y0 X1 Y1 p q r s H0.out H1.out _).mono (fun _ _ h => TB.bool Gpab h)).mono ?_); rintro e w' ⟨rfl, hb⟩; have k00 := keep_cell hb z0 k00; have k01 := keep_cell hb z0 k01; have k10 := keep_cell hb z1 k10; have k11 := keep_cell hb z1 k11; have k20 := keep_cell hb z2 k20; have k21 := keep_cell hb z2 k21; have z0 := Nat.lt_of_lt_of_le z0 hb.size; have z1 := Nat.lt_of_lt_of_le z1 hb.size; have z2 := Nat.lt_of_lt_of_le z2 hb.size; have g := (by first | exact bch g hb | exact bch g.drew hb); clear hb)) | (go_at_call 42; first | ((with_reducible refine ((disjoint_any X0 Y0 X1 Y1 p q r s H0.out H1.out _).mono (fun _ _ h => TB.bool Gdab h)).mono ?_); rintro e w' ⟨rfl, hb⟩; have k00 := keep_cell hb z0 k00; have k01 := keep_cell hb z0 k01; have k10 := keep_cell hb z1 k10; have k11 := keep_cell hb z1 k11; have k20 := keep_cell hb z2 k20; have k21 := keep_cell hb z2 k21; have z0 := Nat.lt_of_lt_of_le z0 hb.size; have z1 := Nat.lt_of_lt_of_le z1 hb.size; have z2 := Nat.lt_of_lt_of_le z2 hb.size; have g := (by first | exact bch g hb | exact bch g.drew hb); clear hb)) | (go_at_call 45; first | ((with_reducible refine ((sless_any X0 Y0 X1 Y1 p q r s H0.out H1.out _).mono (fun _ _ h => TB.bool Gsab h)).mono ?_); rintro e w' ⟨rfl, hb⟩; have k00 := keep_cell hb z0 k00; have k01 := keep_cell hb z0 k01; have k10 := keep_cell hb z1 k10; have k11 := keep_cell hb z1 k11; have k20 := keep_cell hb z2 k20; have k21 := keep_cell hb z2 k21; have z0 := Nat.lt_of_lt_of_le z0 hb.size; have z1 := Nat.lt_of_lt_of_le z1 hb.size; have z2 := Nat.lt_of_lt_of_le z2 hb.size; have g := (by first | exact bch g hb | exact bch g.drew hb); clear hb)) | (go_at_call 43; first | ((with_reducible refine ((less_any X0 Y0 X1 Y1 p q r s H0.out H1.out _).mono (fun _ _ h => TB.bool Glab h)).mono ?_); rintro e w' ⟨rfl, hb⟩; have k00 := keep_cell hb z0 k00; have k01 := keep_cell hb z0 k01; have k10 := keep_cell hb z1 k10; have k11 := keep_cell hb z1 k11; have k20 := keep_cell hb z2 k20; have k21 := keep_cell hb z2 k21; have z0 := Nat.lt_of_lt_of_le z0 hb.size; have z1 := Nat.lt_of_lt_of_le z1 hb.size; have z2 := Nat.lt_of_lt_of_le z2 hb.size; have g := (by first | exact bch g hb | exact bch g.drew hb); clear hb)) | (go_at_call 53; first | ((with_reducible refine ((interior_any X0 Y0 X1 Y1 p q r s H0.out H1.out _).mono (fun _ _ h => TB.bool Giab h)).mono ?_); rintro e w' ⟨rfl, hb⟩; have k00 := keep_cell hb z0 k00; have k01 := keep_cell hb z0 k01; have k10 := keep_cell hb z1 k10; have k11 := keep_cell hb z1 k11; have k20 := keep_cell hb z2 k20; have k21 := keep_cell hb z2 k21; have z0 := Nat.lt_of_lt_of_le z0 hb.size; have z1 := Nat.lt_of_lt_of_le z1 hb.size; have z2 := Nat.lt_of_lt_of_le z2 hb.size; have g := (by first | exact bch g hb | exact bch g.drew hb); clear hb)) | (go_at_call 40; first | ((with_reducible refine ((subset_any X0 Y0 X1 Y1 p q r s H0.out H1.out _).mono (fun _ _ h => TB.bool Guab h)).mono ?_); rintro e w' ⟨rfl, hb⟩; have k00 := keep_cell hb z0 k00; have k01 := keep_cell hb z0 k01; have k10 := keep_cell hb z1 k10; have k11 := keep_cell hb z1 k11; have k20 := keep_cell hb z2 k20; have k21 := keep_cell hb z2 k21; have z0 := Nat.lt_of_lt_of_le z0 hb.size; have z1 := Nat.lt_of_lt_of_le z1 hb.size; have z2 := Nat.lt_of_lt_of_le z2 hb.size; have g := (by first | exact bch g hb | exact bch g.drew hb); clear hb)))
      go_meet
      exact ⟨rfl, k00, k01, z0, k10, k11, z1, k20, k21, z2, g⟩
  case rest =>
  clear k00 k01 z0 k10 k11 z1 k20 k21 z2 g
  obtain ⟨rfl, k00, k01, z0, k10, k11, z1, k20, k21, z2, g⟩ := hcut
  go_upto_region 12 with fail
  go_cut [121] (fun v wx => v = .bool false ∧ wx.cell? ⟨B0, 0, none⟩ = some (.float .f64 X0) ∧ wx.cell? ⟨B0, 1, none⟩ = some (.float .f64 Y0) ∧ B0 < wx.heap.size ∧ wx.cell? ⟨B1, 0, none⟩ = some (.float .f64 X1) ∧ wx.cell? ⟨B1, 1, none⟩ = some (.float .f64 Y1) ∧ B1 < wx.heap.size ∧ wx.cell? ⟨B2, 0, none⟩ = some (.float .f64 X2) ∧ wx.cell? ⟨B2, 1, none⟩ = some (.float .f64 Y2) ∧ B2 < wx.heap.size ∧ Below w.heap.size w wx)
  case first =>
    rcases ZW7.out with rfl | ⟨rfl, rfl⟩ | ⟨rfl, rfl, rfl⟩ | ⟨rfl, rfl, rfl, rfl⟩
    all_goals
      go_wp2_with (first | (go_at_call 31; first | ((with_reducible refine ((isempty_any X0 Y0 p q H0.out _).mono (fun _ _ h => TB.bool Gea h)).mono ?_); rintro e w' ⟨rfl, hb⟩; have k00 := keep_cell hb z0 k00; have k01 := keep_cell hb z0 k01; have k10 := keep_cell hb z1 k10; have k11 := keep_cell hb z1 k11; have k20 := keep_cell hb z2 k20; have k21 := keep_cell hb z2 k21; have z0 := Nat.lt_of_lt_of_le z0 hb.size; have z1 := Nat.lt_of_lt_of_le z1 hb.size; have z2 := Nat.lt_of_lt_of_le z2 hb.size; have g := (by first | exact bch g hb | exact bch g.drew hb); clear hb) | ((with_reducible refine ((isempty_any X1 Y1 r s H1.out _).mono (fun _ _ h => TB.bool Geb h)).mono ?_); rintro e w' ⟨rfl, hb⟩; have k00 := keep_cell hb z0 k00; have k01 := keep_cell hb z0 k01; have k10 := keep_cell hb z1 k10; have k11 := keep_cell hb z1 k11; have k20 := keep_cell hb z2 k20; have k21 := keep_cell hb z2 k21; have z0 := Nat.lt_of_lt_of_le z0 hb.size; have z1 := Nat.lt_of_lt_of_le z1 hb.size; have z2 := Nat.lt_of_lt_of_le z2 hb.size; have g := (by first | exact bch g hb | exact bch g.drew hb); clear hb)) | (go_at_call 47; first | ((with_reducible refine ((prec_any X0 Y0 X1 Y1 p q r s H0.out H1.out _).mono (fun _ _ h => TB.bool Gpab h)).mono ?_); rintro e w' ⟨rfl, hb⟩; have k00 := keep_cell hb z0 k00; have k01 := keep_cell hb z0 k01; have k10 := keep_cell hb z1 k10; have k11 := keep_cell hb z1 k11; have k20 := keep_cell hb z2 k20; have k21 := keep_cell hb z2 k21; have z0 := Nat.lt_of_lt_of_le z0 hb.size; have z1 := Nat.lt_of_lt_of_le z1 hb.size; have z2 := Nat.lt_of_lt_of_le z2 hb.size; have g := (by first | exact bch g hb | exact bch g.drew hb); clear hb)) | (go_at_call 43; first | ((with_reducible refine ((less_any X0 Y0 X1 Y1 p q r s H0.out H1.out _).mono (fun _ _ h => TB.bool Glab h)).mono ?_); rintro e w' ⟨rfl, hb⟩; have k00 := keep_cell hb z0 k00; have k01 := keep_cell hb z0 k01; have k10 := keep_cell hb z1 k10; have k11 := keep_cell hb z1 k11; have k20 := keep_cell hb z2 k20; have k21 := keep_cell hb z2 k21; have z0 := Nat.lt_of_lt_of_le z0 hb.size; have z1 := Nat.lt_of_lt_of_le z1 hb.size; have z2 := Nat.lt_of_lt_of_le z2 hb.size; have g := (by first | exact bch g hb | exact bch g.drew hb); clear hb)))
      go_meet
      exact ⟨rfl, k00, k01, z0, k10, k11, z1, k20, k21, z2, g⟩
  case rest =>
  clear k00 k01 z0 k10 k11 z1 k20 k21 z2 g
  obtain ⟨rfl, k00, k01, z0, k10, k11, z1, k20, k21, z2, g⟩ := hcut
  rcases ZW8.out with ⟨rfl, rfl⟩ | ⟨rfl, rfl, rfl⟩ | ⟨rfl, rfl, rfl⟩
  · go_wp2_with fail
    refine wp_region_held_drew (S := (fun wx => wx.cell? ⟨B0, 0, none⟩ = some (.float .f64 X0) ∧ wx.cell? ⟨B0, 1, none⟩ = some (.float .f64 Y0) ∧ B0 < wx.heap.size ∧ wx.cell? ⟨B1, 0, none⟩ = some (.float .f64 X1) ∧ wx.cell? ⟨B1, 1, none⟩ = some (.float .f64 Y1) ∧ B1 < wx.heap.size ∧ wx.cell? ⟨B2, 0, none⟩ = some (.float .f64 X2) ∧ wx.cell? ⟨B2, 1, none⟩ = some (.float .f64 Y2) ∧ B2 < wx.heap.size ∧ Below w.heap.size w wx)) (by kernel_rfl) ?_ (fun hHeld => ?_)
    · (((try dsimp only); (repeat' apply And.intro) <;> first | assumption | (simp [*]; done) | exact Below.drew (by assumption) | exact keep_cell hb1 (by first | (dsimp only; omega) | (simp; omega)) (by simp [*]) | (have := hb1.size; omega) | (have := hb1.size; simp at this; omega) | exact bch (by simp [*]) hb1 | exact bch (Below.drew (by simp [*])) hb1))
    refine wpAnyH_take (i := 0) (oi := { dst := some 122, op := Op.load 28 (Operand.tmp 7), type := 28, pos := "law.go:223", after := #[], guard := none }) (v := ?_) rfl (by kernel_rfl) (by kernel_rfl) (by kernel_rfl) (fun _ _ _ h => h) (Or.inl ⟨by rfl, ?_⟩) (by assumption) ?_
    rotate_left
    · intro w hSw; (try dsimp only at hSw); go_simp
      try with_reducible rfl
    try simp only [Act.put, List.setIfInBounds_toArray, List.set_cons_zero, List.set_cons_succ]
    refine wpAnyH_take (i := 1) (oi := { dst := some 123, op := Op.load 28 (Operand.tmp 8), type := 28, pos := "law.go:223", after := #[], guard := none }) (v := ?_) rfl (by kernel_rfl) (by kernel_rfl) (by kernel_rfl) (fun _ _ _ h => h) (Or.inl ⟨by rfl, ?_⟩) (by assumption) ?_
    rotate_left
    · intro w hSw; (try dsimp only at hSw); go_simp
      try with_reducible rfl
    try simp only [Act.put, List.setIfInBounds_toArray, List.set_cons_zero, List.set_cons_succ]
    refine wpAnyH_take (i := 8) (oi := { dst := some 130, op := Op.load 28 (Operand.tmp 7), type := 28, pos := "law.go:223", after := #[], guard := none }) (v := ?_) rfl (by kernel_rfl) (by kernel_rfl) (by kernel_rfl) (fun _ _ _ h => h) (Or.inl ⟨by rfl, ?_⟩) (by assumption) ?_
    rotate_left
    · intro w hSw; (try dsimp only at hSw); go_simp
      try with_reducible rfl
    try simp only [Act.put, List.setIfInBounds_toArray, List.set_cons_zero, List.set_cons_succ]
    refine wpAnyH_take (i := 9) (oi := { dst := some 131, op := Op.load 28 (Operand.tmp 8), type := 28, pos := "law.go:223", after := #[], guard := none }) (v := ?_) rfl (by kernel_rfl) (by kernel_rfl) (by kernel_rfl) (fun _ _ _ h => h) (Or.inl ⟨by rfl, ?_⟩) (by assumption) ?_
    rotate_left
    · intro w hSw; (try dsimp only at hSw); go_simp
      try with_reducible rfl
    try simp only [Act.put, List.setIfInBounds_toArray, List.set_cons_zero, List.set_cons_succ]
    refine wpAnyH_ready (rs := [2]) (by kernel_rfl) (by simp) ?_
    refine AllReadyH.cons (o := { dst := some 124, op := Op.call { callee := Callee.value (Operand.func 43), args := #[Operand.tmp 122, Operand.tmp 123], argTypes := #[28, 28] }, type := 4, pos := "law.go:223", after := #[{ on := 0, ground := Ground.data }, { on := 1, ground := Ground.data }], guard := none }) rfl (fun K hK => ?_) AllReadyH.nil
    go_simp
    (first | (go_at_call 43; first | ((with_reducible refine ((less_any X0 Y0 X1 Y1 p q r s H0.out H1.out _).mono (fun _ _ h => TB.bool Glab h)).mono ?_); rintro e w' ⟨rfl, hb1⟩) | ((with_reducible refine ((less_any X1 Y1 X0 Y0 r s p q H1.out H0.out _).mono (fun _ _ h => TB.bool Glba h)).mono ?_); rintro e w' ⟨rfl, hb1⟩)) | (go_at_call 41; first | ((with_reducible refine ((equal_any X0 Y0 X1 Y1 p q r s H0.out H1.out _).mono (fun _ _ h => TB.bool Gqab h)).mono ?_); rintro e w' ⟨rfl, hb1⟩)))
    go_wp2_with fail
    refine hK.out _ _ ?_ (fun hHeld => ?_)
    · (((try dsimp only); (repeat' apply And.intro) <;> first | assumption | (simp [*]; done) | exact Below.drew (by assumption) | exact keep_cell hb1 (by first | (dsimp only; omega) | (simp; omega)) (by simp [*]) | (have := hb1.size; omega) | (have := hb1.size; simp at this; omega) | exact bch (by simp [*]) hb1 | exact bch (Below.drew (by simp [*])) hb1))
    clear hK K
    try simp only [Act.put, List.setIfInBounds_toArray, List.set_cons_zero, List.set_cons_succ]
    refine wpAnyH_take (i := 3) (oi := { dst := some 125, op := Op.move (Operand.tmp 124), type := 4, pos := "law.go:223", after := #[{ on := 2, ground := Ground.data }, { on := 2, ground := Ground.chain }], guard := none }) (v := ?_) rfl (by kernel_rfl) (by kernel_rfl) (by kernel_rfl) (fun _ _ _ h => h) (Or.inl ⟨by rfl, ?_⟩) (by assumption) ?_
    rotate_left
    · intro w hSw; (try dsimp only at hSw); go_simp
      try with_reducible rfl
    try simp only [Act.put, List.setIfInBounds_toArray, List.set_cons_zero, List.set_cons_succ]
    refine wpAnyH_take (i := 4) (oi := { dst := some 126, op := Op.load 28 (Operand.tmp 8), type := 28, pos := "law.go:223", after := #[{ on := 3, ground := Ground.guard }], guard := some (3, true) }) (v := undef) rfl (by kernel_rfl) (by kernel_rfl) (by kernel_rfl) (fun _ _ _ h => h) (Or.inr ⟨by rfl, rfl⟩) (by assumption) ?_
    try simp only [Act.put, List.setIfInBounds_toArray, List.set_cons_zero, List.set_cons_succ]
    refine wpAnyH_take (i := 5) (oi := { dst := some 127, op := Op.load 28 (Operand.tmp 7), type := 28, pos := "law.go:223", after := #[{ on := 3, ground := Ground.guard }], guard := some (3, true) }) (v := undef) rfl (by kernel_rfl) (by kernel_rfl) (by kernel_rfl) (fun _ _ _ h => h) (Or.inr ⟨by rfl, rfl⟩) (by assumption) ?_
    try simp only [Act.put, List.setIfInBounds_toArray, List.set_cons_zero, List.set_cons_succ]
    refine wpAnyH_take (i := 6) (oi := { dst := some 128, op := Op.call { callee := Callee.value (Operand.func 43), args := #[Operand.tmp 126, Operand.tmp 127], argTypes := #[28, 28] }, type := 4, pos := "law.go:223", after := #[{ on := 4, ground := Ground.data }, { on := 5, ground := Ground.data }, { on := 3, ground := Ground.chain }, { on := 3, ground := Ground.guard }], guard := some (3, true) }) (v := undef) rfl (by kernel_rfl) (by kernel_rfl) (by kernel_rfl) (fun _ _ _ h => h) (Or.inr ⟨by rfl, rfl⟩) (by assumption) ?_
    try simp only [Act.put, List.setIfInBounds_toArray, List.set_cons_zero, List.set_cons_succ]
    refine wpAnyH_take (i := 7) (oi := { dst := some 129, op := Op.pick (Operand.tmp 125) (Operand.tmp 128) (Operand.const (Value.bool false)), type := 4, pos := "law.go:223", after := #[{ on := 3, ground := Ground.data }, { on := 6, ground := Ground.data }], guard := none }) (v := ?_) rfl (by kernel_rfl) (by kernel_rfl) (by kernel_rfl) (fun _ _ _ h => h) (Or.inl ⟨by rfl, ?_⟩) (by assumption) ?_
    rotate_left
    · intro w hSw; (try dsimp only at hSw); go_simp
      try with_reducible rfl
    try simp only [Act.put, List.setIfInBounds_toArray, List.set_cons_zero, List.set_cons_succ]
    refine wpAnyH_ready (rs := [10]) (by kernel_rfl) (by simp) ?_
    refine AllReadyH.cons (o := { dst := some 132, op := Op.call { callee := Callee.value (Operand.func 41), args := #[Operand.tmp 130, Operand.tmp 131], argTypes := #[28, 28] }, type := 4, pos := "law.go:223", after := #[{ on := 8, ground := Ground.data }, { on := 9, ground := Ground.data }, { on := 6, ground := Ground.chain }], guard := none }) rfl (fun K hK => ?_) AllReadyH.nil
    go_simp
    (first | (go_at_call 43; first | ((with_reducible refine ((less_any X0 Y0 X1 Y1 p q r s H0.out H1.out _).mono (fun _ _ h => TB.bool Glab h)).mono ?_); rintro e w' ⟨rfl, hb1⟩) | ((with_reducible refine ((less_any X1 Y1 X0 Y0 r s p q H1.out H0.out _).mono (fun _ _ h => TB.bool Glba h)).mono ?_); rintro e w' ⟨rfl, hb1⟩)) | (go_at_call 41; first | ((with_reducible refine ((equal_any X0 Y0 X1 Y1 p q r s H0.out H1.out _).mono (fun _ _ h => TB.bool Gqab h)).mono ?_); rintro e w' ⟨rfl, hb1⟩)))
    go_wp2_with fail
    refine hK.out _ _ ?_ (fun hHeld => ?_)
    · (((try dsimp only); (repeat' apply And.intro) <;> first | assumption | (simp [*]; done) | exact Below.drew (by assumption) | exact keep_cell hb1 (by first | (dsimp only; omega) | (simp; omega)) (by simp [*]) | (have := hb1.size; omega) | (have := hb1.size; simp at this; omega) | exact bch (by simp [*]) hb1 | exact bch (Below.drew (by simp [*])) hb1))
    clear hK K
    try simp only [Act.put, List.setIfInBounds_toArray, List.set_cons_zero, List.set_cons_succ]
    refine wpAnyH_take (i := 11) (oi := { dst := some 133, op := Op.binOp BinOp.eql 4 (Operand.tmp 129) (Operand.tmp 132) 4, type := 4, pos := "law.go:223", after := #[{ on := 7, ground := Ground.data }, { on := 10, ground := Ground.data }], guard := none }) (v := ?_) rfl (by kernel_rfl) (by kernel_rfl) (by kernel_rfl) (fun _ _ _ h => h) (Or.inl ⟨by rfl, ?_⟩) (by assumption) ?_
    rotate_left
    · intro w hSw; (try dsimp only at hSw); go_simp
      try with_reducible rfl
    try simp only [Act.put, List.setIfInBounds_toArray, List.set_cons_zero, List.set_cons_succ]
    refine wpAnyH_take (i := 12) (oi := { dst := some 6, op := Op.assign (Operand.tmp 133), type := 4, pos := "law.go:223", after := #[{ on := 11, ground := Ground.data }, { on := 10, ground := Ground.chain }, { on := 0, ground := Ground.phase }, { on := 1, ground := Ground.phase }, { on := 2, ground := Ground.phase }, { on := 3, ground := Ground.phase }, { on := 4, ground := Ground.phase }, { on := 5, ground := Ground.phase }, { on := 6, ground := Ground.phase }, { on := 7, ground := Ground.phase }, { on := 8, ground := Ground.phase }, { on := 9, ground := Ground.phase }, { on := 10, ground := Ground.phase }, { on := 11, ground := Ground.phase }], guard := none }) (v := ?_) rfl (by kernel_rfl) (by kernel_rfl) (by kernel_rfl) (fun _ _ _ h => h) (Or.inl ⟨by rfl, ?_⟩) (by assumption) ?_
    rotate_left
    · intro w hSw; (try dsimp only at hSw); go_simp
      try with_reducible rfl
    try simp only [Act.put, List.setIfInBounds_toArray, List.set_cons_zero, List.set_cons_succ]
    refine wpAnyH_done (by kernel_rfl) ?_ _
    go_wp2
    go_ret
    exact ⟨rfl, by simp [*]⟩
  all_goals
    go_wp2_with fail
    go_region_held3 (fun wx => wx.cell? ⟨B0, 0, none⟩ = some (.float .f64 X0) ∧ wx.cell? ⟨B0, 1, none⟩ = some (.float .f64 Y0) ∧ B0 < wx.heap.size ∧ wx.cell? ⟨B1, 0, none⟩ = some (.float .f64 X1) ∧ wx.cell? ⟨B1, 1, none⟩ = some (.float .f64 Y1) ∧ B1 < wx.heap.size ∧ wx.cell? ⟨B2, 0, none⟩ = some (.float .f64 X2) ∧ wx.cell? ⟨B2, 1, none⟩ = some (.float .f64 Y2) ∧ B2 < wx.heap.size ∧ Below w.heap.size w wx)
          (((try dsimp only); (repeat' apply And.intro) <;> first | assumption | (simp [*]; done) | exact Below.drew (by assumption) | exact keep_cell hb1 (by first | (dsimp only; omega) | (simp; omega)) (by simp [*]) | (have := hb1.size; omega) | (have := hb1.size; simp at this; omega) | exact bch (by simp [*]) hb1 | exact bch (Below.drew (by simp [*])) hb1))
          (first | (go_at_call 43; first | ((with_reducible refine ((less_any X0 Y0 X1 Y1 p q r s H0.out H1.out _).mono (fun _ _ h => TB.bool Glab h)).mono ?_); rintro e w' ⟨rfl, hb1⟩) | ((with_reducible refine ((less_any X1 Y1 X0 Y0 r s p q H1.out H0.out _).mono (fun _ _ h => TB.bool Glba h)).mono ?_); rintro e w' ⟨rfl, hb1⟩)) | (go_at_call 41; first | ((with_reducible refine ((equal_any X0 Y0 X1 Y1 p q r s H0.out H1.out _).mono (fun _ _ h => TB.bool Gqab h)).mono ?_); rintro e w' ⟨rfl, hb1⟩)))
    all_goals
      go_wp2
      go_ret
      exact ⟨rfl, by simp [*]⟩

end Go.Proofs.Ytljnadoodbninaa.relChains

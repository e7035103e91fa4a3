/- What Bisect cuts. The walk. -/
import Derived.Test.YtljnadoodbninaaWCen
import Derived.Test.YtljnadoodbninaaWVal
import Derived.Test.YtljnadoodbninaaWMember
import Derived.Test.YtljnadoodbninaaWAwake
import Derived.Test.YtljnadoodbninaaWTold
namespace Go.Proofs.Ytljnadoodbninaa.relCuts
open Go.RowKit

theorem fsame (x : Nat) (y : Nat) (h : FloatKind.f64.format.order x y = some .eq) : (FloatKind.f64.format.order x y == some Ordering.eq) = true := by rw [h]; rfl
theorem hull_cut (p c q : Int) (h1 : Vg.Iv p c) (h2 : Vg.Iv c q) (h3 : p < c) (h4 : c < q) (w : World) : Calls Try.prog 20 #[.agg #[.float .f64 (Vg.atn true p), .float .f64 (Vg.atn true c)], .agg #[.float .f64 (Vg.atn true c), .float .f64 (Vg.atn true q)]] w fun e w' => e = .returned (.agg #[.float .f64 (Vg.atn true p), .float .f64 (Vg.atn true q)]) ∧ Below w.heap.size w w' := by
  refine (hull_any _ _ _ _ _ _ _ _ (Vg.Rd.self h1) (Vg.Rd.self h2) w).mono ?_; rintro e w' ⟨x, y, rfl, h, hb⟩
  have hpi := Vg.PI_pos
  have e : x = p ∧ y = q := by unfold Join at h; unfold Vg.Iv at h1 h2; omega
  rw [e.1, e.2]
  exact ⟨rfl, hb⟩
theorem meet_cut (p c q : Int) (h1 : Vg.Iv p c) (h2 : Vg.Iv c q) (h3 : p < c) (h4 : c < q) (w : World) : Calls Try.prog 23 #[.agg #[.float .f64 (Vg.atn true p), .float .f64 (Vg.atn true c)], .agg #[.float .f64 (Vg.atn true c), .float .f64 (Vg.atn true q)]] w fun e w' => e = .returned (.agg #[.float .f64 (Vg.atn true c), .float .f64 (Vg.atn true c)]) ∧ Below w.heap.size w w' := by
  refine (meet_any _ _ _ _ _ _ _ _ (Vg.Rd.self h1) (Vg.Rd.self h2) w).mono ?_; rintro e w' ⟨x, y, rfl, h, hb⟩
  have hpi := Vg.PI_pos
  have e : x = c ∧ y = c := by unfold Meet at h; unfold Vg.Iv at h1 h2; omega
  rw [e.1, e.2]
  exact ⟨rfl, hb⟩

set_option maxRecDepth 40000 in
set_option maxHeartbeats 16000000 in
theorem walk_yes (X0 Y0 A B C : Nat) (NX : ∀ w : World, Calls Try.prog 21 #[.agg #[.int .u64 (X0 : Int), .int .u64 (Y0 : Int)]] w (fun e w' => e = .returned (.agg #[.float .f64 X0, .float .f64 Y0]) ∧ Below w.heap.size w w')) (RR : ∀ w : World, Calls Try.prog 29 #[.agg #[.int .u64 (X0 : Int), .int .u64 (Y0 : Int)]] w (fun e w' => e = .returned (.agg #[.int .u64 (A : Int), .int .u64 (B : Int)]) ∧ Below w.heap.size w w')) (BI : ∀ w : World, Calls Try.prog 60 #[.agg #[.float .f64 X0, .float .f64 Y0]] w (fun e w' => e = .returned (.tuple #[.agg #[.float .f64 A, .float .f64 C], .agg #[.float .f64 C, .float .f64 B], .bool true]) ∧ Below w.heap.size w w')) (NY : ∀ w : World, Calls Try.prog 21 #[.agg #[.int .u64 (A : Int), .int .u64 (B : Int)]] w (fun e w' => e = .returned (.agg #[.float .f64 A, .float .f64 B]) ∧ Below w.heap.size w w')) (V1 : ∀ w : World, Calls Try.prog 37 #[.agg #[.int .u64 (A : Int), .int .u64 (C : Int)]] w (fun e w' => e = .returned (.bool true) ∧ Below w.heap.size w w')) (V2 : ∀ w : World, Calls Try.prog 37 #[.agg #[.int .u64 (C : Int), .int .u64 (B : Int)]] w (fun e w' => e = .returned (.bool true) ∧ Below w.heap.size w w')) (IN : ∀ w : World, Calls Try.prog 30 #[.int .u64 (C : Int)] w (fun e w' => e = .returned (.bool false) ∧ w = w')) (AB1 : ∀ w : World, Calls Try.prog 64 #[.int .u64 (C : Int), .int .u64 (A : Int)] w (fun e w' => e = .returned (.bool true) ∧ w = w')) (AB2 : ∀ w : World, Calls Try.prog 64 #[.int .u64 (B : Int), .int .u64 (C : Int)] w (fun e w' => e = .returned (.bool true) ∧ w = w')) (HU : ∀ w : World, Calls Try.prog 20 #[.agg #[.float .f64 A, .float .f64 C], .agg #[.float .f64 C, .float .f64 B]] w (fun e w' => e = .returned (.agg #[.float .f64 A, .float .f64 B]) ∧ Below w.heap.size w w')) (ME : ∀ w : World, Calls Try.prog 23 #[.agg #[.float .f64 A, .float .f64 C], .agg #[.float .f64 C, .float .f64 B]] w (fun e w' => e = .returned (.agg #[.float .f64 C, .float .f64 C]) ∧ Below w.heap.size w w')) (SI : ∀ w : World, Calls Try.prog 35 #[.agg #[.float .f64 C, .float .f64 C]] w (fun e w' => e = .returned (.bool true) ∧ Below w.heap.size w w')) (E1 : (∀ w : World, (Op.equalIn 10000 28 (.agg #[.float .f64 A, .float .f64 B]) (.agg #[.float .f64 A, .float .f64 B])).run Try.prog w = .ok true w)) (w : World) : Calls Try.prog 17 #[.agg #[.int .u64 (X0 : Int), .int .u64 (Y0 : Int)]] w fun e w' => e = .returned (.bool true) ∧ Below w.heap.size w w' := by
  have hst := sto
  go_enter Try.func17, Try.ntmps17
  go_upto_region 1 with fail
  have k00 : (w.alloc (.cells #[.int .u64 (X0 : Int), .int .u64 (Y0 : Int)] 24)).cell? ⟨w.heap.size, 0, none⟩ = some (.int .u64 (X0 : Int)) := by simp [go_sem]
  have k01 : (w.alloc (.cells #[.int .u64 (X0 : Int), .int .u64 (Y0 : Int)] 24)).cell? ⟨w.heap.size, 1, none⟩ = some (.int .u64 (Y0 : Int)) := by simp [go_sem]
  have z0 : w.heap.size < (w.alloc (.cells #[.int .u64 (X0 : Int), .int .u64 (Y0 : Int)] 24)).heap.size := by simp
  have g : Below w.heap.size w (w.alloc (.cells #[.int .u64 (X0 : Int), .int .u64 (Y0 : Int)] 24)) := b_one
  have S9 : w.heap.size ≤ w.heap.size := Nat.le_refl _
  generalize hW : (w.alloc (.cells #[.int .u64 (X0 : Int), .int .u64 (Y0 : Int)] 24)) = W0 at *
  clear hW
  clear S9
  go_upto_region 3 with (first | (go_at_call 28; first | ((with_reducible refine (awake_any _).mono ?_); rintro e w' ⟨rfl, hb1⟩; have k00 := keep_cell hb1 z0 k00; have k01 := keep_cell hb1 z0 k01; have z0 := Nat.lt_of_lt_of_le z0 hb1.size; have g := (by first | exact bch g hb1 | exact bch g.drew hb1); clear hb1)))
  go_cut [3, 4, 5] (fun v3 v4 v5 wx => ∃ B1 B2 : Nat, v3 = .pointer (some ⟨B1, 0, none⟩) ∧ v4 = .pointer (some ⟨B2, 0, none⟩) ∧ v5 = .bool true ∧ Below w.heap.size w wx ∧ wx.cell? ⟨w.heap.size, 0, none⟩ = some (.int .u64 (X0 : Int)) ∧ wx.cell? ⟨w.heap.size, 1, none⟩ = some (.int .u64 (Y0 : Int)) ∧ w.heap.size < wx.heap.size ∧ wx.cell? ⟨B1, 0, none⟩ = some (.float .f64 A) ∧ wx.cell? ⟨B1, 1, none⟩ = some (.float .f64 C) ∧ B1 < wx.heap.size ∧ wx.cell? ⟨B2, 0, none⟩ = some (.float .f64 C) ∧ wx.cell? ⟨B2, 1, none⟩ = some (.float .f64 B) ∧ B2 < wx.heap.size)
  case first =>
    as_aux_lemma =>
    go_wp2_with (first | (go_at_call 21; first | ((with_reducible refine (NX _).mono ?_); rintro e w' ⟨rfl, hb1⟩; have k00 := keep_cell hb1 z0 k00; have k01 := keep_cell hb1 z0 k01; have z0 := Nat.lt_of_lt_of_le z0 hb1.size; have g := (by first | exact bch g hb1 | exact bch g.drew hb1); clear hb1)) | (go_at_call 60; first | ((with_reducible refine (BI _).mono ?_); rintro e w' ⟨rfl, hb1⟩; have k00 := keep_cell hb1 z0 k00; have k01 := keep_cell hb1 z0 k01; have z0 := Nat.lt_of_lt_of_le z0 hb1.size; have g := (by first | exact bch g hb1 | exact bch g.drew hb1); clear hb1)))
    go_meet
    refine ⟨_, _, rfl, rfl, rfl, ?_⟩
    (repeat' apply And.intro) <;> first | assumption | exact keep_cell (b_one.alloc (by simp) _) (by dsimp only <;> omega) (by assumption) | exact keep_cell b_one (by dsimp only <;> omega) (by assumption) | (simp [go_sem]; done) | (simp; omega) | exact (g.alloc (by have := g.size; omega) _).alloc (by have := g.size; simp; omega) _ | exact g.alloc (by have := g.size; omega) _
  case rest =>
  as_aux_lemma =>
  clear g k00 k01 z0
  obtain ⟨B1, B2, rfl, rfl, rfl, g, k00, k01, z0, k10, k11, z1, k20, k21, z2⟩ := hcut
  go_upto_region 4 with fail
  go_cut [6] (fun v wx => ∃ B3 : Nat, v = .pointer (some ⟨B3, 0, none⟩) ∧ Below w.heap.size w wx ∧ wx.cell? ⟨w.heap.size, 0, none⟩ = some (.int .u64 (X0 : Int)) ∧ wx.cell? ⟨w.heap.size, 1, none⟩ = some (.int .u64 (Y0 : Int)) ∧ w.heap.size < wx.heap.size ∧ wx.cell? ⟨B1, 0, none⟩ = some (.float .f64 A) ∧ wx.cell? ⟨B1, 1, none⟩ = some (.float .f64 C) ∧ B1 < wx.heap.size ∧ wx.cell? ⟨B2, 0, none⟩ = some (.float .f64 C) ∧ wx.cell? ⟨B2, 1, none⟩ = some (.float .f64 B) ∧ B2 < wx.heap.size ∧ wx.cell? ⟨B3, 0, none⟩ = some (.int .u64 (A : Int)) ∧ wx.cell? ⟨B3, 1, none⟩ = some (.int .u64 (B : Int)) ∧ B3 < wx.heap.size)
  case first =>
    as_aux_lemma =>
    go_wp2_with (first | (go_at_call 29; first | ((with_reducible refine (RR _).mono ?_); rintro e w' ⟨rfl, hb1⟩; have k00 := keep_cell hb1 z0 k00; have k01 := keep_cell hb1 z0 k01; have k10 := keep_cell hb1 z1 k10; have k11 := keep_cell hb1 z1 k11; have k20 := keep_cell hb1 z2 k20; have k21 := keep_cell hb1 z2 k21; have z0 := Nat.lt_of_lt_of_le z0 hb1.size; have z1 := Nat.lt_of_lt_of_le z1 hb1.size; have z2 := Nat.lt_of_lt_of_le z2 hb1.size; have g := (by first | exact bch g hb1 | exact bch g.drew hb1); clear hb1)))
    go_meet
    refine ⟨_, rfl, ?_⟩
    (repeat' apply And.intro) <;> first | assumption | exact keep_cell (b_one.alloc (by simp) _) (by dsimp only <;> omega) (by assumption) | exact keep_cell b_one (by dsimp only <;> omega) (by assumption) | (simp [go_sem]; done) | (simp; omega) | exact (g.alloc (by have := g.size; omega) _).alloc (by have := g.size; simp; omega) _ | exact g.alloc (by have := g.size; omega) _
  case rest =>
  as_aux_lemma =>
  clear g k00 k01 z0 k10 k11 z1 k20 k21 z2
  obtain ⟨B3, rfl, g, k00, k01, z0, k10, k11, z1, k20, k21, z2, k30, k31, z3⟩ := hcut
  go_upto_region 7 with fail
  go_cut [7] (fun v wx => ∃ B4 : Nat, v = .pointer (some ⟨B4, 0, none⟩) ∧ Below w.heap.size w wx ∧ wx.cell? ⟨w.heap.size, 0, none⟩ = some (.int .u64 (X0 : Int)) ∧ wx.cell? ⟨w.heap.size, 1, none⟩ = some (.int .u64 (Y0 : Int)) ∧ w.heap.size < wx.heap.size ∧ wx.cell? ⟨B1, 0, none⟩ = some (.float .f64 A) ∧ wx.cell? ⟨B1, 1, none⟩ = some (.float .f64 C) ∧ B1 < wx.heap.size ∧ wx.cell? ⟨B2, 0, none⟩ = some (.float .f64 C) ∧ wx.cell? ⟨B2, 1, none⟩ = some (.float .f64 B) ∧ B2 < wx.heap.size ∧ wx.cell? ⟨B3, 0, none⟩ = some (.int .u64 (A : Int)) ∧ wx.cell? ⟨B3, 1, none⟩ = some (.int .u64 (B : Int)) ∧ B3 < wx.heap.size ∧ wx.cell? ⟨B4, 0, none⟩ = some (.int .u64 (A : Int)) ∧ wx.cell? ⟨B4, 1, none⟩ = some (.int .u64 (C : Int)) ∧ B4 < wx.heap.size)
  case first =>
    as_aux_lemma =>
    go_wp2_with (first | (go_at_call 19; first | ((with_reducible refine (out_any _ _ _).mono ?_); rintro e w' ⟨rfl, hb1⟩; have k00 := keep_cell hb1 z0 k00; have k01 := keep_cell hb1 z0 k01; have k10 := keep_cell hb1 z1 k10; have k11 := keep_cell hb1 z1 k11; have k20 := keep_cell hb1 z2 k20; have k21 := keep_cell hb1 z2 k21; have k30 := keep_cell hb1 z3 k30; have k31 := keep_cell hb1 z3 k31; have z0 := Nat.lt_of_lt_of_le z0 hb1.size; have z1 := Nat.lt_of_lt_of_le z1 hb1.size; have z2 := Nat.lt_of_lt_of_le z2 hb1.size; have z3 := Nat.lt_of_lt_of_le z3 hb1.size; have g := (by first | exact bch g hb1 | exact bch g.drew hb1); clear hb1)))
    go_meet
    refine ⟨_, rfl, ?_⟩
    (repeat' apply And.intro) <;> first | assumption | exact keep_cell (b_one.alloc (by simp) _) (by dsimp only <;> omega) (by assumption) | exact keep_cell b_one (by dsimp only <;> omega) (by assumption) | (simp [go_sem]; done) | (simp; omega) | exact (g.alloc (by have := g.size; omega) _).alloc (by have := g.size; simp; omega) _ | exact g.alloc (by have := g.size; omega) _
  case rest =>
  as_aux_lemma =>
  clear g k00 k01 z0 k10 k11 z1 k20 k21 z2 k30 k31 z3
  obtain ⟨B4, rfl, g, k00, k01, z0, k10, k11, z1, k20, k21, z2, k30, k31, z3, k40, k41, z4⟩ := hcut
  go_upto_region 8 with fail
  go_cut [8] (fun v wx => ∃ B5 : Nat, v = .pointer (some ⟨B5, 0, none⟩) ∧ Below w.heap.size w wx ∧ wx.cell? ⟨w.heap.size, 0, none⟩ = some (.int .u64 (X0 : Int)) ∧ wx.cell? ⟨w.heap.size, 1, none⟩ = some (.int .u64 (Y0 : Int)) ∧ w.heap.size < wx.heap.size ∧ wx.cell? ⟨B1, 0, none⟩ = some (.float .f64 A) ∧ wx.cell? ⟨B1, 1, none⟩ = some (.float .f64 C) ∧ B1 < wx.heap.size ∧ wx.cell? ⟨B2, 0, none⟩ = some (.float .f64 C) ∧ wx.cell? ⟨B2, 1, none⟩ = some (.float .f64 B) ∧ B2 < wx.heap.size ∧ wx.cell? ⟨B3, 0, none⟩ = some (.int .u64 (A : Int)) ∧ wx.cell? ⟨B3, 1, none⟩ = some (.int .u64 (B : Int)) ∧ B3 < wx.heap.size ∧ wx.cell? ⟨B4, 0, none⟩ = some (.int .u64 (A : Int)) ∧ wx.cell? ⟨B4, 1, none⟩ = some (.int .u64 (C : Int)) ∧ B4 < wx.heap.size ∧ wx.cell? ⟨B5, 0, none⟩ = some (.int .u64 (C : Int)) ∧ wx.cell? ⟨B5, 1, none⟩ = some (.int .u64 (B : Int)) ∧ B5 < wx.heap.size)
  case first =>
    as_aux_lemma =>
    go_wp2_with (first | (go_at_call 19; first | ((with_reducible refine (out_any _ _ _).mono ?_); rintro e w' ⟨rfl, hb1⟩; have k00 := keep_cell hb1 z0 k00; have k01 := keep_cell hb1 z0 k01; have k10 := keep_cell hb1 z1 k10; have k11 := keep_cell hb1 z1 k11; have k20 := keep_cell hb1 z2 k20; have k21 := keep_cell hb1 z2 k21; have k30 := keep_cell hb1 z3 k30; have k31 := keep_cell hb1 z3 k31; have k40 := keep_cell hb1 z4 k40; have k41 := keep_cell hb1 z4 k41; have z0 := Nat.lt_of_lt_of_le z0 hb1.size; have z1 := Nat.lt_of_lt_of_le z1 hb1.size; have z2 := Nat.lt_of_lt_of_le z2 hb1.size; have z3 := Nat.lt_of_lt_of_le z3 hb1.size; have z4 := Nat.lt_of_lt_of_le z4 hb1.size; have g := (by first | exact bch g hb1 | exact bch g.drew hb1); clear hb1)))
    go_meet
    refine ⟨_, rfl, ?_⟩
    (repeat' apply And.intro) <;> first | assumption | exact keep_cell (b_one.alloc (by simp) _) (by dsimp only <;> omega) (by assumption) | exact keep_cell b_one (by dsimp only <;> omega) (by assumption) | (simp [go_sem]; done) | (simp; omega) | exact (g.alloc (by have := g.size; omega) _).alloc (by have := g.size; simp; omega) _ | exact g.alloc (by have := g.size; omega) _
  case rest =>
  as_aux_lemma =>
  clear g k00 k01 z0 k10 k11 z1 k20 k21 z2 k30 k31 z3 k40 k41 z4
  obtain ⟨B5, rfl, g, k00, k01, z0, k10, k11, z1, k20, k21, z2, k30, k31, z3, k40, k41, z4, k50, k51, z5⟩ := hcut
  go_upto_region 11 with (first | (go_at_call 37; first | ((with_reducible refine (V1 _).mono ?_); rintro e w' ⟨rfl, hb1⟩; have k00 := keep_cell hb1 z0 k00; have k01 := keep_cell hb1 z0 k01; have k10 := keep_cell hb1 z1 k10; have k11 := keep_cell hb1 z1 k11; have k20 := keep_cell hb1 z2 k20; have k21 := keep_cell hb1 z2 k21; have k30 := keep_cell hb1 z3 k30; have k31 := keep_cell hb1 z3 k31; have k40 := keep_cell hb1 z4 k40; have k41 := keep_cell hb1 z4 k41; have k50 := keep_cell hb1 z5 k50; have k51 := keep_cell hb1 z5 k51; have z0 := Nat.lt_of_lt_of_le z0 hb1.size; have z1 := Nat.lt_of_lt_of_le z1 hb1.size; have z2 := Nat.lt_of_lt_of_le z2 hb1.size; have z3 := Nat.lt_of_lt_of_le z3 hb1.size; have z4 := Nat.lt_of_lt_of_le z4 hb1.size; have z5 := Nat.lt_of_lt_of_le z5 hb1.size; have g := (by first | exact bch g hb1 | exact bch g.drew hb1); clear hb1) | ((with_reducible refine (V2 _).mono ?_); rintro e w' ⟨rfl, hb1⟩; have k00 := keep_cell hb1 z0 k00; have k01 := keep_cell hb1 z0 k01; have k10 := keep_cell hb1 z1 k10; have k11 := keep_cell hb1 z1 k11; have k20 := keep_cell hb1 z2 k20; have k21 := keep_cell hb1 z2 k21; have k30 := keep_cell hb1 z3 k30; have k31 := keep_cell hb1 z3 k31; have k40 := keep_cell hb1 z4 k40; have k41 := keep_cell hb1 z4 k41; have k50 := keep_cell hb1 z5 k50; have k51 := keep_cell hb1 z5 k51; have z0 := Nat.lt_of_lt_of_le z0 hb1.size; have z1 := Nat.lt_of_lt_of_le z1 hb1.size; have z2 := Nat.lt_of_lt_of_le z2 hb1.size; have z3 := Nat.lt_of_lt_of_le z3 hb1.size; have z4 := Nat.lt_of_lt_of_le z4 hb1.size; have z5 := Nat.lt_of_lt_of_le z5 hb1.size; have g := (by first | exact bch g hb1 | exact bch g.drew hb1); clear hb1)) | (go_at_call 30; refine (IN _).mono ?_; rintro e w' ⟨rfl, rfl⟩))
  go_region_held3 (fun wx => Below w.heap.size w wx ∧ wx.cell? ⟨B1, 0, none⟩ = some (.float .f64 A) ∧ wx.cell? ⟨B1, 1, none⟩ = some (.float .f64 C) ∧ B1 < wx.heap.size ∧ wx.cell? ⟨B2, 0, none⟩ = some (.float .f64 C) ∧ wx.cell? ⟨B2, 1, none⟩ = some (.float .f64 B) ∧ B2 < wx.heap.size ∧ wx.cell? ⟨B3, 0, none⟩ = some (.int .u64 (A : Int)) ∧ wx.cell? ⟨B3, 1, none⟩ = some (.int .u64 (B : Int)) ∧ B3 < wx.heap.size ∧ wx.cell? ⟨B4, 0, none⟩ = some (.int .u64 (A : Int)) ∧ wx.cell? ⟨B4, 1, none⟩ = some (.int .u64 (C : Int)) ∧ B4 < wx.heap.size ∧ wx.cell? ⟨B5, 0, none⟩ = some (.int .u64 (C : Int)) ∧ wx.cell? ⟨B5, 1, none⟩ = some (.int .u64 (B : Int)) ∧ B5 < wx.heap.size)
      (((try dsimp only); (repeat' apply And.intro) <;> first | assumption | (simp [*]; done) | exact Below.drew (by assumption) | exact keep_cell hb1 (by first | (dsimp only; omega) | (simp; omega)) (by simp [*]) | (have := hb1.size; omega) | (have := hb1.size; simp at this; omega) | exact bch (by simp [*]) hb1 | exact bch (Below.drew (by simp [*])) hb1))
      (first | (go_at_call 20; first | ((with_reducible refine (HU _).mono ?_); rintro e w' ⟨rfl, hb1⟩)) | (go_at_call 21; first | ((with_reducible refine (NY _).mono ?_); rintro e w' ⟨rfl, hb1⟩)) | (go_at_call 23; first | ((with_reducible refine (ME _).mono ?_); rintro e w' ⟨rfl, hb1⟩)) | (go_at_call 35; first | ((with_reducible refine (SI _).mono ?_); rintro e w' ⟨rfl, hb1⟩)) | (go_at_call 64; first | ((with_reducible refine (AB1 _).mono ?_); rintro e w' ⟨rfl, rfl⟩) | ((with_reducible refine (AB2 _).mono ?_); rintro e w' ⟨rfl, rfl⟩)))
  all_goals
    go_wp2_with fail
    go_ret
    exact ⟨rfl, by simp [*]⟩

set_option maxRecDepth 40000 in
set_option maxHeartbeats 16000000 in
theorem walk_near (X0 Y0 A B : Nat) (NX : ∀ w : World, Calls Try.prog 21 #[.agg #[.int .u64 (X0 : Int), .int .u64 (Y0 : Int)]] w (fun e w' => e = .returned (.agg #[.float .f64 X0, .float .f64 Y0]) ∧ Below w.heap.size w w')) (RR : ∀ w : World, Calls Try.prog 29 #[.agg #[.int .u64 (X0 : Int), .int .u64 (Y0 : Int)]] w (fun e w' => e = .returned (.agg #[.int .u64 (A : Int), .int .u64 (B : Int)]) ∧ Below w.heap.size w w')) (BI : ∀ w : World, Calls Try.prog 60 #[.agg #[.float .f64 X0, .float .f64 Y0]] w (fun e w' => e = .returned (.tuple #[.agg #[.float .f64 0, .float .f64 0], .agg #[.float .f64 0, .float .f64 0], .bool false]) ∧ Below w.heap.size w w')) (IE : ∀ w : World, Calls Try.prog 31 #[.agg #[.float .f64 X0, .float .f64 Y0]] w (fun e w' => e = .returned (.bool false) ∧ Below w.heap.size w w')) (E0 : (∀ w : World, (Op.equalIn 10000 28 (.agg #[.float .f64 0, .float .f64 0]) (.agg #[.float .f64 0, .float .f64 0])).run Try.prog w = .ok true w)) (SI : ∀ w : World, Calls Try.prog 35 #[.agg #[.float .f64 X0, .float .f64 Y0]] w (fun e w' => e = .returned (.bool false) ∧ Below w.heap.size w w')) (NE : ∀ w : World, Calls Try.prog 63 #[.agg #[.int .u64 (A : Int), .int .u64 (B : Int)]] w (fun e w' => e = .returned (.bool true) ∧ Below w.heap.size w w')) (w : World) : Calls Try.prog 17 #[.agg #[.int .u64 (X0 : Int), .int .u64 (Y0 : Int)]] w fun e w' => e = .returned (.bool true) ∧ Below w.heap.size w w' := by
  have hst := sto
  go_enter Try.func17, Try.ntmps17
  go_upto_region 1 with fail
  have k00 : (w.alloc (.cells #[.int .u64 (X0 : Int), .int .u64 (Y0 : Int)] 24)).cell? ⟨w.heap.size, 0, none⟩ = some (.int .u64 (X0 : Int)) := by simp [go_sem]
  have k01 : (w.alloc (.cells #[.int .u64 (X0 : Int), .int .u64 (Y0 : Int)] 24)).cell? ⟨w.heap.size, 1, none⟩ = some (.int .u64 (Y0 : Int)) := by simp [go_sem]
  have z0 : w.heap.size < (w.alloc (.cells #[.int .u64 (X0 : Int), .int .u64 (Y0 : Int)] 24)).heap.size := by simp
  have g : Below w.heap.size w (w.alloc (.cells #[.int .u64 (X0 : Int), .int .u64 (Y0 : Int)] 24)) := b_one
  have S9 : w.heap.size ≤ w.heap.size := Nat.le_refl _
  generalize hW : (w.alloc (.cells #[.int .u64 (X0 : Int), .int .u64 (Y0 : Int)] 24)) = W0 at *
  clear hW
  clear S9
  go_upto_region 3 with (first | (go_at_call 28; first | ((with_reducible refine (awake_any _).mono ?_); rintro e w' ⟨rfl, hb1⟩; have k00 := keep_cell hb1 z0 k00; have k01 := keep_cell hb1 z0 k01; have z0 := Nat.lt_of_lt_of_le z0 hb1.size; have g := (by first | exact bch g hb1 | exact bch g.drew hb1); clear hb1)))
  go_cut [3, 4, 5] (fun v3 v4 v5 wx => ∃ B1 B2 : Nat, v3 = .pointer (some ⟨B1, 0, none⟩) ∧ v4 = .pointer (some ⟨B2, 0, none⟩) ∧ v5 = .bool false ∧ Below w.heap.size w wx ∧ wx.cell? ⟨w.heap.size, 0, none⟩ = some (.int .u64 (X0 : Int)) ∧ wx.cell? ⟨w.heap.size, 1, none⟩ = some (.int .u64 (Y0 : Int)) ∧ w.heap.size < wx.heap.size ∧ wx.cell? ⟨B1, 0, none⟩ = some (.float .f64 0) ∧ wx.cell? ⟨B1, 1, none⟩ = some (.float .f64 0) ∧ B1 < wx.heap.size ∧ wx.cell? ⟨B2, 0, none⟩ = some (.float .f64 0) ∧ wx.cell? ⟨B2, 1, none⟩ = some (.float .f64 0) ∧ B2 < wx.heap.size)
  case first =>
    as_aux_lemma =>
    go_wp2_with (first | (go_at_call 21; first | ((with_reducible refine (NX _).mono ?_); rintro e w' ⟨rfl, hb1⟩; have k00 := keep_cell hb1 z0 k00; have k01 := keep_cell hb1 z0 k01; have z0 := Nat.lt_of_lt_of_le z0 hb1.size; have g := (by first | exact bch g hb1 | exact bch g.drew hb1); clear hb1)) | (go_at_call 60; first | ((with_reducible refine (BI _).mono ?_); rintro e w' ⟨rfl, hb1⟩; have k00 := keep_cell hb1 z0 k00; have k01 := keep_cell hb1 z0 k01; have z0 := Nat.lt_of_lt_of_le z0 hb1.size; have g := (by first | exact bch g hb1 | exact bch g.drew hb1); clear hb1)))
    go_meet
    refine ⟨_, _, rfl, rfl, rfl, ?_⟩
    (repeat' apply And.intro) <;> first | assumption | exact keep_cell (b_one.alloc (by simp) _) (by dsimp only <;> omega) (by assumption) | exact keep_cell b_one (by dsimp only <;> omega) (by assumption) | (simp [go_sem]; done) | (simp; omega) | exact (g.alloc (by have := g.size; omega) _).alloc (by have := g.size; simp; omega) _ | exact g.alloc (by have := g.size; omega) _
  case rest =>
  as_aux_lemma =>
  clear g k00 k01 z0
  obtain ⟨B1, B2, rfl, rfl, rfl, g, k00, k01, z0, k10, k11, z1, k20, k21, z2⟩ := hcut
  go_upto_region 4 with fail
  go_cut [6] (fun v wx => ∃ B3 : Nat, v = .pointer (some ⟨B3, 0, none⟩) ∧ Below w.heap.size w wx ∧ wx.cell? ⟨w.heap.size, 0, none⟩ = some (.int .u64 (X0 : Int)) ∧ wx.cell? ⟨w.heap.size, 1, none⟩ = some (.int .u64 (Y0 : Int)) ∧ w.heap.size < wx.heap.size ∧ wx.cell? ⟨B1, 0, none⟩ = some (.float .f64 0) ∧ wx.cell? ⟨B1, 1, none⟩ = some (.float .f64 0) ∧ B1 < wx.heap.size ∧ wx.cell? ⟨B2, 0, none⟩ = some (.float .f64 0) ∧ wx.cell? ⟨B2, 1, none⟩ = some (.float .f64 0) ∧ B2 < wx.heap.size ∧ wx.cell? ⟨B3, 0, none⟩ = some (.int .u64 (A : Int)) ∧ wx.cell? ⟨B3, 1, none⟩ = some (.int .u64 (B : Int)) ∧ B3 < wx.heap.size)
  case first =>
    as_aux_lemma =>
    go_wp2_with (first | (go_at_call 29; first | ((with_reducible refine (RR _).mono ?_); rintro e w' ⟨rfl, hb1⟩; have k00 := keep_cell hb1 z0 k00; have k01 := keep_cell hb1 z0 k01; have k10 := keep_cell hb1 z1 k10; have k11 := keep_cell hb1 z1 k11; have k20 := keep_cell hb1 z2 k20; have k21 := keep_cell hb1 z2 k21; have z0 := Nat.lt_of_lt_of_le z0 hb1.size; have z1 := Nat.lt_of_lt_of_le z1 hb1.size; have z2 := Nat.lt_of_lt_of_le z2 hb1.size; have g := (by first | exact bch g hb1 | exact bch g.drew hb1); clear hb1)))
    go_meet
    refine ⟨_, rfl, ?_⟩
    (repeat' apply And.intro) <;> first | assumption | exact keep_cell (b_one.alloc (by simp) _) (by dsimp only <;> omega) (by assumption) | exact keep_cell b_one (by dsimp only <;> omega) (by assumption) | (simp [go_sem]; done) | (simp; omega) | exact (g.alloc (by have := g.size; omega) _).alloc (by have := g.size; simp; omega) _ | exact g.alloc (by have := g.size; omega) _
  case rest =>
  as_aux_lemma =>
  clear g k00 k01 z0 k10 k11 z1 k20 k21 z2
  obtain ⟨B3, rfl, g, k00, k01, z0, k10, k11, z1, k20, k21, z2, k30, k31, z3⟩ := hcut
  go_upto_region 6 with fail
  go_region_held3 (fun wx => Below w.heap.size w wx ∧ wx.cell? ⟨w.heap.size, 0, none⟩ = some (.int .u64 (X0 : Int)) ∧ wx.cell? ⟨w.heap.size, 1, none⟩ = some (.int .u64 (Y0 : Int)) ∧ w.heap.size < wx.heap.size ∧ wx.cell? ⟨B1, 0, none⟩ = some (.float .f64 0) ∧ wx.cell? ⟨B1, 1, none⟩ = some (.float .f64 0) ∧ B1 < wx.heap.size ∧ wx.cell? ⟨B2, 0, none⟩ = some (.float .f64 0) ∧ wx.cell? ⟨B2, 1, none⟩ = some (.float .f64 0) ∧ B2 < wx.heap.size ∧ wx.cell? ⟨B3, 0, none⟩ = some (.int .u64 (A : Int)) ∧ wx.cell? ⟨B3, 1, none⟩ = some (.int .u64 (B : Int)) ∧ B3 < wx.heap.size)
      (((try dsimp only); (repeat' apply And.intro) <;> first | assumption | (simp [*]; done) | exact Below.drew (by assumption) | exact keep_cell hb1 (by first | (dsimp only; omega) | (simp; omega)) (by simp [*]) | (have := hb1.size; omega) | (have := hb1.size; simp at this; omega) | exact bch (by simp [*]) hb1 | exact bch (Below.drew (by simp [*])) hb1))
      (first | (go_at_call 62; first | ((with_reducible refine (of_any 0 0 _).mono ?_); rintro e w' ⟨rfl, hb1⟩)) | (go_at_call 21; first | ((with_reducible refine (NX _).mono ?_); rintro e w' ⟨rfl, hb1⟩)) | (go_at_call 31; first | ((with_reducible refine (IE _).mono ?_); rintro e w' ⟨rfl, hb1⟩)) | (go_at_call 35; first | ((with_reducible refine (SI _).mono ?_); rintro e w' ⟨rfl, hb1⟩)) | (go_at_call 63; first | ((with_reducible refine (NE _).mono ?_); rintro e w' ⟨rfl, hb1⟩)))
  all_goals
    go_wp2_with fail
    go_ret
    exact ⟨rfl, by simp [*]⟩

set_option maxRecDepth 40000 in
set_option maxHeartbeats 16000000 in
theorem walk_empty (X0 Y0 A B : Nat) (NX : ∀ w : World, Calls Try.prog 21 #[.agg #[.int .u64 (X0 : Int), .int .u64 (Y0 : Int)]] w (fun e w' => e = .returned (.agg #[.float .f64 X0, .float .f64 Y0]) ∧ Below w.heap.size w w')) (RR : ∀ w : World, Calls Try.prog 29 #[.agg #[.int .u64 (X0 : Int), .int .u64 (Y0 : Int)]] w (fun e w' => e = .returned (.agg #[.int .u64 (A : Int), .int .u64 (B : Int)]) ∧ Below w.heap.size w w')) (BI : ∀ w : World, Calls Try.prog 60 #[.agg #[.float .f64 X0, .float .f64 Y0]] w (fun e w' => e = .returned (.tuple #[.agg #[.float .f64 0, .float .f64 0], .agg #[.float .f64 0, .float .f64 0], .bool false]) ∧ Below w.heap.size w w')) (IE : ∀ w : World, Calls Try.prog 31 #[.agg #[.float .f64 X0, .float .f64 Y0]] w (fun e w' => e = .returned (.bool true) ∧ Below w.heap.size w w')) (E0 : (∀ w : World, (Op.equalIn 10000 28 (.agg #[.float .f64 0, .float .f64 0]) (.agg #[.float .f64 0, .float .f64 0])).run Try.prog w = .ok true w)) (w : World) : Calls Try.prog 17 #[.agg #[.int .u64 (X0 : Int), .int .u64 (Y0 : Int)]] w fun e w' => e = .returned (.bool true) ∧ Below w.heap.size w w' := by
  have hst := sto
  go_enter Try.func17, Try.ntmps17
  go_upto_region 1 with fail
  have k00 : (w.alloc (.cells #[.int .u64 (X0 : Int), .int .u64 (Y0 : Int)] 24)).cell? ⟨w.heap.size, 0, none⟩ = some (.int .u64 (X0 : Int)) := by simp [go_sem]
  have k01 : (w.alloc (.cells #[.int .u64 (X0 : Int), .int .u64 (Y0 : Int)] 24)).cell? ⟨w.heap.size, 1, none⟩ = some (.int .u64 (Y0 : Int)) := by simp [go_sem]
  have z0 : w.heap.size < (w.alloc (.cells #[.int .u64 (X0 : Int), .int .u64 (Y0 : Int)] 24)).heap.size := by simp
  have g : Below w.heap.size w (w.alloc (.cells #[.int .u64 (X0 : Int), .int .u64 (Y0 : Int)] 24)) := b_one
  have S9 : w.heap.size ≤ w.heap.size := Nat.le_refl _
  generalize hW : (w.alloc (.cells #[.int .u64 (X0 : Int), .int .u64 (Y0 : Int)] 24)) = W0 at *
  clear hW
  clear S9
  go_upto_region 3 with (first | (go_at_call 28; first | ((with_reducible refine (awake_any _).mono ?_); rintro e w' ⟨rfl, hb1⟩; have k00 := keep_cell hb1 z0 k00; have k01 := keep_cell hb1 z0 k01; have z0 := Nat.lt_of_lt_of_le z0 hb1.size; have g := (by first | exact bch g hb1 | exact bch g.drew hb1); clear hb1)))
  go_cut [3, 4, 5] (fun v3 v4 v5 wx => ∃ B1 B2 : Nat, v3 = .pointer (some ⟨B1, 0, none⟩) ∧ v4 = .pointer (some ⟨B2, 0, none⟩) ∧ v5 = .bool false ∧ Below w.heap.size w wx ∧ wx.cell? ⟨w.heap.size, 0, none⟩ = some (.int .u64 (X0 : Int)) ∧ wx.cell? ⟨w.heap.size, 1, none⟩ = some (.int .u64 (Y0 : Int)) ∧ w.heap.size < wx.heap.size ∧ wx.cell? ⟨B1, 0, none⟩ = some (.float .f64 0) ∧ wx.cell? ⟨B1, 1, none⟩ = some (.float .f64 0) ∧ B1 < wx.heap.size ∧ wx.cell? ⟨B2, 0, none⟩ = some (.float .f64 0) ∧ wx.cell? ⟨B2, 1, none⟩ = some (.float .f64 0) ∧ B2 < wx.heap.size)
  case first =>
    as_aux_lemma =>
    go_wp2_with (first | (go_at_call 21; first | ((with_reducible refine (NX _).mono ?_); rintro e w' ⟨rfl, hb1⟩; have k00 := keep_cell hb1 z0 k00; have k01 := keep_cell hb1 z0 k01; have z0 := Nat.lt_of_lt_of_le z0 hb1.size; have g := (by first | exact bch g hb1 | exact bch g.drew hb1); clear hb1)) | (go_at_call 60; first | ((with_reducible refine (BI _).mono ?_); rintro e w' ⟨rfl, hb1⟩; have k00 := keep_cell hb1 z0 k00; have k01 := keep_cell hb1 z0 k01; have z0 := Nat.lt_of_lt_of_le z0 hb1.size; have g := (by first | exact bch g hb1 | exact bch g.drew hb1); clear hb1)))
    go_meet
    refine ⟨_, _, rfl, rfl, rfl, ?_⟩
    (repeat' apply And.intro) <;> first | assumption | exact keep_cell (b_one.alloc (by simp) _) (by dsimp only <;> omega) (by assumption) | exact keep_cell b_one (by dsimp only <;> omega) (by assumption) | (simp [go_sem]; done) | (simp; omega) | exact (g.alloc (by have := g.size; omega) _).alloc (by have := g.size; simp; omega) _ | exact g.alloc (by have := g.size; omega) _
  case rest =>
  as_aux_lemma =>
  clear g k00 k01 z0
  obtain ⟨B1, B2, rfl, rfl, rfl, g, k00, k01, z0, k10, k11, z1, k20, k21, z2⟩ := hcut
  go_upto_region 4 with fail
  go_cut [6] (fun v wx => ∃ B3 : Nat, v = .pointer (some ⟨B3, 0, none⟩) ∧ Below w.heap.size w wx ∧ wx.cell? ⟨w.heap.size, 0, none⟩ = some (.int .u64 (X0 : Int)) ∧ wx.cell? ⟨w.heap.size, 1, none⟩ = some (.int .u64 (Y0 : Int)) ∧ w.heap.size < wx.heap.size ∧ wx.cell? ⟨B1, 0, none⟩ = some (.float .f64 0) ∧ wx.cell? ⟨B1, 1, none⟩ = some (.float .f64 0) ∧ B1 < wx.heap.size ∧ wx.cell? ⟨B2, 0, none⟩ = some (.float .f64 0) ∧ wx.cell? ⟨B2, 1, none⟩ = some (.float .f64 0) ∧ B2 < wx.heap.size ∧ wx.cell? ⟨B3, 0, none⟩ = some (.int .u64 (A : Int)) ∧ wx.cell? ⟨B3, 1, none⟩ = some (.int .u64 (B : Int)) ∧ B3 < wx.heap.size)
  case first =>
    as_aux_lemma =>
    go_wp2_with (first | (go_at_call 29; first | ((with_reducible refine (RR _).mono ?_); rintro e w' ⟨rfl, hb1⟩; have k00 := keep_cell hb1 z0 k00; have k01 := keep_cell hb1 z0 k01; have k10 := keep_cell hb1 z1 k10; have k11 := keep_cell hb1 z1 k11; have k20 := keep_cell hb1 z2 k20; have k21 := keep_cell hb1 z2 k21; have z0 := Nat.lt_of_lt_of_le z0 hb1.size; have z1 := Nat.lt_of_lt_of_le z1 hb1.size; have z2 := Nat.lt_of_lt_of_le z2 hb1.size; have g := (by first | exact bch g hb1 | exact bch g.drew hb1); clear hb1)))
    go_meet
    refine ⟨_, rfl, ?_⟩
    (repeat' apply And.intro) <;> first | assumption | exact keep_cell (b_one.alloc (by simp) _) (by dsimp only <;> omega) (by assumption) | exact keep_cell b_one (by dsimp only <;> omega) (by assumption) | (simp [go_sem]; done) | (simp; omega) | exact (g.alloc (by have := g.size; omega) _).alloc (by have := g.size; simp; omega) _ | exact g.alloc (by have := g.size; omega) _
  case rest =>
  as_aux_lemma =>
  clear g k00 k01 z0 k10 k11 z1 k20 k21 z2
  obtain ⟨B3, rfl, g, k00, k01, z0, k10, k11, z1, k20, k21, z2, k30, k31, z3⟩ := hcut
  go_upto_region 6 with fail
  go_wp2_with fail
  refine wp_region_held_drew (S := (fun wx => Below w.heap.size w wx ∧ wx.cell? ⟨w.heap.size, 0, none⟩ = some (.int .u64 (X0 : Int)) ∧ wx.cell? ⟨w.heap.size, 1, none⟩ = some (.int .u64 (Y0 : Int)) ∧ w.heap.size < wx.heap.size ∧ wx.cell? ⟨B1, 0, none⟩ = some (.float .f64 0) ∧ wx.cell? ⟨B1, 1, none⟩ = some (.float .f64 0) ∧ B1 < wx.heap.size ∧ wx.cell? ⟨B2, 0, none⟩ = some (.float .f64 0) ∧ wx.cell? ⟨B2, 1, none⟩ = some (.float .f64 0) ∧ B2 < wx.heap.size ∧ wx.cell? ⟨B3, 0, none⟩ = some (.int .u64 (A : Int)) ∧ wx.cell? ⟨B3, 1, none⟩ = some (.int .u64 (B : Int)) ∧ B3 < wx.heap.size)) (by kernel_rfl) ?_ (fun hHeld => ?_)
  · (((try dsimp only); (repeat' apply And.intro) <;> first | assumption | (simp [*]; done) | exact Below.drew (by assumption) | exact keep_cell hb1 (by first | (dsimp only; omega) | (simp; omega)) (by simp [*]) | (have := hb1.size; omega) | (have := hb1.size; simp at this; omega) | exact bch (by simp [*]) hb1 | exact bch (Below.drew (by simp [*])) hb1))
  refine wpAnyH_take (i := 0) (oi := { dst := some 22, op := Op.load 28 (Operand.tmp 3), type := 28, pos := "law.go:266", after := #[], guard := none }) (v := ?_) rfl (by kernel_rfl) (by kernel_rfl) (by kernel_rfl) (fun _ _ _ h => h) (Or.inl ⟨by rfl, ?_⟩) (by assumption) ?_
  rotate_left
  · intro w hSw; (try dsimp only at hSw); go_simp
    try with_reducible rfl
  try simp only [Act.put, List.setIfInBounds_toArray, List.set_cons_zero, List.set_cons_succ]
  refine wpAnyH_ready (rs := [1]) (by kernel_rfl) (by simp) ?_
  refine AllReadyH.cons (o := { dst := some 23, op := Op.call { callee := Callee.value (Operand.func 62), args := #[Operand.const (Value.float FloatKind.f64 0), Operand.const (Value.float FloatKind.f64 0)], argTypes := #[26, 26] }, type := 28, pos := "law.go:266", after := #[], guard := none }) rfl (fun K hK => ?_) AllReadyH.nil
  go_simp
  (first | (go_at_call 62; first | ((with_reducible refine (of_any 0 0 _).mono ?_); rintro e w' ⟨rfl, hb1⟩)) | (go_at_call 21; first | ((with_reducible refine (NX _).mono ?_); rintro e w' ⟨rfl, hb1⟩)) | (go_at_call 31; first | ((with_reducible refine (IE _).mono ?_); rintro e w' ⟨rfl, hb1⟩)))
  go_wp2_with fail
  refine hK.out _ _ ?_ (fun hHeld => ?_)
  · (((try dsimp only); (repeat' apply And.intro) <;> first | assumption | (simp [*]; done) | exact Below.drew (by assumption) | exact keep_cell hb1 (by first | (dsimp only; omega) | (simp; omega)) (by simp [*]) | (have := hb1.size; omega) | (have := hb1.size; simp at this; omega) | exact bch (by simp [*]) hb1 | exact bch (Below.drew (by simp [*])) hb1))
  clear hK K
  try simp only [Act.put, List.setIfInBounds_toArray, List.set_cons_zero, List.set_cons_succ]
  refine wpAnyH_take (i := 2) (oi := { dst := some 24, op := Op.binOp BinOp.eql 28 (Operand.tmp 22) (Operand.tmp 23) 28, type := 4, pos := "law.go:266", after := #[{ on := 0, ground := Ground.data }, { on := 1, ground := Ground.data }], guard := none }) (v := ?_) rfl (by kernel_rfl) (by kernel_rfl) (by kernel_rfl) (fun _ _ _ h => h) (Or.inl ⟨by rfl, ?_⟩) (by assumption) ?_
  rotate_left
  · intro w hSw; (try dsimp only at hSw); go_simp
    try with_reducible rfl
  try simp only [Act.put, List.setIfInBounds_toArray, List.set_cons_zero, List.set_cons_succ]
  refine wpAnyH_take (i := 3) (oi := { dst := some 25, op := Op.move (Operand.tmp 24), type := 4, pos := "law.go:266", after := #[{ on := 2, ground := Ground.data }, { on := 1, ground := Ground.chain }], guard := none }) (v := ?_) rfl (by kernel_rfl) (by kernel_rfl) (by kernel_rfl) (fun _ _ _ h => h) (Or.inl ⟨by rfl, ?_⟩) (by assumption) ?_
  rotate_left
  · intro w hSw; (try dsimp only at hSw); go_simp
    try with_reducible rfl
  try simp only [Act.put, List.setIfInBounds_toArray, List.set_cons_zero, List.set_cons_succ]
  refine wpAnyH_take (i := 4) (oi := { dst := some 26, op := Op.load 28 (Operand.tmp 4), type := 28, pos := "law.go:266", after := #[{ on := 3, ground := Ground.guard }], guard := some (3, true) }) (v := ?_) rfl (by kernel_rfl) (by kernel_rfl) (by kernel_rfl) (fun _ _ _ h => h) (Or.inl ⟨by rfl, ?_⟩) (by assumption) ?_
  rotate_left
  · intro w hSw; (try dsimp only at hSw); go_simp
    try with_reducible rfl
  try simp only [Act.put, List.setIfInBounds_toArray, List.set_cons_zero, List.set_cons_succ]
  refine wpAnyH_ready (rs := [5]) (by kernel_rfl) (by simp) ?_
  refine AllReadyH.cons (o := { dst := some 27, op := Op.call { callee := Callee.value (Operand.func 62), args := #[Operand.const (Value.float FloatKind.f64 0), Operand.const (Value.float FloatKind.f64 0)], argTypes := #[26, 26] }, type := 28, pos := "law.go:266", after := #[{ on := 3, ground := Ground.chain }, { on := 3, ground := Ground.guard }], guard := some (3, true) }) rfl (fun K hK => ?_) AllReadyH.nil
  go_simp
  (first | (go_at_call 62; first | ((with_reducible refine (of_any 0 0 _).mono ?_); rintro e w' ⟨rfl, hb1⟩)) | (go_at_call 21; first | ((with_reducible refine (NX _).mono ?_); rintro e w' ⟨rfl, hb1⟩)) | (go_at_call 31; first | ((with_reducible refine (IE _).mono ?_); rintro e w' ⟨rfl, hb1⟩)))
  go_wp2_with fail
  refine hK.out _ _ ?_ (fun hHeld => ?_)
  · (((try dsimp only); (repeat' apply And.intro) <;> first | assumption | (simp [*]; done) | exact Below.drew (by assumption) | exact keep_cell hb1 (by first | (dsimp only; omega) | (simp; omega)) (by simp [*]) | (have := hb1.size; omega) | (have := hb1.size; simp at this; omega) | exact bch (by simp [*]) hb1 | exact bch (Below.drew (by simp [*])) hb1))
  clear hK K
  try simp only [Act.put, List.setIfInBounds_toArray, List.set_cons_zero, List.set_cons_succ]
  refine wpAnyH_take (i := 6) (oi := { dst := some 28, op := Op.binOp BinOp.eql 28 (Operand.tmp 26) (Operand.tmp 27) 28, type := 4, pos := "law.go:266", after := #[{ on := 4, ground := Ground.data }, { on := 5, ground := Ground.data }, { on := 3, ground := Ground.guard }], guard := some (3, true) }) (v := ?_) rfl (by kernel_rfl) (by kernel_rfl) (by kernel_rfl) (fun _ _ _ h => h) (Or.inl ⟨by rfl, ?_⟩) (by assumption) ?_
  rotate_left
  · intro w hSw; (try dsimp only at hSw); go_simp
    try with_reducible rfl
  try simp only [Act.put, List.setIfInBounds_toArray, List.set_cons_zero, List.set_cons_succ]
  refine wpAnyH_take (i := 7) (oi := { dst := some 29, op := Op.pick (Operand.tmp 25) (Operand.tmp 28) (Operand.const (Value.bool false)), type := 4, pos := "law.go:266", after := #[{ on := 3, ground := Ground.data }, { on := 6, ground := Ground.data }], guard := none }) (v := ?_) rfl (by kernel_rfl) (by kernel_rfl) (by kernel_rfl) (fun _ _ _ h => h) (Or.inl ⟨by rfl, ?_⟩) (by assumption) ?_
  rotate_left
  · intro w hSw; (try dsimp only at hSw); go_simp
    try with_reducible rfl
  try simp only [Act.put, List.setIfInBounds_toArray, List.set_cons_zero, List.set_cons_succ]
  refine wpAnyH_take (i := 8) (oi := { dst := some 30, op := Op.move (Operand.tmp 29), type := 4, pos := "law.go:266", after := #[{ on := 7, ground := Ground.data }, { on := 5, ground := Ground.chain }], guard := none }) (v := ?_) rfl (by kernel_rfl) (by kernel_rfl) (by kernel_rfl) (fun _ _ _ h => h) (Or.inl ⟨by rfl, ?_⟩) (by assumption) ?_
  rotate_left
  · intro w hSw; (try dsimp only at hSw); go_simp
    try with_reducible rfl
  try simp only [Act.put, List.setIfInBounds_toArray, List.set_cons_zero, List.set_cons_succ]
  refine wpAnyH_take (i := 9) (oi := { dst := some 31, op := Op.load 24 (Operand.tmp 1), type := 24, pos := "law.go:266", after := #[{ on := 8, ground := Ground.guard }], guard := some (8, true) }) (v := ?_) rfl (by kernel_rfl) (by kernel_rfl) (by kernel_rfl) (fun _ _ _ h => h) (Or.inl ⟨by rfl, ?_⟩) (by assumption) ?_
  rotate_left
  · intro w hSw; (try dsimp only at hSw); go_simp
    try with_reducible rfl
  try simp only [Act.put, List.setIfInBounds_toArray, List.set_cons_zero, List.set_cons_succ]
  refine wpAnyH_ready (rs := [10]) (by kernel_rfl) (by simp) ?_
  refine AllReadyH.cons (o := { dst := some 32, op := Op.call { callee := Callee.value (Operand.func 21), args := #[Operand.tmp 31], argTypes := #[24] }, type := 28, pos := "law.go:266", after := #[{ on := 9, ground := Ground.data }, { on := 8, ground := Ground.chain }, { on := 8, ground := Ground.guard }], guard := some (8, true) }) rfl (fun K hK => ?_) AllReadyH.nil
  go_simp
  (first | (go_at_call 62; first | ((with_reducible refine (of_any 0 0 _).mono ?_); rintro e w' ⟨rfl, hb1⟩)) | (go_at_call 21; first | ((with_reducible refine (NX _).mono ?_); rintro e w' ⟨rfl, hb1⟩)) | (go_at_call 31; first | ((with_reducible refine (IE _).mono ?_); rintro e w' ⟨rfl, hb1⟩)))
  go_wp2_with fail
  refine hK.out _ _ ?_ (fun hHeld => ?_)
  · (((try dsimp only); (repeat' apply And.intro) <;> first | assumption | (simp [*]; done) | exact Below.drew (by assumption) | exact keep_cell hb1 (by first | (dsimp only; omega) | (simp; omega)) (by simp [*]) | (have := hb1.size; omega) | (have := hb1.size; simp at this; omega) | exact bch (by simp [*]) hb1 | exact bch (Below.drew (by simp [*])) hb1))
  clear hK K
  try simp only [Act.put, List.setIfInBounds_toArray, List.set_cons_zero, List.set_cons_succ]
  refine wpAnyH_ready (rs := [11]) (by kernel_rfl) (by simp) ?_
  refine AllReadyH.cons (o := { dst := some 33, op := Op.call { callee := Callee.value (Operand.func 31), args := #[Operand.tmp 32], argTypes := #[28] }, type := 4, pos := "law.go:266", after := #[{ on := 10, ground := Ground.data }, { on := 10, ground := Ground.chain }, { on := 8, ground := Ground.guard }], guard := some (8, true) }) rfl (fun K hK => ?_) AllReadyH.nil
  go_simp
  (first | (go_at_call 62; first | ((with_reducible refine (of_any 0 0 _).mono ?_); rintro e w' ⟨rfl, hb1⟩)) | (go_at_call 21; first | ((with_reducible refine (NX _).mono ?_); rintro e w' ⟨rfl, hb1⟩)) | (go_at_call 31; first | ((with_reducible refine (IE _).mono ?_); rintro e w' ⟨rfl, hb1⟩)))
  go_wp2_with fail
  refine hK.out _ _ ?_ (fun hHeld => ?_)
  · (((try dsimp only); (repeat' apply And.intro) <;> first | assumption | (simp [*]; done) | exact Below.drew (by assumption) | exact keep_cell hb1 (by first | (dsimp only; omega) | (simp; omega)) (by simp [*]) | (have := hb1.size; omega) | (have := hb1.size; simp at this; omega) | exact bch (by simp [*]) hb1 | exact bch (Below.drew (by simp [*])) hb1))
  clear hK K
  try simp only [Act.put, List.setIfInBounds_toArray, List.set_cons_zero, List.set_cons_succ]
  refine wpAnyH_take (i := 12) (oi := { dst := some 34, op := Op.move (Operand.tmp 33), type := 4, pos := "law.go:266", after := #[{ on := 11, ground := Ground.data }, { on := 11, ground := Ground.chain }, { on := 8, ground := Ground.guard }], guard := some (8, true) }) (v := ?_) rfl (by kernel_rfl) (by kernel_rfl) (by kernel_rfl) (fun _ _ _ h => h) (Or.inl ⟨by rfl, ?_⟩) (by assumption) ?_
  rotate_left
  · intro w hSw; (try dsimp only at hSw); go_simp
    try with_reducible rfl
  try simp only [Act.put, List.setIfInBounds_toArray, List.set_cons_zero, List.set_cons_succ]
  refine wpAnyH_take (i := 13) (oi := { dst := some 35, op := Op.load 24 (Operand.tmp 1), type := 24, pos := "law.go:266", after := #[{ on := 12, ground := Ground.guard }], guard := some (12, false) }) (v := undef) rfl (by kernel_rfl) (by kernel_rfl) (by kernel_rfl) (fun _ _ _ h => h) (Or.inr ⟨by rfl, rfl⟩) (by assumption) ?_
  try simp only [Act.put, List.setIfInBounds_toArray, List.set_cons_zero, List.set_cons_succ]
  refine wpAnyH_take (i := 14) (oi := { dst := some 36, op := Op.call { callee := Callee.value (Operand.func 21), args := #[Operand.tmp 35], argTypes := #[24] }, type := 28, pos := "law.go:266", after := #[{ on := 13, ground := Ground.data }, { on := 12, ground := Ground.chain }, { on := 12, ground := Ground.guard }], guard := some (12, false) }) (v := undef) rfl (by kernel_rfl) (by kernel_rfl) (by kernel_rfl) (fun _ _ _ h => h) (Or.inr ⟨by rfl, rfl⟩) (by assumption) ?_
  try simp only [Act.put, List.setIfInBounds_toArray, List.set_cons_zero, List.set_cons_succ]
  refine wpAnyH_take (i := 15) (oi := { dst := some 37, op := Op.call { callee := Callee.value (Operand.func 35), args := #[Operand.tmp 36], argTypes := #[28] }, type := 4, pos := "law.go:266", after := #[{ on := 14, ground := Ground.data }, { on := 14, ground := Ground.chain }, { on := 12, ground := Ground.guard }], guard := some (12, false) }) (v := undef) rfl (by kernel_rfl) (by kernel_rfl) (by kernel_rfl) (fun _ _ _ h => h) (Or.inr ⟨by rfl, rfl⟩) (by assumption) ?_
  try simp only [Act.put, List.setIfInBounds_toArray, List.set_cons_zero, List.set_cons_succ]
  refine wpAnyH_take (i := 16) (oi := { dst := some 38, op := Op.pick (Operand.tmp 34) (Operand.const (Value.bool true)) (Operand.tmp 37), type := 4, pos := "law.go:266", after := #[{ on := 12, ground := Ground.data }, { on := 15, ground := Ground.data }, { on := 8, ground := Ground.guard }], guard := some (8, true) }) (v := ?_) rfl (by kernel_rfl) (by kernel_rfl) (by kernel_rfl) (fun _ _ _ h => h) (Or.inl ⟨by rfl, ?_⟩) (by assumption) ?_
  rotate_left
  · intro w hSw; (try dsimp only at hSw); go_simp
    try with_reducible rfl
  try simp only [Act.put, List.setIfInBounds_toArray, List.set_cons_zero, List.set_cons_succ]
  refine wpAnyH_take (i := 17) (oi := { dst := some 39, op := Op.move (Operand.tmp 38), type := 4, pos := "law.go:266", after := #[{ on := 16, ground := Ground.data }, { on := 15, ground := Ground.chain }, { on := 8, ground := Ground.guard }], guard := some (8, true) }) (v := ?_) rfl (by kernel_rfl) (by kernel_rfl) (by kernel_rfl) (fun _ _ _ h => h) (Or.inl ⟨by rfl, ?_⟩) (by assumption) ?_
  rotate_left
  · intro w hSw; (try dsimp only at hSw); go_simp
    try with_reducible rfl
  try simp only [Act.put, List.setIfInBounds_toArray, List.set_cons_zero, List.set_cons_succ]
  refine wpAnyH_take (i := 18) (oi := { dst := some 40, op := Op.load 24 (Operand.tmp 6), type := 24, pos := "law.go:266", after := #[{ on := 17, ground := Ground.guard }], guard := some (17, false) }) (v := undef) rfl (by kernel_rfl) (by kernel_rfl) (by kernel_rfl) (fun _ _ _ h => h) (Or.inr ⟨by rfl, rfl⟩) (by assumption) ?_
  try simp only [Act.put, List.setIfInBounds_toArray, List.set_cons_zero, List.set_cons_succ]
  refine wpAnyH_take (i := 19) (oi := { dst := some 41, op := Op.call { callee := Callee.value (Operand.func 63), args := #[Operand.tmp 40], argTypes := #[24] }, type := 4, pos := "law.go:266", after := #[{ on := 18, ground := Ground.data }, { on := 17, ground := Ground.chain }, { on := 17, ground := Ground.guard }], guard := some (17, false) }) (v := undef) rfl (by kernel_rfl) (by kernel_rfl) (by kernel_rfl) (fun _ _ _ h => h) (Or.inr ⟨by rfl, rfl⟩) (by assumption) ?_
  try simp only [Act.put, List.setIfInBounds_toArray, List.set_cons_zero, List.set_cons_succ]
  refine wpAnyH_take (i := 20) (oi := { dst := some 42, op := Op.pick (Operand.tmp 39) (Operand.const (Value.bool true)) (Operand.tmp 41), type := 4, pos := "law.go:266", after := #[{ on := 17, ground := Ground.data }, { on := 19, ground := Ground.data }, { on := 8, ground := Ground.guard }], guard := some (8, true) }) (v := ?_) rfl (by kernel_rfl) (by kernel_rfl) (by kernel_rfl) (fun _ _ _ h => h) (Or.inl ⟨by rfl, ?_⟩) (by assumption) ?_
  rotate_left
  · intro w hSw; (try dsimp only at hSw); go_simp
    try with_reducible rfl
  try simp only [Act.put, List.setIfInBounds_toArray, List.set_cons_zero, List.set_cons_succ]
  refine wpAnyH_take (i := 21) (oi := { dst := some 43, op := Op.pick (Operand.tmp 30) (Operand.tmp 42) (Operand.const (Value.bool false)), type := 4, pos := "law.go:266", after := #[{ on := 8, ground := Ground.data }, { on := 20, ground := Ground.data }], guard := none }) (v := ?_) rfl (by kernel_rfl) (by kernel_rfl) (by kernel_rfl) (fun _ _ _ h => h) (Or.inl ⟨by rfl, ?_⟩) (by assumption) ?_
  rotate_left
  · intro w hSw; (try dsimp only at hSw); go_simp
    try with_reducible rfl
  try simp only [Act.put, List.setIfInBounds_toArray, List.set_cons_zero, List.set_cons_succ]
  refine wpAnyH_take (i := 22) (oi := { dst := some 2, op := Op.assign (Operand.tmp 43), type := 4, pos := "law.go:266", after := #[{ on := 21, ground := Ground.data }, { on := 19, ground := Ground.chain }, { on := 0, ground := Ground.phase }, { on := 1, ground := Ground.phase }, { on := 2, ground := Ground.phase }, { on := 3, ground := Ground.phase }, { on := 4, ground := Ground.phase }, { on := 5, ground := Ground.phase }, { on := 6, ground := Ground.phase }, { on := 7, ground := Ground.phase }, { on := 8, ground := Ground.phase }, { on := 9, ground := Ground.phase }, { on := 10, ground := Ground.phase }, { on := 11, ground := Ground.phase }, { on := 12, ground := Ground.phase }, { on := 13, ground := Ground.phase }, { on := 14, ground := Ground.phase }, { on := 15, ground := Ground.phase }, { on := 16, ground := Ground.phase }, { on := 17, ground := Ground.phase }, { on := 18, ground := Ground.phase }, { on := 19, ground := Ground.phase }, { on := 20, ground := Ground.phase }, { on := 21, ground := Ground.phase }], guard := none }) (v := ?_) rfl (by kernel_rfl) (by kernel_rfl) (by kernel_rfl) (fun _ _ _ h => h) (Or.inl ⟨by rfl, ?_⟩) (by assumption) ?_
  rotate_left
  · intro w hSw; (try dsimp only at hSw); go_simp
    try with_reducible rfl
  try simp only [Act.put, List.setIfInBounds_toArray, List.set_cons_zero, List.set_cons_succ]
  refine wpAnyH_done (by kernel_rfl) ?_ _
  go_wp2
  go_ret
  exact ⟨rfl, by simp [*]⟩

set_option maxRecDepth 40000 in
set_option maxHeartbeats 16000000 in
theorem walk_one (X0 Y0 A B : Nat) (NX : ∀ w : World, Calls Try.prog 21 #[.agg #[.int .u64 (X0 : Int), .int .u64 (Y0 : Int)]] w (fun e w' => e = .returned (.agg #[.float .f64 X0, .float .f64 Y0]) ∧ Below w.heap.size w w')) (RR : ∀ w : World, Calls Try.prog 29 #[.agg #[.int .u64 (X0 : Int), .int .u64 (Y0 : Int)]] w (fun e w' => e = .returned (.agg #[.int .u64 (A : Int), .int .u64 (B : Int)]) ∧ Below w.heap.size w w')) (BI : ∀ w : World, Calls Try.prog 60 #[.agg #[.float .f64 X0, .float .f64 Y0]] w (fun e w' => e = .returned (.tuple #[.agg #[.float .f64 0, .float .f64 0], .agg #[.float .f64 0, .float .f64 0], .bool false]) ∧ Below w.heap.size w w')) (IE : ∀ w : World, Calls Try.prog 31 #[.agg #[.float .f64 X0, .float .f64 Y0]] w (fun e w' => e = .returned (.bool false) ∧ Below w.heap.size w w')) (E0 : (∀ w : World, (Op.equalIn 10000 28 (.agg #[.float .f64 0, .float .f64 0]) (.agg #[.float .f64 0, .float .f64 0])).run Try.prog w = .ok true w)) (SI : ∀ w : World, Calls Try.prog 35 #[.agg #[.float .f64 X0, .float .f64 Y0]] w (fun e w' => e = .returned (.bool true) ∧ Below w.heap.size w w')) (w : World) : Calls Try.prog 17 #[.agg #[.int .u64 (X0 : Int), .int .u64 (Y0 : Int)]] w fun e w' => e = .returned (.bool true) ∧ Below w.heap.size w w' := by
  have hst := sto
  go_enter Try.func17, Try.ntmps17
  go_upto_region 1 with fail
  have k00 : (w.alloc (.cells #[.int .u64 (X0 : Int), .int .u64 (Y0 : Int)] 24)).cell? ⟨w.heap.size, 0, none⟩ = some (.int .u64 (X0 : Int)) := by simp [go_sem]
  have k01 : (w.alloc (.cells #[.int .u64 (X0 : Int), .int .u64 (Y0 : Int)] 24)).cell? ⟨w.heap.size, 1, none⟩ = some (.int .u64 (Y0 : Int)) := by simp [go_sem]
  have z0 : w.heap.size < (w.alloc (.cells #[.int .u64 (X0 : Int), .int .u64 (Y0 : Int)] 24)).heap.size := by simp
  have g : Below w.heap.size w (w.alloc (.cells #[.int .u64 (X0 : Int), .int .u64 (Y0 : Int)] 24)) := b_one
  have S9 : w.heap.size ≤ w.heap.size := Nat.le_refl _
  generalize hW : (w.alloc (.cells #[.int .u64 (X0 : Int), .int .u64 (Y0 : Int)] 24)) = W0 at *
  clear hW
  clear S9
  go_upto_region 3 with (first | (go_at_call 28; first | ((with_reducible refine (awake_any _).mono ?_); rintro e w' ⟨rfl, hb1⟩; have k00 := keep_cell hb1 z0 k00; have k01 := keep_cell hb1 z0 k01; have z0 := Nat.lt_of_lt_of_le z0 hb1.size; have g := (by first | exact bch g hb1 | exact bch g.drew hb1); clear hb1)))
  go_cut [3, 4, 5] (fun v3 v4 v5 wx => ∃ B1 B2 : Nat, v3 = .pointer (some ⟨B1, 0, none⟩) ∧ v4 = .pointer (some ⟨B2, 0, none⟩) ∧ v5 = .bool false ∧ Below w.heap.size w wx ∧ wx.cell? ⟨w.heap.size, 0, none⟩ = some (.int .u64 (X0 : Int)) ∧ wx.cell? ⟨w.heap.size, 1, none⟩ = some (.int .u64 (Y0 : Int)) ∧ w.heap.size < wx.heap.size ∧ wx.cell? ⟨B1, 0, none⟩ = some (.float .f64 0) ∧ wx.cell? ⟨B1, 1, none⟩ = some (.float .f64 0) ∧ B1 < wx.heap.size ∧ wx.cell? ⟨B2, 0, none⟩ = some (.float .f64 0) ∧ wx.cell? ⟨B2, 1, none⟩ = some (.float .f64 0) ∧ B2 < wx.heap.size)
  case first =>
    as_aux_lemma =>
    go_wp2_with (first | (go_at_call 21; first | ((with_reducible refine (NX _).mono ?_); rintro e w' ⟨rfl, hb1⟩; have k00 := keep_cell hb1 z0 k00; have k01 := keep_cell hb1 z0 k01; have z0 := Nat.lt_of_lt_of_le z0 hb1.size; have g := (by first | exact bch g hb1 | exact bch g.drew hb1); clear hb1)) | (go_at_call 60; first | ((with_reducible refine (BI _).mono ?_); rintro e w' ⟨rfl, hb1⟩; have k00 := keep_cell hb1 z0 k00; have k01 := keep_cell hb1 z0 k01; have z0 := Nat.lt_of_lt_of_le z0 hb1.size; have g := (by first | exact bch g hb1 | exact bch g.drew hb1); clear hb1)))
    go_meet
    refine ⟨_, _, rfl, rfl, rfl, ?_⟩
    (repeat' apply And.intro) <;> first | assumption | exact keep_cell (b_one.alloc (by simp) _) (by dsimp only <;> omega) (by assumption) | exact keep_cell b_one (by dsimp only <;> omega) (by assumption) | (simp [go_sem]; done) | (simp; omega) | exact (g.alloc (by have := g.size; omega) _).alloc (by have := g.size; simp; omega) _ | exact g.alloc (by have := g.size; omega) _
  case rest =>
  as_aux_lemma =>
  clear g k00 k01 z0
  obtain ⟨B1, B2, rfl, rfl, rfl, g, k00, k01, z0, k10, k11, z1, k20, k21, z2⟩ := hcut
  go_upto_region 4 with fail
  go_cut [6] (fun v wx => ∃ B3 : Nat, v = .pointer (some ⟨B3, 0, none⟩) ∧ Below w.heap.size w wx ∧ wx.cell? ⟨w.heap.size, 0, none⟩ = some (.int .u64 (X0 : Int)) ∧ wx.cell? ⟨w.heap.size, 1, none⟩ = some (.int .u64 (Y0 : Int)) ∧ w.heap.size < wx.heap.size ∧ wx.cell? ⟨B1, 0, none⟩ = some (.float .f64 0) ∧ wx.cell? ⟨B1, 1, none⟩ = some (.float .f64 0) ∧ B1 < wx.heap.size ∧ wx.cell? ⟨B2, 0, none⟩ = some (.float .f64 0) ∧ wx.cell? ⟨B2, 1, none⟩ = some (.float .f64 0) ∧ B2 < wx.heap.size ∧ wx.cell? ⟨B3, 0, none⟩ = some (.int .u64 (A : Int)) ∧ wx.cell? ⟨B3, 1, none⟩ = some (.int .u64 (B : Int)) ∧ B3 < wx.heap.size)
  case first =>
    as_aux_lemma =>
    go_wp2_with (first | (go_at_call 29; first | ((with_reducible refine (RR _).mono ?_); rintro e w' ⟨rfl, hb1⟩; have k00 := keep_cell hb1 z0 k00; have k01 := keep_cell hb1 z0 k01; have k10 := keep_cell hb1 z1 k10; have k11 := keep_cell hb1 z1 k11; have k20 := keep_cell hb1 z2 k20; have k21 := keep_cell hb1 z2 k21; have z0 := Nat.lt_of_lt_of_le z0 hb1.size; have z1 := Nat.lt_of_lt_of_le z1 hb1.size; have z2 := Nat.lt_of_lt_of_le z2 hb1.size; have g := (by first | exact bch g hb1 | exact bch g.drew hb1); clear hb1)))
    go_meet
    refine ⟨_, rfl, ?_⟩
    (repeat' apply And.intro) <;> first | assumption | exact keep_cell (b_one.alloc (by simp) _) (by dsimp only <;> omega) (by assumption) | exact keep_cell b_one (by dsimp only <;> omega) (by assumption) | (simp [go_sem]; done) | (simp; omega) | exact (g.alloc (by have := g.size; omega) _).alloc (by have := g.size; simp; omega) _ | exact g.alloc (by have := g.size; omega) _
  case rest =>
  as_aux_lemma =>
  clear g k00 k01 z0 k10 k11 z1 k20 k21 z2
  obtain ⟨B3, rfl, g, k00, k01, z0, k10, k11, z1, k20, k21, z2, k30, k31, z3⟩ := hcut
  go_upto_region 6 with fail
  go_wp2_with fail
  refine wp_region_held_drew (S := (fun wx => Below w.heap.size w wx ∧ wx.cell? ⟨w.heap.size, 0, none⟩ = some (.int .u64 (X0 : Int)) ∧ wx.cell? ⟨w.heap.size, 1, none⟩ = some (.int .u64 (Y0 : Int)) ∧ w.heap.size < wx.heap.size ∧ wx.cell? ⟨B1, 0, none⟩ = some (.float .f64 0) ∧ wx.cell? ⟨B1, 1, none⟩ = some (.float .f64 0) ∧ B1 < wx.heap.size ∧ wx.cell? ⟨B2, 0, none⟩ = some (.float .f64 0) ∧ wx.cell? ⟨B2, 1, none⟩ = some (.float .f64 0) ∧ B2 < wx.heap.size ∧ wx.cell? ⟨B3, 0, none⟩ = some (.int .u64 (A : Int)) ∧ wx.cell? ⟨B3, 1, none⟩ = some (.int .u64 (B : Int)) ∧ B3 < wx.heap.size)) (by kernel_rfl) ?_ (fun hHeld => ?_)
  · (((try dsimp only); (repeat' apply And.intro) <;> first | assumption | (simp [*]; done) | exact Below.drew (by assumption) | exact keep_cell hb1 (by first | (dsimp only; omega) | (simp; omega)) (by simp [*]) | (have := hb1.size; omega) | (have := hb1.size; simp at this; omega) | exact bch (by simp [*]) hb1 | exact bch (Below.drew (by simp [*])) hb1))
  refine wpAnyH_take (i := 0) (oi := { dst := some 22, op := Op.load 28 (Operand.tmp 3), type := 28, pos := "law.go:266", after := #[], guard := none }) (v := ?_) rfl (by kernel_rfl) (by kernel_rfl) (by kernel_rfl) (fun _ _ _ h => h) (Or.inl ⟨by rfl, ?_⟩) (by assumption) ?_
  rotate_left
  · intro w hSw; (try dsimp only at hSw); go_simp
    try with_reducible rfl
  try simp only [Act.put, List.setIfInBounds_toArray, List.set_cons_zero, List.set_cons_succ]
  refine wpAnyH_ready (rs := [1]) (by kernel_rfl) (by simp) ?_
  refine AllReadyH.cons (o := { dst := some 23, op := Op.call { callee := Callee.value (Operand.func 62), args := #[Operand.const (Value.float FloatKind.f64 0), Operand.const (Value.float FloatKind.f64 0)], argTypes := #[26, 26] }, type := 28, pos := "law.go:266", after := #[], guard := none }) rfl (fun K hK => ?_) AllReadyH.nil
  go_simp
  (first | (go_at_call 62; first | ((with_reducible refine (of_any 0 0 _).mono ?_); rintro e w' ⟨rfl, hb1⟩)) | (go_at_call 21; first | ((with_reducible refine (NX _).mono ?_); rintro e w' ⟨rfl, hb1⟩)) | (go_at_call 31; first | ((with_reducible refine (IE _).mono ?_); rintro e w' ⟨rfl, hb1⟩)) | (go_at_call 35; first | ((with_reducible refine (SI _).mono ?_); rintro e w' ⟨rfl, hb1⟩)))
  go_wp2_with fail
  refine hK.out _ _ ?_ (fun hHeld => ?_)
  · (((try dsimp only); (repeat' apply And.intro) <;> first | assumption | (simp [*]; done) | exact Below.drew (by assumption) | exact keep_cell hb1 (by first | (dsimp only; omega) | (simp; omega)) (by simp [*]) | (have := hb1.size; omega) | (have := hb1.size; simp at this; omega) | exact bch (by simp [*]) hb1 | exact bch (Below.drew (by simp [*])) hb1))
  clear hK K
  try simp only [Act.put, List.setIfInBounds_toArray, List.set_cons_zero, List.set_cons_succ]
  refine wpAnyH_take (i := 2) (oi := { dst := some 24, op := Op.binOp BinOp.eql 28 (Operand.tmp 22) (Operand.tmp 23) 28, type := 4, pos := "law.go:266", after := #[{ on := 0, ground := Ground.data }, { on := 1, ground := Ground.data }], guard := none }) (v := ?_) rfl (by kernel_rfl) (by kernel_rfl) (by kernel_rfl) (fun _ _ _ h => h) (Or.inl ⟨by rfl, ?_⟩) (by assumption) ?_
  rotate_left
  · intro w hSw; (try dsimp only at hSw); go_simp
    try with_reducible rfl
  try simp only [Act.put, List.setIfInBounds_toArray, List.set_cons_zero, List.set_cons_succ]
  refine wpAnyH_take (i := 3) (oi := { dst := some 25, op := Op.move (Operand.tmp 24), type := 4, pos := "law.go:266", after := #[{ on := 2, ground := Ground.data }, { on := 1, ground := Ground.chain }], guard := none }) (v := ?_) rfl (by kernel_rfl) (by kernel_rfl) (by kernel_rfl) (fun _ _ _ h => h) (Or.inl ⟨by rfl, ?_⟩) (by assumption) ?_
  rotate_left
  · intro w hSw; (try dsimp only at hSw); go_simp
    try with_reducible rfl
  try simp only [Act.put, List.setIfInBounds_toArray, List.set_cons_zero, List.set_cons_succ]
  refine wpAnyH_take (i := 4) (oi := { dst := some 26, op := Op.load 28 (Operand.tmp 4), type := 28, pos := "law.go:266", after := #[{ on := 3, ground := Ground.guard }], guard := some (3, true) }) (v := ?_) rfl (by kernel_rfl) (by kernel_rfl) (by kernel_rfl) (fun _ _ _ h => h) (Or.inl ⟨by rfl, ?_⟩) (by assumption) ?_
  rotate_left
  · intro w hSw; (try dsimp only at hSw); go_simp
    try with_reducible rfl
  try simp only [Act.put, List.setIfInBounds_toArray, List.set_cons_zero, List.set_cons_succ]
  refine wpAnyH_ready (rs := [5]) (by kernel_rfl) (by simp) ?_
  refine AllReadyH.cons (o := { dst := some 27, op := Op.call { callee := Callee.value (Operand.func 62), args := #[Operand.const (Value.float FloatKind.f64 0), Operand.const (Value.float FloatKind.f64 0)], argTypes := #[26, 26] }, type := 28, pos := "law.go:266", after := #[{ on := 3, ground := Ground.chain }, { on := 3, ground := Ground.guard }], guard := some (3, true) }) rfl (fun K hK => ?_) AllReadyH.nil
  go_simp
  (first | (go_at_call 62; first | ((with_reducible refine (of_any 0 0 _).mono ?_); rintro e w' ⟨rfl, hb1⟩)) | (go_at_call 21; first | ((with_reducible refine (NX _).mono ?_); rintro e w' ⟨rfl, hb1⟩)) | (go_at_call 31; first | ((with_reducible refine (IE _).mono ?_); rintro e w' ⟨rfl, hb1⟩)) | (go_at_call 35; first | ((with_reducible refine (SI _).mono ?_); rintro e w' ⟨rfl, hb1⟩)))
  go_wp2_with fail
  refine hK.out _ _ ?_ (fun hHeld => ?_)
  · (((try dsimp only); (repeat' apply And.intro) <;> first | assumption | (simp [*]; done) | exact Below.drew (by assumption) | exact keep_cell hb1 (by first | (dsimp only; omega) | (simp; omega)) (by simp [*]) | (have := hb1.size; omega) | (have := hb1.size; simp at this; omega) | exact bch (by simp [*]) hb1 | exact bch (Below.drew (by simp [*])) hb1))
  clear hK K
  try simp only [Act.put, List.setIfInBounds_toArray, List.set_cons_zero, List.set_cons_succ]
  refine wpAnyH_take (i := 6) (oi := { dst := some 28, op := Op.binOp BinOp.eql 28 (Operand.tmp 26) (Operand.tmp 27) 28, type := 4, pos := "law.go:266", after := #[{ on := 4, ground := Ground.data }, { on := 5, ground := Ground.data }, { on := 3, ground := Ground.guard }], guard := some (3, true) }) (v := ?_) rfl (by kernel_rfl) (by kernel_rfl) (by kernel_rfl) (fun _ _ _ h => h) (Or.inl ⟨by rfl, ?_⟩) (by assumption) ?_
  rotate_left
  · intro w hSw; (try dsimp only at hSw); go_simp
    try with_reducible rfl
  try simp only [Act.put, List.setIfInBounds_toArray, List.set_cons_zero, List.set_cons_succ]
  refine wpAnyH_take (i := 7) (oi := { dst := some 29, op := Op.pick (Operand.tmp 25) (Operand.tmp 28) (Operand.const (Value.bool false)), type := 4, pos := "law.go:266", after := #[{ on := 3, ground := Ground.data }, { on := 6, ground := Ground.data }], guard := none }) (v := ?_) rfl (by kernel_rfl) (by kernel_rfl) (by kernel_rfl) (fun _ _ _ h => h) (Or.inl ⟨by rfl, ?_⟩) (by assumption) ?_
  rotate_left
  · intro w hSw; (try dsimp only at hSw); go_simp
    try with_reducible rfl
  try simp only [Act.put, List.setIfInBounds_toArray, List.set_cons_zero, List.set_cons_succ]
  refine wpAnyH_take (i := 8) (oi := { dst := some 30, op := Op.move (Operand.tmp 29), type := 4, pos := "law.go:266", after := #[{ on := 7, ground := Ground.data }, { on := 5, ground := Ground.chain }], guard := none }) (v := ?_) rfl (by kernel_rfl) (by kernel_rfl) (by kernel_rfl) (fun _ _ _ h => h) (Or.inl ⟨by rfl, ?_⟩) (by assumption) ?_
  rotate_left
  · intro w hSw; (try dsimp only at hSw); go_simp
    try with_reducible rfl
  try simp only [Act.put, List.setIfInBounds_toArray, List.set_cons_zero, List.set_cons_succ]
  refine wpAnyH_take (i := 9) (oi := { dst := some 31, op := Op.load 24 (Operand.tmp 1), type := 24, pos := "law.go:266", after := #[{ on := 8, ground := Ground.guard }], guard := some (8, true) }) (v := ?_) rfl (by kernel_rfl) (by kernel_rfl) (by kernel_rfl) (fun _ _ _ h => h) (Or.inl ⟨by rfl, ?_⟩) (by assumption) ?_
  rotate_left
  · intro w hSw; (try dsimp only at hSw); go_simp
    try with_reducible rfl
  try simp only [Act.put, List.setIfInBounds_toArray, List.set_cons_zero, List.set_cons_succ]
  refine wpAnyH_ready (rs := [10]) (by kernel_rfl) (by simp) ?_
  refine AllReadyH.cons (o := { dst := some 32, op := Op.call { callee := Callee.value (Operand.func 21), args := #[Operand.tmp 31], argTypes := #[24] }, type := 28, pos := "law.go:266", after := #[{ on := 9, ground := Ground.data }, { on := 8, ground := Ground.chain }, { on := 8, ground := Ground.guard }], guard := some (8, true) }) rfl (fun K hK => ?_) AllReadyH.nil
  go_simp
  (first | (go_at_call 62; first | ((with_reducible refine (of_any 0 0 _).mono ?_); rintro e w' ⟨rfl, hb1⟩)) | (go_at_call 21; first | ((with_reducible refine (NX _).mono ?_); rintro e w' ⟨rfl, hb1⟩)) | (go_at_call 31; first | ((with_reducible refine (IE _).mono ?_); rintro e w' ⟨rfl, hb1⟩)) | (go_at_call 35; first | ((with_reducible refine (SI _).mono ?_); rintro e w' ⟨rfl, hb1⟩)))
  go_wp2_with fail
  refine hK.out _ _ ?_ (fun hHeld => ?_)
  · (((try dsimp only); (repeat' apply And.intro) <;> first | assumption | (simp [*]; done) | exact Below.drew (by assumption) | exact keep_cell hb1 (by first | (dsimp only; omega) | (simp; omega)) (by simp [*]) | (have := hb1.size; omega) | (have := hb1.size; simp at this; omega) | exact bch (by simp [*]) hb1 | exact bch (Below.drew (by simp [*])) hb1))
  clear hK K
  try simp only [Act.put, List.setIfInBounds_toArray, List.set_cons_zero, List.set_cons_succ]
  refine wpAnyH_ready (rs := [11]) (by kernel_rfl) (by simp) ?_
  refine AllReadyH.cons (o := { dst := some 33, op := Op.call { callee := Callee.value (Operand.func 31), args := #[Operand.tmp 32], argTypes := #[28] }, type := 4, pos := "law.go:266", after := #[{ on := 10, ground := Ground.data }, { on := 10, ground := Ground.chain }, { on := 8, ground := Ground.guard }], guard := some (8, true) }) rfl (fun K hK => ?_) AllReadyH.nil
  go_simp
  (first | (go_at_call 62; first | ((with_reducible refine (of_any 0 0 _).mono ?_); rintro e w' ⟨rfl, hb1⟩)) | (go_at_call 21; first | ((with_reducible refine (NX _).mono ?_); rintro e w' ⟨rfl, hb1⟩)) | (go_at_call 31; first | ((with_reducible refine (IE _).mono ?_); rintro e w' ⟨rfl, hb1⟩)) | (go_at_call 35; first | ((with_reducible refine (SI _).mono ?_); rintro e w' ⟨rfl, hb1⟩)))
  go_wp2_with fail
  refine hK.out _ _ ?_ (fun hHeld => ?_)
  · (((try dsimp only); (repeat' apply And.intro) <;> first | assumption | (simp [*]; done) | exact Below.drew (by assumption) | exact keep_cell hb1 (by first | (dsimp only; omega) | (simp; omega)) (by simp [*]) | (have := hb1.size; omega) | (have := hb1.size; simp at this; omega) | exact bch (by simp [*]) hb1 | exact bch (Below.drew (by simp [*])) hb1))
  clear hK K
  try simp only [Act.put, List.setIfInBounds_toArray, List.set_cons_zero, List.set_cons_succ]
  refine wpAnyH_take (i := 12) (oi := { dst := some 34, op := Op.move (Operand.tmp 33), type := 4, pos := "law.go:266", after := #[{ on := 11, ground := Ground.data }, { on := 11, ground := Ground.chain }, { on := 8, ground := Ground.guard }], guard := some (8, true) }) (v := ?_) rfl (by kernel_rfl) (by kernel_rfl) (by kernel_rfl) (fun _ _ _ h => h) (Or.inl ⟨by rfl, ?_⟩) (by assumption) ?_
  rotate_left
  · intro w hSw; (try dsimp only at hSw); go_simp
    try with_reducible rfl
  try simp only [Act.put, List.setIfInBounds_toArray, List.set_cons_zero, List.set_cons_succ]
  refine wpAnyH_take (i := 13) (oi := { dst := some 35, op := Op.load 24 (Operand.tmp 1), type := 24, pos := "law.go:266", after := #[{ on := 12, ground := Ground.guard }], guard := some (12, false) }) (v := ?_) rfl (by kernel_rfl) (by kernel_rfl) (by kernel_rfl) (fun _ _ _ h => h) (Or.inl ⟨by rfl, ?_⟩) (by assumption) ?_
  rotate_left
  · intro w hSw; (try dsimp only at hSw); go_simp
    try with_reducible rfl
  try simp only [Act.put, List.setIfInBounds_toArray, List.set_cons_zero, List.set_cons_succ]
  refine wpAnyH_ready (rs := [14]) (by kernel_rfl) (by simp) ?_
  refine AllReadyH.cons (o := { dst := some 36, op := Op.call { callee := Callee.value (Operand.func 21), args := #[Operand.tmp 35], argTypes := #[24] }, type := 28, pos := "law.go:266", after := #[{ on := 13, ground := Ground.data }, { on := 12, ground := Ground.chain }, { on := 12, ground := Ground.guard }], guard := some (12, false) }) rfl (fun K hK => ?_) AllReadyH.nil
  go_simp
  (first | (go_at_call 62; first | ((with_reducible refine (of_any 0 0 _).mono ?_); rintro e w' ⟨rfl, hb1⟩)) | (go_at_call 21; first | ((with_reducible refine (NX _).mono ?_); rintro e w' ⟨rfl, hb1⟩)) | (go_at_call 31; first | ((with_reducible refine (IE _).mono ?_); rintro e w' ⟨rfl, hb1⟩)) | (go_at_call 35; first | ((with_reducible refine (SI _).mono ?_); rintro e w' ⟨rfl, hb1⟩)))
  go_wp2_with fail
  refine hK.out _ _ ?_ (fun hHeld => ?_)
  · (((try dsimp only); (repeat' apply And.intro) <;> first | assumption | (simp [*]; done) | exact Below.drew (by assumption) | exact keep_cell hb1 (by first | (dsimp only; omega) | (simp; omega)) (by simp [*]) | (have := hb1.size; omega) | (have := hb1.size; simp at this; omega) | exact bch (by simp [*]) hb1 | exact bch (Below.drew (by simp [*])) hb1))
  clear hK K
  try simp only [Act.put, List.setIfInBounds_toArray, List.set_cons_zero, List.set_cons_succ]
  refine wpAnyH_ready (rs := [15]) (by kernel_rfl) (by simp) ?_
  refine AllReadyH.cons (o := { dst := some 37, op := Op.call { callee := Callee.value (Operand.func 35), args := #[Operand.tmp 36], argTypes := #[28] }, type := 4, pos := "law.go:266", after := #[{ on := 14, ground := Ground.data }, { on := 14, ground := Ground.chain }, { on := 12, ground := Ground.guard }], guard := some (12, false) }) rfl (fun K hK => ?_) AllReadyH.nil
  go_simp
  (first | (go_at_call 62; first | ((with_reducible refine (of_any 0 0 _).mono ?_); rintro e w' ⟨rfl, hb1⟩)) | (go_at_call 21; first | ((with_reducible refine (NX _).mono ?_); rintro e w' ⟨rfl, hb1⟩)) | (go_at_call 31; first | ((with_reducible refine (IE _).mono ?_); rintro e w' ⟨rfl, hb1⟩)) | (go_at_call 35; first | ((with_reducible refine (SI _).mono ?_); rintro e w' ⟨rfl, hb1⟩)))
  go_wp2_with fail
  refine hK.out _ _ ?_ (fun hHeld => ?_)
  · (((try dsimp only); (repeat' apply And.intro) <;> first | assumption | (simp [*]; done) | exact Below.drew (by assumption) | exact keep_cell hb1 (by first | (dsimp only; omega) | (simp; omega)) (by simp [*]) | (have := hb1.size; omega) | (have := hb1.size; simp at this; omega) | exact bch (by simp [*]) hb1 | exact bch (Below.drew (by simp [*])) hb1))
  clear hK K
  try simp only [Act.put, List.setIfInBounds_toArray, List.set_cons_zero, List.set_cons_succ]
  refine wpAnyH_take (i := 16) (oi := { dst := some 38, op := Op.pick (Operand.tmp 34) (Operand.const (Value.bool true)) (Operand.tmp 37), type := 4, pos := "law.go:266", after := #[{ on := 12, ground := Ground.data }, { on := 15, ground := Ground.data }, { on := 8, ground := Ground.guard }], guard := some (8, true) }) (v := ?_) rfl (by kernel_rfl) (by kernel_rfl) (by kernel_rfl) (fun _ _ _ h => h) (Or.inl ⟨by rfl, ?_⟩) (by assumption) ?_
  rotate_left
  · intro w hSw; (try dsimp only at hSw); go_simp
    try with_reducible rfl
  try simp only [Act.put, List.setIfInBounds_toArray, List.set_cons_zero, List.set_cons_succ]
  refine wpAnyH_take (i := 17) (oi := { dst := some 39, op := Op.move (Operand.tmp 38), type := 4, pos := "law.go:266", after := #[{ on := 16, ground := Ground.data }, { on := 15, ground := Ground.chain }, { on := 8, ground := Ground.guard }], guard := some (8, true) }) (v := ?_) rfl (by kernel_rfl) (by kernel_rfl) (by kernel_rfl) (fun _ _ _ h => h) (Or.inl ⟨by rfl, ?_⟩) (by assumption) ?_
  rotate_left
  · intro w hSw; (try dsimp only at hSw); go_simp
    try with_reducible rfl
  try simp only [Act.put, List.setIfInBounds_toArray, List.set_cons_zero, List.set_cons_succ]
  refine wpAnyH_take (i := 18) (oi := { dst := some 40, op := Op.load 24 (Operand.tmp 6), type := 24, pos := "law.go:266", after := #[{ on := 17, ground := Ground.guard }], guard := some (17, false) }) (v := undef) rfl (by kernel_rfl) (by kernel_rfl) (by kernel_rfl) (fun _ _ _ h => h) (Or.inr ⟨by rfl, rfl⟩) (by assumption) ?_
  try simp only [Act.put, List.setIfInBounds_toArray, List.set_cons_zero, List.set_cons_succ]
  refine wpAnyH_take (i := 19) (oi := { dst := some 41, op := Op.call { callee := Callee.value (Operand.func 63), args := #[Operand.tmp 40], argTypes := #[24] }, type := 4, pos := "law.go:266", after := #[{ on := 18, ground := Ground.data }, { on := 17, ground := Ground.chain }, { on := 17, ground := Ground.guard }], guard := some (17, false) }) (v := undef) rfl (by kernel_rfl) (by kernel_rfl) (by kernel_rfl) (fun _ _ _ h => h) (Or.inr ⟨by rfl, rfl⟩) (by assumption) ?_
  try simp only [Act.put, List.setIfInBounds_toArray, List.set_cons_zero, List.set_cons_succ]
  refine wpAnyH_take (i := 20) (oi := { dst := some 42, op := Op.pick (Operand.tmp 39) (Operand.const (Value.bool true)) (Operand.tmp 41), type := 4, pos := "law.go:266", after := #[{ on := 17, ground := Ground.data }, { on := 19, ground := Ground.data }, { on := 8, ground := Ground.guard }], guard := some (8, true) }) (v := ?_) rfl (by kernel_rfl) (by kernel_rfl) (by kernel_rfl) (fun _ _ _ h => h) (Or.inl ⟨by rfl, ?_⟩) (by assumption) ?_
  rotate_left
  · intro w hSw; (try dsimp only at hSw); go_simp
    try with_reducible rfl
  try simp only [Act.put, List.setIfInBounds_toArray, List.set_cons_zero, List.set_cons_succ]
  refine wpAnyH_take (i := 21) (oi := { dst := some 43, op := Op.pick (Operand.tmp 30) (Operand.tmp 42) (Operand.const (Value.bool false)), type := 4, pos := "law.go:266", after := #[{ on := 8, ground := Ground.data }, { on := 20, ground := Ground.data }], guard := none }) (v := ?_) rfl (by kernel_rfl) (by kernel_rfl) (by kernel_rfl) (fun _ _ _ h => h) (Or.inl ⟨by rfl, ?_⟩) (by assumption) ?_
  rotate_left
  · intro w hSw; (try dsimp only at hSw); go_simp
    try with_reducible rfl
  try simp only [Act.put, List.setIfInBounds_toArray, List.set_cons_zero, List.set_cons_succ]
  refine wpAnyH_take (i := 22) (oi := { dst := some 2, op := Op.assign (Operand.tmp 43), type := 4, pos := "law.go:266", after := #[{ on := 21, ground := Ground.data }, { on := 19, ground := Ground.chain }, { on := 0, ground := Ground.phase }, { on := 1, ground := Ground.phase }, { on := 2, ground := Ground.phase }, { on := 3, ground := Ground.phase }, { on := 4, ground := Ground.phase }, { on := 5, ground := Ground.phase }, { on := 6, ground := Ground.phase }, { on := 7, ground := Ground.phase }, { on := 8, ground := Ground.phase }, { on := 9, ground := Ground.phase }, { on := 10, ground := Ground.phase }, { on := 11, ground := Ground.phase }, { on := 12, ground := Ground.phase }, { on := 13, ground := Ground.phase }, { on := 14, ground := Ground.phase }, { on := 15, ground := Ground.phase }, { on := 16, ground := Ground.phase }, { on := 17, ground := Ground.phase }, { on := 18, ground := Ground.phase }, { on := 19, ground := Ground.phase }, { on := 20, ground := Ground.phase }, { on := 21, ground := Ground.phase }], guard := none }) (v := ?_) rfl (by kernel_rfl) (by kernel_rfl) (by kernel_rfl) (fun _ _ _ h => h) (Or.inl ⟨by rfl, ?_⟩) (by assumption) ?_
  rotate_left
  · intro w hSw; (try dsimp only at hSw); go_simp
    try with_reducible rfl
  try simp only [Act.put, List.setIfInBounds_toArray, List.set_cons_zero, List.set_cons_succ]
  refine wpAnyH_done (by kernel_rfl) ?_ _
  go_wp2
  go_ret
  exact ⟨rfl, by simp [*]⟩

theorem walk (a0 a1 : Int) (w0 : (Lit.int .u64 a0).wf = true) (w1 : (Lit.int .u64 a1).wf = true) (w : World) :
    Calls Try.prog 17 #[.agg #[.int .u64 a0, .int .u64 a1]] w fun e w' => e = .returned (.bool true) ∧ Below w.heap.size w w' := by
  have b0 := u64_bd w0
  have b1 := u64_bd w1
  obtain ⟨X0, rfl⟩ := Int.eq_ofNat_of_zero_le b0.1
  obtain ⟨Y0, rfl⟩ := Int.eq_ofNat_of_zero_le b1.1
  obtain ⟨p, q, h0⟩ := Vg.Rd.ex X0 Y0 (by omega) (by omega)
  have hI := h0.iv
  have hlo := hI.lo
  have hhi := hI.hi
  have hpi := Vg.PI_pos
  have NX := fun w => in_any (X0 : Int) (Y0 : Int) w
  rw [Int.toNat_natCast, Int.toNat_natCast] at NX
  have RR := fun w => rread_any X0 Y0 p q h0 w
  have IE := fun w => isempty_any X0 Y0 p q h0 w
  have IS := fun w => issingle_any X0 Y0 p q h0 w
  have E0 := eqI (a := 0) (b := 0) (c := 0) (d := 0) (x := true) (y := true) (by decide) (by decide)
  rcases Int.lt_or_le q p with c | c
  · exact walk_empty X0 Y0 _ _ NX RR (fun w => bisect_no X0 Y0 p q h0 (by omega) w) (fun w => (IE w).mono fun _ _ h => TB.yes h c) E0 w
  rcases Int.lt_or_le p q with d | d
  · have NE := fun w => (IE w).mono fun _ _ h => TB.no h (by omega)
    have NS := fun w => (IS w).mono fun _ _ h => TB.no h (by omega)
    rcases Int.lt_or_le (p + 1) q with f | f
    · obtain ⟨c, ⟨c1, c2⟩, BI⟩ := bisect_yes X0 Y0 p q h0 f
      unfold Vg.Pl at hlo hhi
      have hc : Vg.Pl c := by unfold Vg.Pl; omega
      have I1 : Vg.Iv p c := by unfold Vg.Iv; omega
      have I2 : Vg.Iv c q := by unfold Vg.Iv; omega
      have I3 : Vg.Iv c c := by unfold Vg.Iv; omega
      have NY := fun w => in_any (Vg.atn true p : Int) (Vg.atn true q : Int) w
      rw [Int.toNat_natCast, Int.toNat_natCast] at NY
      have AB1 := fun w => rabove_any (Vg.atn true c) (Vg.atn true p) (Vg.atn_le hc) (Vg.atn_le hlo) w
      have AB2 := fun w => rabove_any (Vg.atn true q) (Vg.atn true c) (Vg.atn_le hhi) (Vg.atn_le hc) w
      unfold abv at AB1 AB2
      rw [Vg.nn_atn hc, Vg.nn_atn hlo, Vg.pl_atn hc, Vg.pl_atn hlo, decide_eq_true c1] at AB1
      rw [Vg.nn_atn hc, Vg.nn_atn hhi, Vg.pl_atn hc, Vg.pl_atn hhi, decide_eq_true c2] at AB2
      exact walk_yes X0 Y0 _ _ _ NX RR BI NY (fun w => rvalid_yes p c hlo hc c1 w) (fun w => rvalid_yes c q hc hhi c2 w)
        (fun w => rinf_any _ (Vg.atn_le hc) false (by rw [Vg.infb_atn hc]; exact decide_eq_false (by omega)) w) AB1 AB2
        (fun w => hull_cut p c q I1 I2 c1 c2 w) (fun w => meet_cut p c q I1 I2 c1 c2 w) (fun w => (issingle_any _ _ c c (Vg.Rd.self I3) w).mono fun _ _ h => TB.yes h rfl)
        (eqI (x := true) (y := true) (fsame _ _ (Vg.o_self hlo)) (fsame _ _ (Vg.o_self hhi))) w
    · obtain rfl : q = p + 1 := by omega
      exact walk_near X0 Y0 _ _ NX RR (fun w => bisect_no X0 Y0 p _ h0 (by omega) w) NE E0 NS (fun w => neigh_yes p hlo hhi w) w
  · obtain rfl : q = p := by omega
    exact walk_one X0 Y0 _ _ NX RR (fun w => bisect_no X0 Y0 _ _ h0 (by omega) w) (fun w => (IE w).mono fun _ _ h => TB.no h (by omega)) E0 (fun w => (IS w).mono fun _ _ h => TB.yes h rfl) w

end Go.Proofs.Ytljnadoodbninaa.relCuts

/- What Overlap says with the two changed about, and beside the relations. The walk. -/
import Derived.Test.YtljnadoodbninaaWAcross
namespace Go.Proofs.Ytljnadoodbninaa.relAcross
open Go.RowKit

set_option maxRecDepth 20000 in
set_option maxHeartbeats 8000000 in
theorem walk (a00 a01 a10 a11 : Int) (w00 : (Lit.int .u64 a00).wf = true) (w01 : (Lit.int .u64 a01).wf = true) (w10 : (Lit.int .u64 a10).wf = true) (w11 : (Lit.int .u64 a11).wf = true) (w : World) :
    Calls Try.prog 15 #[.agg #[.int .u64 a00, .int .u64 a01], .agg #[.int .u64 a10, .int .u64 a11]] w fun e w' => e = .returned (.bool true) ∧ Below w.heap.size w w' := by
  obtain ⟨p, q, h0⟩ := Vg.Rd.ex a00.toNat a01.toNat (by have := u64_bd w00; omega) (by have := u64_bd w01; omega)
  have H0 := hide h0
  obtain ⟨r, s, h1⟩ := Vg.Rd.ex a10.toNat a11.toNat (by have := u64_bd w10; omega) (by have := u64_bd w11; omega)
  have H1 := hide h1
  have I := hide (show Vg.Iv p q ∧ Vg.Iv r s from ⟨h0.iv, h1.iv⟩)
  clear h0 h1 w00 w01 w10 w11
  have hst := sto
  obtain ⟨X0, e0⟩ : ∃ n, a00.toNat = n := ⟨_, rfl⟩
  obtain ⟨Y0, f0⟩ : ∃ n, a01.toNat = n := ⟨_, rfl⟩
  rw [e0, f0] at H0
  have N0 := fun w => in_any a00 a01 w
  rw [e0, f0] at N0
  clear e0 f0
  obtain ⟨X1, e1⟩ : ∃ n, a10.toNat = n := ⟨_, rfl⟩
  obtain ⟨Y1, f1⟩ : ∃ n, a11.toNat = n := ⟨_, rfl⟩
  rw [e1, f1] at H1
  have N1 := fun w => in_any a10 a11 w
  rw [e1, f1] at N1
  clear e1 f1
  go_enter Try.func15, Try.ntmps15
  go_wp2_with fail
  refine (awake_any _).mono ?_; rintro e w1 ⟨rfl, hb1⟩
  have m00 : w1.cell? ⟨w.heap.size, 0, none⟩ = some (.int .u64 a00) := keep_cell hb1 (by first | (simp; done) | (simp; omega)) (by simp [go_sem])
  have m01 : w1.cell? ⟨w.heap.size, 1, none⟩ = some (.int .u64 a01) := keep_cell hb1 (by first | (simp; done) | (simp; omega)) (by simp [go_sem])
  have m10 : w1.cell? ⟨w.heap.size + 1, 0, none⟩ = some (.int .u64 a10) := keep_cell hb1 (by first | (simp; done) | (simp; omega)) (by simp [go_sem])
  have m11 : w1.cell? ⟨w.heap.size + 1, 1, none⟩ = some (.int .u64 a11) := keep_cell hb1 (by first | (simp; done) | (simp; omega)) (by simp [go_sem])
  have z : w.heap.size + 1 < w1.heap.size := by have := hb1.size; simp at this; omega
  have g : Below w.heap.size w w1 := b_two.trans (hb1.mono (by simp <;> omega))
  clear hb1
  go_upto_region 3 with fail
  go_cut [5] (fun v wx => Below w.heap.size w wx ∧ wx.cell? ⟨w.heap.size + 1, 0, none⟩ = some (.int .u64 a10) ∧ wx.cell? ⟨w.heap.size + 1, 1, none⟩ = some (.int .u64 a11) ∧ w.heap.size + 1 < wx.heap.size ∧ (∃ B : Nat, v = .pointer (some ⟨B, 0, none⟩) ∧ wx.cell? ⟨B, 0, none⟩ = some (.float .f64 X0) ∧ wx.cell? ⟨B, 1, none⟩ = some (.float .f64 Y0) ∧ B < wx.heap.size))
  case first =>
    go_wp2_with fail
    refine (N0 _).mono ?_; rintro e w2 ⟨rfl, hb2⟩
    have m10 := keep_cell hb2 (by dsimp only <;> omega) m10
    have m11 := keep_cell hb2 (by dsimp only <;> omega) m11
    have z := Nat.lt_of_lt_of_le z hb2.size
    have g := bch g hb2
    clear hb2
    go_wp2_with fail
    go_meet
    refine ⟨?_, ?_, ?_, ?_, _, rfl, ?_, ?_, ?_⟩
    all_goals first | (simp [go_sem, *]; done) | exact g.alloc g.size _ | (simp; omega)
  case rest =>
  clear N0
  clear m00
  clear m01
  clear m10
  clear m11
  clear z
  clear g
  obtain ⟨g, m10, m11, z, B0, rfl, k00, k01, z0⟩ := hcut
  go_upto_region 4 with fail
  go_cut [6] (fun v wx => Below w.heap.size w wx ∧ wx.cell? ⟨B0, 0, none⟩ = some (.float .f64 X0) ∧ wx.cell? ⟨B0, 1, none⟩ = some (.float .f64 Y0) ∧ B0 < wx.heap.size ∧ (∃ B : Nat, v = .pointer (some ⟨B, 0, none⟩) ∧ wx.cell? ⟨B, 0, none⟩ = some (.float .f64 X1) ∧ wx.cell? ⟨B, 1, none⟩ = some (.float .f64 Y1) ∧ B < wx.heap.size))
  case first =>
    go_wp2_with fail
    refine (N1 _).mono ?_; rintro e w2 ⟨rfl, hb2⟩
    have k00 := keep_cell hb2 z0 k00
    have k01 := keep_cell hb2 z0 k01
    have z0 := Nat.lt_of_lt_of_le z0 hb2.size
    have g := bch g hb2
    clear hb2
    go_wp2_with fail
    go_meet
    refine ⟨?_, ?_, ?_, ?_, _, rfl, ?_, ?_, ?_⟩
    all_goals first | (simp [go_sem, *]; done) | exact g.alloc g.size _ | (simp; omega)
  case rest =>
  clear N1
  clear m10
  clear m11
  clear z
  clear g
  clear k00
  clear k01
  clear z0
  obtain ⟨g, k00, k01, z0, B1, rfl, k10, k11, z1⟩ := hcut
  go_wp2_with fail
  refine (overlap_any X0 Y0 X1 Y1 p q r s H0.out H1.out _).mono ?_; rintro e w' ⟨k, rfl, hk, hb⟩
  have k00 := keep_cell hb z0 k00
  have k01 := keep_cell hb z0 k01
  have k10 := keep_cell hb z1 k10
  have k11 := keep_cell hb z1 k11
  have z0 := Nat.lt_of_lt_of_le z0 hb.size
  have z1 := Nat.lt_of_lt_of_le z1 hb.size
  have g := (by first | exact bch g hb | exact bch g.drew hb)
  clear hb
  have A := ov_all hk
  have HK := hide hk
  clear hk
  have C6 : ∀ w, Calls Try.prog 56 #[.agg #[.float .f64 X1, .float .f64 Y1], .agg #[.float .f64 X0, .float .f64 Y0]] w fun e w' => e = .returned (.int .i64 (acr k)) ∧ Below w.heap.size w w' := fun w => (overlap_any X1 Y1 X0 Y0 r s p q H1.out H0.out w).mono (fun _ _ ⟨m, h1, h2, h3⟩ => ⟨by rw [h1, ov_across HK.out h2], h3⟩)
  have C7 := fun w => across_any k HK.out.bd.1 HK.out.bd.2 w
  rcases A with ⟨rfl, d⟩ | ⟨rfl, d⟩ | ⟨rfl, d⟩ | ⟨rfl, d⟩ | ⟨rfl, d⟩ | ⟨rfl, d⟩ | ⟨rfl, d⟩ | ⟨rfl, d⟩ | ⟨rfl, d⟩ | ⟨rfl, d⟩ | ⟨rfl, d⟩ | ⟨rfl, d⟩ | ⟨rfl, d⟩ | ⟨rfl, d⟩ | ⟨rfl, d⟩ | ⟨rfl, d⟩
  all_goals
    have i := I.out
    have i0 := Vg.PI_pos
    unfold Vg.Iv at i
    first
      | (have b0 : q < p := by omega
         have C1 := fun w => (isempty_any X0 Y0 p q H0.out w).mono (fun _ _ h => TB.yes h b0)
         clear b0)
      | (have b0 : ¬ (q < p) := by omega
         have C1 := fun w => (isempty_any X0 Y0 p q H0.out w).mono (fun _ _ h => TB.no h b0)
         clear b0)
    first
      | (have b0 : s < r := by omega
         have C2 := fun w => (isempty_any X1 Y1 r s H1.out w).mono (fun _ _ h => TB.yes h b0)
         clear b0)
      | (have b0 : ¬ (s < r) := by omega
         have C2 := fun w => (isempty_any X1 Y1 r s H1.out w).mono (fun _ _ h => TB.no h b0)
         clear b0)
    first
      | (have b0 : min q s < max p r := by omega
         have C3 := fun w => (disjoint_any X0 Y0 X1 Y1 p q r s H0.out H1.out w).mono (fun _ _ h => TB.yes h b0)
         clear b0)
      | (have b0 : ¬ (min q s < max p r) := by omega
         have C3 := fun w => (disjoint_any X0 Y0 X1 Y1 p q r s H0.out H1.out w).mono (fun _ _ h => TB.no h b0)
         clear b0)
    first
      | (have b0 : p = r ∧ q = s := by omega
         have C4 := fun w => (equal_any X0 Y0 X1 Y1 p q r s H0.out H1.out w).mono (fun _ _ h => TB.yes h b0)
         clear b0)
      | (have b0 : ¬ (p = r ∧ q = s) := by omega
         have C4 := fun w => (equal_any X0 Y0 X1 Y1 p q r s H0.out H1.out w).mono (fun _ _ h => TB.no h b0)
         clear b0)
    first
      | (have b0 : q < p ∨ r ≤ p ∧ q ≤ s := by omega
         have C5 := fun w => (subset_any X0 Y0 X1 Y1 p q r s H0.out H1.out w).mono (fun _ _ h => TB.yes h b0)
         clear b0)
      | (have b0 : ¬ (q < p ∨ r ≤ p ∧ q ≤ s) := by omega
         have C5 := fun w => (subset_any X0 Y0 X1 Y1 p q r s H0.out H1.out w).mono (fun _ _ h => TB.no h b0)
         clear b0)
    clear d i i0
    go_wp2_with (first | (go_at_call 56; refine (C6 _).mono ?_; rintro e w' ⟨rfl, hb⟩; have k00 := keep_cell hb z0 k00; have k01 := keep_cell hb z0 k01; have k10 := keep_cell hb z1 k10; have k11 := keep_cell hb z1 k11; have z0 := Nat.lt_of_lt_of_le z0 hb.size; have z1 := Nat.lt_of_lt_of_le z1 hb.size; have g := (by first | exact bch g hb | exact bch g.drew hb); clear hb) | (go_at_call 59; refine (C7 _).mono ?_; rintro e w' ⟨rfl, rfl⟩) | (go_at_call 31; first | ((with_reducible refine (C1 _).mono ?_); rintro e w' ⟨rfl, hb⟩; have k00 := keep_cell hb z0 k00; have k01 := keep_cell hb z0 k01; have k10 := keep_cell hb z1 k10; have k11 := keep_cell hb z1 k11; have z0 := Nat.lt_of_lt_of_le z0 hb.size; have z1 := Nat.lt_of_lt_of_le z1 hb.size; have g := (by first | exact bch g hb | exact bch g.drew hb); clear hb) | ((with_reducible refine (C2 _).mono ?_); rintro e w' ⟨rfl, hb⟩; have k00 := keep_cell hb z0 k00; have k01 := keep_cell hb z0 k01; have k10 := keep_cell hb z1 k10; have k11 := keep_cell hb z1 k11; have z0 := Nat.lt_of_lt_of_le z0 hb.size; have z1 := Nat.lt_of_lt_of_le z1 hb.size; have g := (by first | exact bch g hb | exact bch g.drew hb); clear hb)) | (go_at_call 42; first | ((with_reducible refine (C3 _).mono ?_); rintro e w' ⟨rfl, hb⟩; have k00 := keep_cell hb z0 k00; have k01 := keep_cell hb z0 k01; have k10 := keep_cell hb z1 k10; have k11 := keep_cell hb z1 k11; have z0 := Nat.lt_of_lt_of_le z0 hb.size; have z1 := Nat.lt_of_lt_of_le z1 hb.size; have g := (by first | exact bch g hb | exact bch g.drew hb); clear hb)) | (go_at_call 41; first | ((with_reducible refine (C4 _).mono ?_); rintro e w' ⟨rfl, hb⟩; have k00 := keep_cell hb z0 k00; have k01 := keep_cell hb z0 k01; have k10 := keep_cell hb z1 k10; have k11 := keep_cell hb z1 k11; have z0 := Nat.lt_of_lt_of_le z0 hb.size; have z1 := Nat.lt_of_lt_of_le z1 hb.size; have g := (by first | exact bch g hb | exact bch g.drew hb); clear hb)) | (go_at_call 40; first | ((with_reducible refine (C5 _).mono ?_); rintro e w' ⟨rfl, hb⟩; have k00 := keep_cell hb z0 k00; have k01 := keep_cell hb z0 k01; have k10 := keep_cell hb z1 k10; have k11 := keep_cell hb z1 k11; have z0 := Nat.lt_of_lt_of_le z0 hb.size; have z1 := Nat.lt_of_lt_of_le z1 hb.size; have g := (by first | exact bch g hb | exact bch g.drew hb); clear hb)))
    go_ret
    exact ⟨rfl, g⟩

end Go.Proofs.Ytljnadoodbninaa.relAcross

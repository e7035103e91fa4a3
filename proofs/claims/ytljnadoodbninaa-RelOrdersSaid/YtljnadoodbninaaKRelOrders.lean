/- Every Less, StrictLess, Precedes, StrictPrecedes is what the words say. The walk. -/
import Derived.Test.YtljnadoodbninaaWRefRels
import Derived.Test.YtljnadoodbninaaWTold
import Derived.Test.YtljnadoodbninaaWKinds
import Derived.Test.YtljnadoodbninaaWRelB
namespace Go.Proofs.Ytljnadoodbninaa.relOrders
open Go.RowKit

set_option maxRecDepth 20000 in
set_option maxHeartbeats 8000000 in
theorem walk (a00 a01 a10 a11 : Int) (w00 : (Lit.int .u64 a00).wf = true) (w01 : (Lit.int .u64 a01).wf = true) (w10 : (Lit.int .u64 a10).wf = true) (w11 : (Lit.int .u64 a11).wf = true) (w : World) :
    Calls Try.prog 10 #[.agg #[.int .u64 a00, .int .u64 a01], .agg #[.int .u64 a10, .int .u64 a11]] w fun e w' => e = .returned (.bool true) ∧ Below w.heap.size w w' := by
  have b00 := u64_bd w00
  obtain ⟨X0, rfl⟩ := Int.eq_ofNat_of_zero_le b00.1
  have b01 := u64_bd w01
  obtain ⟨Y0, rfl⟩ := Int.eq_ofNat_of_zero_le b01.1
  have b10 := u64_bd w10
  obtain ⟨X1, rfl⟩ := Int.eq_ofNat_of_zero_le b10.1
  have b11 := u64_bd w11
  obtain ⟨Y1, rfl⟩ := Int.eq_ofNat_of_zero_le b11.1
  clear w00 w01 w10 w11
  obtain ⟨p, q, h0⟩ := Vg.Rd.ex X0 Y0 (by omega) (by omega)
  have H0 := hide h0
  obtain ⟨r, s, h1⟩ := Vg.Rd.ex X1 Y1 (by omega) (by omega)
  have H1 := hide h1
  have I := hide (show Vg.Iv p q ∧ Vg.Iv r s from ⟨h0.iv, h1.iv⟩)
  have N0 := fun w => in_any (X0 : Int) (Y0 : Int) w
  rw [Int.toNat_natCast, Int.toNat_natCast] at N0
  have N1 := fun w => in_any (X1 : Int) (Y1 : Int) w
  rw [Int.toNat_natCast, Int.toNat_natCast] at N1
  clear h0 h1 b00 b01 b10 b11
  have hst := sto
  obtain ⟨nless, gless⟩ := bool_of (q < p ∧ s < r ∨ (p ≤ q ∧ r ≤ s) ∧ p ≤ r ∧ q ≤ s)
  have Gless : Fact nless _ := gless
  obtain ⟨nsless, gsless⟩ := bool_of (q < p ∧ s < r ∨ (p ≤ q ∧ r ≤ s) ∧ bl p r ∧ bl q s)
  have Gsless : Fact nsless _ := gsless
  obtain ⟨nprec, gprec⟩ := bool_of (q < p ∨ s < r ∨ q ≤ r)
  have Gprec : Fact nprec _ := gprec
  obtain ⟨nsprec, gsprec⟩ := bool_of (q < p ∨ s < r ∨ q < r)
  have Gsprec : Fact nsprec _ := gsprec
  clear gless gsless gprec gsprec
  go_enter Try.func10, Try.ntmps10
  go_upto_region 1 with fail
  have m00 : ((w.alloc (.cells #[.int .u64 (X0 : Int), .int .u64 (Y0 : Int)] 24)).alloc (.cells #[.int .u64 (X1 : Int), .int .u64 (Y1 : Int)] 24)).cell? ⟨w.heap.size, 0, none⟩ = some (.int .u64 (X0 : Int)) := by simp [go_sem]
  have m01 : ((w.alloc (.cells #[.int .u64 (X0 : Int), .int .u64 (Y0 : Int)] 24)).alloc (.cells #[.int .u64 (X1 : Int), .int .u64 (Y1 : Int)] 24)).cell? ⟨w.heap.size, 1, none⟩ = some (.int .u64 (Y0 : Int)) := by simp [go_sem]
  have m10 : ((w.alloc (.cells #[.int .u64 (X0 : Int), .int .u64 (Y0 : Int)] 24)).alloc (.cells #[.int .u64 (X1 : Int), .int .u64 (Y1 : Int)] 24)).cell? ⟨w.heap.size + 1, 0, none⟩ = some (.int .u64 (X1 : Int)) := by simp [go_sem]
  have m11 : ((w.alloc (.cells #[.int .u64 (X0 : Int), .int .u64 (Y0 : Int)] 24)).alloc (.cells #[.int .u64 (X1 : Int), .int .u64 (Y1 : Int)] 24)).cell? ⟨w.heap.size + 1, 1, none⟩ = some (.int .u64 (Y1 : Int)) := by simp [go_sem]
  have z : w.heap.size + 1 < ((w.alloc (.cells #[.int .u64 (X0 : Int), .int .u64 (Y0 : Int)] 24)).alloc (.cells #[.int .u64 (X1 : Int), .int .u64 (Y1 : Int)] 24)).heap.size := by simp
  have g : Below w.heap.size w ((w.alloc (.cells #[.int .u64 (X0 : Int), .int .u64 (Y0 : Int)] 24)).alloc (.cells #[.int .u64 (X1 : Int), .int .u64 (Y1 : Int)] 24)) := b_two
  go_cut [5] (fun v wx => wx.cell? ⟨w.heap.size, 0, none⟩ = some (.int .u64 X0) ∧ wx.cell? ⟨w.heap.size, 1, none⟩ = some (.int .u64 Y0) ∧ wx.cell? ⟨w.heap.size + 1, 0, none⟩ = some (.int .u64 X1) ∧ wx.cell? ⟨w.heap.size + 1, 1, none⟩ = some (.int .u64 Y1) ∧ w.heap.size + 1 < wx.heap.size ∧ Below w.heap.size w wx ∧ ∃ B0 : Nat, v = .pointer (some ⟨B0, 0, none⟩) ∧ wx.cell? ⟨B0, 0, none⟩ = some (.float .f64 X0) ∧ wx.cell? ⟨B0, 1, none⟩ = some (.float .f64 Y0) ∧ B0 < wx.heap.size)
  case first =>
    go_wp2_with fail
    refine (N0 _).mono ?_; rintro e w' ⟨rfl, hb⟩
    have m00 := keep_cell hb (by first | (dsimp only; omega) | (simp; done) | (simp; omega)) m00
    have m01 := keep_cell hb (by first | (dsimp only; omega) | (simp; done) | (simp; omega)) m01
    have m10 := keep_cell hb (by first | (dsimp only; omega) | (simp; done) | (simp; omega)) m10
    have m11 := keep_cell hb (by first | (dsimp only; omega) | (simp; done) | (simp; omega)) m11
    have z := Nat.lt_of_lt_of_le z hb.size
    have g := bch g hb
    clear hb
    go_wp2_with fail
    go_meet
    refine ⟨?_, ?_, ?_, ?_, ?_, g.alloc g.size _, _, rfl, ?_, ?_, ?_⟩
    all_goals first | exact keep_cell b_one (by first | (dsimp only; omega) | omega) (by assumption) | (simp [go_sem, *]; done) | (simp; omega)
  case rest =>
  clear m00 m01 m10 m11 z g N0
  obtain ⟨m00, m01, m10, m11, z, g, B0, rfl, k00, k01, z0⟩ := hcut
  go_upto_region 2 with fail
  go_cut [6] (fun v wx => wx.cell? ⟨w.heap.size, 0, none⟩ = some (.int .u64 X0) ∧ wx.cell? ⟨w.heap.size, 1, none⟩ = some (.int .u64 Y0) ∧ wx.cell? ⟨w.heap.size + 1, 0, none⟩ = some (.int .u64 X1) ∧ wx.cell? ⟨w.heap.size + 1, 1, none⟩ = some (.int .u64 Y1) ∧ w.heap.size + 1 < wx.heap.size ∧ Below w.heap.size w wx ∧ wx.cell? ⟨B0, 0, none⟩ = some (.float .f64 X0) ∧ wx.cell? ⟨B0, 1, none⟩ = some (.float .f64 Y0) ∧ B0 < wx.heap.size ∧ ∃ B1 : Nat, v = .pointer (some ⟨B1, 0, none⟩) ∧ wx.cell? ⟨B1, 0, none⟩ = some (.float .f64 X1) ∧ wx.cell? ⟨B1, 1, none⟩ = some (.float .f64 Y1) ∧ B1 < wx.heap.size)
  case first =>
    go_wp2_with fail
    refine (N1 _).mono ?_; rintro e w' ⟨rfl, hb⟩
    have m00 := keep_cell hb (by first | (dsimp only; omega) | (simp; done) | (simp; omega)) m00
    have m01 := keep_cell hb (by first | (dsimp only; omega) | (simp; done) | (simp; omega)) m01
    have m10 := keep_cell hb (by first | (dsimp only; omega) | (simp; done) | (simp; omega)) m10
    have m11 := keep_cell hb (by first | (dsimp only; omega) | (simp; done) | (simp; omega)) m11
    have k00 := keep_cell hb z0 k00
    have k01 := keep_cell hb z0 k01
    have z0 := Nat.lt_of_lt_of_le z0 hb.size
    have z := Nat.lt_of_lt_of_le z hb.size
    have g := bch g hb
    clear hb
    go_wp2_with fail
    go_meet
    refine ⟨?_, ?_, ?_, ?_, ?_, g.alloc g.size _, ?_, ?_, ?_, _, rfl, ?_, ?_, ?_⟩
    all_goals first | exact keep_cell b_one (by first | (dsimp only; omega) | omega) (by assumption) | (simp [go_sem, *]; done) | (simp; omega)
  case rest =>
  clear m00 m01 m10 m11 z g N1 k00 k01 z0
  obtain ⟨m00, m01, m10, m11, z, g, k00, k01, z0, B1, rfl, k10, k11, z1⟩ := hcut
  go_wp2_with fail
  go_region_held3 (fun wx => wx.cell? ⟨w.heap.size, 0, none⟩ = some (.int .u64 X0) ∧ wx.cell? ⟨w.heap.size, 1, none⟩ = some (.int .u64 Y0) ∧ wx.cell? ⟨w.heap.size + 1, 0, none⟩ = some (.int .u64 X1) ∧ wx.cell? ⟨w.heap.size + 1, 1, none⟩ = some (.int .u64 Y1) ∧ w.heap.size + 1 < wx.heap.size ∧ wx.cell? ⟨B0, 0, none⟩ = some (.float .f64 X0) ∧ wx.cell? ⟨B0, 1, none⟩ = some (.float .f64 Y0) ∧ B0 < wx.heap.size ∧ wx.cell? ⟨B1, 0, none⟩ = some (.float .f64 X1) ∧ wx.cell? ⟨B1, 1, none⟩ = some (.float .f64 Y1) ∧ B1 < wx.heap.size ∧ Below w.heap.size w wx)
      (((try dsimp only); (repeat' apply And.intro) <;> first | assumption | (simp [*]; done) | exact Below.drew (by assumption) | exact keep_cell hb1 (by first | (dsimp only; omega) | (simp; omega)) (by simp [*]) | (have := hb1.size; omega) | (have := hb1.size; simp at this; omega) | exact bch (by simp [*]) hb1 | exact bch (Below.drew (by simp [*])) hb1))
      (first | (go_at_call 43; (with_reducible refine ((less_any X0 Y0 X1 Y1 p q r s H0.out H1.out _).mono (fun _ _ h => TB.bool Gless h)).mono ?_); rintro e w' ⟨rfl, hb1⟩) | (go_at_call 44; (with_reducible refine ((rless_any X0 Y0 X1 Y1 p q r s H0.out H1.out _).mono (fun _ _ h => TB.bool Gless h)).mono ?_); rintro e w' ⟨rfl, hb1⟩) | (go_at_call 45; (with_reducible refine ((sless_any X0 Y0 X1 Y1 p q r s H0.out H1.out _).mono (fun _ _ h => TB.bool Gsless h)).mono ?_); rintro e w' ⟨rfl, hb1⟩) | (go_at_call 46; (with_reducible refine ((rsless_any X0 Y0 X1 Y1 p q r s H0.out H1.out _).mono (fun _ _ h => TB.bool Gsless h)).mono ?_); rintro e w' ⟨rfl, hb1⟩) | (go_at_call 47; (with_reducible refine ((prec_any X0 Y0 X1 Y1 p q r s H0.out H1.out _).mono (fun _ _ h => TB.bool Gprec h)).mono ?_); rintro e w' ⟨rfl, hb1⟩) | (go_at_call 48; (with_reducible refine ((rprec_any X0 Y0 X1 Y1 p q r s H0.out H1.out _).mono (fun _ _ h => TB.bool Gprec h)).mono ?_); rintro e w' ⟨rfl, hb1⟩) | (go_at_call 49; (with_reducible refine ((sprec_any X0 Y0 X1 Y1 p q r s H0.out H1.out _).mono (fun _ _ h => TB.bool Gsprec h)).mono ?_); rintro e w' ⟨rfl, hb1⟩) | (go_at_call 50; (with_reducible refine ((rsprec_any X0 Y0 X1 Y1 p q r s H0.out H1.out _).mono (fun _ _ h => TB.bool Gsprec h)).mono ?_); rintro e w' ⟨rfl, hb1⟩))
  go_wp2
  go_ret
  exact ⟨rfl, by simp [*]⟩

end Go.Proofs.Ytljnadoodbninaa.relOrders

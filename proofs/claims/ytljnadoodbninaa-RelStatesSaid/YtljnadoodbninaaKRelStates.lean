/- Every Overlap is the row of the table that is true. The walk. -/
import Derived.Test.YtljnadoodbninaaWRefOvZ
import Derived.Test.YtljnadoodbninaaWTold
namespace Go.Proofs.Ytljnadoodbninaa.relStates
open Go.RowKit

theorem TO_the {p q r s : Int} {w w' : World} {e : Ending} (h : TO (IsOv p q r s) w e w') : e = .returned (.int .i64 (ov p q r s)) ∧ Below w.heap.size w w' := by
  obtain ⟨k, he, hk, hb⟩ := h
  cases hk
  exact ⟨he, hb⟩

set_option maxRecDepth 20000 in
set_option maxHeartbeats 8000000 in
theorem walk (a00 a01 a10 a11 : Int) (w00 : (Lit.int .u64 a00).wf = true) (w01 : (Lit.int .u64 a01).wf = true) (w10 : (Lit.int .u64 a10).wf = true) (w11 : (Lit.int .u64 a11).wf = true) (w : World) :
    Calls Try.prog 12 #[.agg #[.int .u64 a00, .int .u64 a01], .agg #[.int .u64 a10, .int .u64 a11]] w fun e w' => e = .returned (.bool true) ∧ Below w.heap.size w w' := by
  have b00 := u64_bd w00
  obtain ⟨X0, rfl⟩ := Int.eq_ofNat_of_zero_le b00.1
  have b01 := u64_bd w01
  obtain ⟨Y0, rfl⟩ := Int.eq_ofNat_of_zero_le b01.1
  have b10 := u64_bd w10
  obtain ⟨X1, rfl⟩ := Int.eq_ofNat_of_zero_le b10.1
  have b11 := u64_bd w11
  obtain ⟨Y1, rfl⟩ := Int.eq_ofNat_of_zero_le b11.1
  clear w00 w01 w10 w11
  obtain ⟨p, q, h0⟩ := Vg.Rd.ex X0 Y0 (by omega) (by omega)
  have H0 := hide h0
  obtain ⟨r, s, h1⟩ := Vg.Rd.ex X1 Y1 (by omega) (by omega)
  have H1 := hide h1
  have I := hide (show Vg.Iv p q ∧ Vg.Iv r s from ⟨h0.iv, h1.iv⟩)
  have N0 := fun w => in_any (X0 : Int) (Y0 : Int) w
  rw [Int.toNat_natCast, Int.toNat_natCast] at N0
  have N1 := fun w => in_any (X1 : Int) (Y1 : Int) w
  rw [Int.toNat_natCast, Int.toNat_natCast] at N1
  clear h0 h1 b00 b01 b10 b11
  have hst := sto
  have C1 := fun w => (overlap_any X0 Y0 X1 Y1 p q r s H0.out H1.out w).mono (fun _ _ h => TO_the h)
  have C2 := fun w => (rov_any X0 Y0 X1 Y1 p q r s H0.out H1.out w).mono (fun _ _ h => TO_the h)
  obtain ⟨kk, hk⟩ : ∃ n, ov p q r s = n := ⟨_, rfl⟩
  rw [hk] at C1 C2
  clear hk
  go_enter Try.func12, Try.ntmps12
  go_upto_region 1 with fail
  have m00 : ((w.alloc (.cells #[.int .u64 (X0 : Int), .int .u64 (Y0 : Int)] 24)).alloc (.cells #[.int .u64 (X1 : Int), .int .u64 (Y1 : Int)] 24)).cell? ⟨w.heap.size, 0, none⟩ = some (.int .u64 (X0 : Int)) := by simp [go_sem]
  have m01 : ((w.alloc (.cells #[.int .u64 (X0 : Int), .int .u64 (Y0 : Int)] 24)).alloc (.cells #[.int .u64 (X1 : Int), .int .u64 (Y1 : Int)] 24)).cell? ⟨w.heap.size, 1, none⟩ = some (.int .u64 (Y0 : Int)) := by simp [go_sem]
  have m10 : ((w.alloc (.cells #[.int .u64 (X0 : Int), .int .u64 (Y0 : Int)] 24)).alloc (.cells #[.int .u64 (X1 : Int), .int .u64 (Y1 : Int)] 24)).cell? ⟨w.heap.size + 1, 0, none⟩ = some (.int .u64 (X1 : Int)) := by simp [go_sem]
  have m11 : ((w.alloc (.cells #[.int .u64 (X0 : Int), .int .u64 (Y0 : Int)] 24)).alloc (.cells #[.int .u64 (X1 : Int), .int .u64 (Y1 : Int)] 24)).cell? ⟨w.heap.size + 1, 1, none⟩ = some (.int .u64 (Y1 : Int)) := by simp [go_sem]
  have z : w.heap.size + 1 < ((w.alloc (.cells #[.int .u64 (X0 : Int), .int .u64 (Y0 : Int)] 24)).alloc (.cells #[.int .u64 (X1 : Int), .int .u64 (Y1 : Int)] 24)).heap.size := by simp
  have g : Below w.heap.size w ((w.alloc (.cells #[.int .u64 (X0 : Int), .int .u64 (Y0 : Int)] 24)).alloc (.cells #[.int .u64 (X1 : Int), .int .u64 (Y1 : Int)] 24)) := b_two
  generalize hW : ((w.alloc (.cells #[.int .u64 (X0 : Int), .int .u64 (Y0 : Int)] 24)).alloc (.cells #[.int .u64 (X1 : Int), .int .u64 (Y1 : Int)] 24)) = W0 at *
  clear hW
  go_region_held3 (fun wx => wx.cell? ⟨w.heap.size, 0, none⟩ = some (.int .u64 X0) ∧ wx.cell? ⟨w.heap.size, 1, none⟩ = some (.int .u64 Y0) ∧ wx.cell? ⟨w.heap.size + 1, 0, none⟩ = some (.int .u64 X1) ∧ wx.cell? ⟨w.heap.size + 1, 1, none⟩ = some (.int .u64 Y1) ∧ w.heap.size + 1 < wx.heap.size ∧ Below w.heap.size w wx)
      (((try dsimp only); (repeat' apply And.intro) <;> first | assumption | (simp [*]; done) | exact Below.drew (by assumption) | exact keep_cell hb1 (by first | (dsimp only; omega) | (simp; omega)) (by simp [*]) | (have := hb1.size; omega) | (have := hb1.size; simp at this; omega) | exact bch (by simp [*]) hb1 | exact bch (Below.drew (by simp [*])) hb1))
      (first | (go_at_call 21; first | ((with_reducible refine (N0 _).mono ?_); rintro e w' ⟨rfl, hb1⟩) | ((with_reducible refine (N1 _).mono ?_); rintro e w' ⟨rfl, hb1⟩)) | (go_at_call 56; (with_reducible refine (C1 _).mono ?_); rintro e w' ⟨rfl, hb1⟩) | (go_at_call 57; (with_reducible refine (C2 _).mono ?_); rintro e w' ⟨rfl, hb1⟩))
  go_wp2
  go_ret
  exact ⟨rfl, by simp [*]⟩

end Go.Proofs.Ytljnadoodbninaa.relStates

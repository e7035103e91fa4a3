/- Every Intersect is what the document's cuts say. The walk. -/
import Derived.Test.YtljnadoodbninaaWRefMeet
import Derived.Test.YtljnadoodbninaaWTold
namespace Go.Proofs.Ytljnadoodbninaa.relMeets
open Go.RowKit

theorem Meet_ex (p q r s : Int) : ∃ x y, Meet p q r s x y := by
  by_cases h : min q s < max p r
  · exact ⟨_, _, .inl ⟨h, rfl, rfl⟩⟩
  · exact ⟨_, _, .inr ⟨by omega, rfl, rfl⟩⟩
theorem Meet_one {p q r s x y u v : Int} (h : Meet p q r s x y) (k : Meet p q r s u v) : u = x ∧ v = y := by
  unfold Meet at h k; omega
theorem TI_the {p q r s x y : Int} (hm : Meet p q r s x y) {w w' : World} {e : Ending} (h : TI (Meet p q r s) w e w') : e = .returned (.agg #[.float .f64 (Vg.atn true x), .float .f64 (Vg.atn true y)]) ∧ Below w.heap.size w w' := by
  obtain ⟨u, v, he, hr, hb⟩ := h
  obtain ⟨rfl, rfl⟩ := Meet_one hm hr
  exact ⟨he, hb⟩
theorem TIU_the {p q r s x y : Int} (hm : Meet p q r s x y) {w w' : World} {e : Ending} (h : TIU (Meet p q r s) w e w') : e = .returned (.agg #[.int .u64 (Vg.atn true x : Nat), .int .u64 (Vg.atn true y : Nat)]) ∧ Below w.heap.size w w' := by
  obtain ⟨u, v, he, hr, hb⟩ := h
  obtain ⟨rfl, rfl⟩ := Meet_one hm hr
  exact ⟨he, hb⟩

set_option maxRecDepth 20000 in
set_option maxHeartbeats 8000000 in
theorem walk (a00 a01 a10 a11 : Int) (w00 : (Lit.int .u64 a00).wf = true) (w01 : (Lit.int .u64 a01).wf = true) (w10 : (Lit.int .u64 a10).wf = true) (w11 : (Lit.int .u64 a11).wf = true) (w : World) :
    Calls Try.prog 4 #[.agg #[.int .u64 a00, .int .u64 a01], .agg #[.int .u64 a10, .int .u64 a11]] w fun e w' => e = .returned (.bool true) ∧ Below w.heap.size w w' := by
  have b00 := u64_bd w00
  obtain ⟨X0, rfl⟩ := Int.eq_ofNat_of_zero_le b00.1
  have b01 := u64_bd w01
  obtain ⟨Y0, rfl⟩ := Int.eq_ofNat_of_zero_le b01.1
  have b10 := u64_bd w10
  obtain ⟨X1, rfl⟩ := Int.eq_ofNat_of_zero_le b10.1
  have b11 := u64_bd w11
  obtain ⟨Y1, rfl⟩ := Int.eq_ofNat_of_zero_le b11.1
  clear w00 w01 w10 w11
  obtain ⟨p, q, h0⟩ := Vg.Rd.ex X0 Y0 (by omega) (by omega)
  have H0 := hide h0
  obtain ⟨r, s, h1⟩ := Vg.Rd.ex X1 Y1 (by omega) (by omega)
  have H1 := hide h1
  have I := hide (show Vg.Iv p q ∧ Vg.Iv r s from ⟨h0.iv, h1.iv⟩)
  have N0 := fun w => in_any (X0 : Int) (Y0 : Int) w
  rw [Int.toNat_natCast, Int.toNat_natCast] at N0
  have N1 := fun w => in_any (X1 : Int) (Y1 : Int) w
  rw [Int.toNat_natCast, Int.toNat_natCast] at N1
  clear h0 h1 b00 b01 b10 b11
  have hst := sto
  obtain ⟨x, y, hm⟩ := Meet_ex p q r s
  have HM := hide hm
  have E1 := relKinds.eqU (a := Vg.atn true x) (b := Vg.atn true y) (c := Vg.atn true x) (d := Vg.atn true y) true (by simp)
  have hm1 : Try.prog.eqGuardType Try.prog.depth 24 = false := by kernel_rfl
  have C1 := fun w => (meet_any X0 Y0 X1 Y1 p q r s H0.out H1.out w).mono (fun _ _ h => TI_the HM.out h)
  have C2 := fun w => (rmeet_any X0 Y0 X1 Y1 p q r s H0.out H1.out w).mono (fun _ _ h => TIU_the HM.out h)
  have O := fun w => out_any (Vg.atn true x) (Vg.atn true y) w
  clear hm
  obtain ⟨XX, hXX⟩ : ∃ n, Vg.atn true x = n := ⟨_, rfl⟩
  obtain ⟨YY, hYY⟩ : ∃ n, Vg.atn true y = n := ⟨_, rfl⟩
  rw [hXX, hYY] at E1 C1 C2 O
  clear hXX hYY
  go_enter Try.func4, Try.ntmps4
  go_upto_region 1 with fail
  have m00 : ((w.alloc (.cells #[.int .u64 (X0 : Int), .int .u64 (Y0 : Int)] 24)).alloc (.cells #[.int .u64 (X1 : Int), .int .u64 (Y1 : Int)] 24)).cell? ⟨w.heap.size, 0, none⟩ = some (.int .u64 (X0 : Int)) := by simp [go_sem]
  have m01 : ((w.alloc (.cells #[.int .u64 (X0 : Int), .int .u64 (Y0 : Int)] 24)).alloc (.cells #[.int .u64 (X1 : Int), .int .u64 (Y1 : Int)] 24)).cell? ⟨w.heap.size, 1, none⟩ = some (.int .u64 (Y0 : Int)) := by simp [go_sem]
  have m10 : ((w.alloc (.cells #[.int .u64 (X0 : Int), .int .u64 (Y0 : Int)] 24)).alloc (.cells #[.int .u64 (X1 : Int), .int .u64 (Y1 : Int)] 24)).cell? ⟨w.heap.size + 1, 0, none⟩ = some (.int .u64 (X1 : Int)) := by simp [go_sem]
  have m11 : ((w.alloc (.cells #[.int .u64 (X0 : Int), .int .u64 (Y0 : Int)] 24)).alloc (.cells #[.int .u64 (X1 : Int), .int .u64 (Y1 : Int)] 24)).cell? ⟨w.heap.size + 1, 1, none⟩ = some (.int .u64 (Y1 : Int)) := by simp [go_sem]
  have z : w.heap.size + 1 < ((w.alloc (.cells #[.int .u64 (X0 : Int), .int .u64 (Y0 : Int)] 24)).alloc (.cells #[.int .u64 (X1 : Int), .int .u64 (Y1 : Int)] 24)).heap.size := by simp
  have g : Below w.heap.size w ((w.alloc (.cells #[.int .u64 (X0 : Int), .int .u64 (Y0 : Int)] 24)).alloc (.cells #[.int .u64 (X1 : Int), .int .u64 (Y1 : Int)] 24)) := b_two
  generalize hW : ((w.alloc (.cells #[.int .u64 (X0 : Int), .int .u64 (Y0 : Int)] 24)).alloc (.cells #[.int .u64 (X1 : Int), .int .u64 (Y1 : Int)] 24)) = W0 at *
  clear hW
  go_region_held3 (fun wx => wx.cell? ⟨w.heap.size, 0, none⟩ = some (.int .u64 X0) ∧ wx.cell? ⟨w.heap.size, 1, none⟩ = some (.int .u64 Y0) ∧ wx.cell? ⟨w.heap.size + 1, 0, none⟩ = some (.int .u64 X1) ∧ wx.cell? ⟨w.heap.size + 1, 1, none⟩ = some (.int .u64 Y1) ∧ w.heap.size + 1 < wx.heap.size ∧ Below w.heap.size w wx)
      (((try dsimp only); (repeat' apply And.intro) <;> first | assumption | (simp [*]; done) | exact Below.drew (by assumption) | exact keep_cell hb1 (by first | (dsimp only; omega) | (simp; omega)) (by simp [*]) | (have := hb1.size; omega) | (have := hb1.size; simp at this; omega) | exact bch (by simp [*]) hb1 | exact bch (Below.drew (by simp [*])) hb1))
      (first | (go_at_call 21; first | ((with_reducible refine (N0 _).mono ?_); rintro e w' ⟨rfl, hb1⟩) | ((with_reducible refine (N1 _).mono ?_); rintro e w' ⟨rfl, hb1⟩)) | (go_at_call 23; (with_reducible refine (C1 _).mono ?_); rintro e w' ⟨rfl, hb1⟩) | (go_at_call 24; (with_reducible refine (C2 _).mono ?_); rintro e w' ⟨rfl, hb1⟩) | (go_at_call 19; (with_reducible refine (O _).mono ?_); rintro e w' ⟨rfl, hb1⟩))
  go_wp2
  go_ret
  exact ⟨rfl, by simp [*]⟩

end Go.Proofs.Ytljnadoodbninaa.relMeets

/- Every Member is the reference's. The walk. -/
import Derived.Test.YtljnadoodbninaaWMember
import Derived.Test.YtljnadoodbninaaWTold
namespace Go.Proofs.Ytljnadoodbninaa.relMembers
open Go.RowKit

set_option maxRecDepth 20000 in
set_option maxHeartbeats 8000000 in
theorem walk (a0 a10 a11 : Int) (w0 : (Lit.int .u64 a0).wf = true) (w10 : (Lit.int .u64 a10).wf = true) (w11 : (Lit.int .u64 a11).wf = true) (w : World) :
    Calls Try.prog 5 #[.int .u64 a0, .agg #[.int .u64 a10, .int .u64 a11]] w fun e w' => e = .returned (.bool true) ∧ Below w.heap.size w w' := by
  have b0 := u64_bd w0
  have b1 := u64_bd w10
  have b2 := u64_bd w11
  obtain ⟨V, rfl⟩ := Int.eq_ofNat_of_zero_le b0.1
  obtain ⟨X0, rfl⟩ := Int.eq_ofNat_of_zero_le b1.1
  obtain ⟨Y0, rfl⟩ := Int.eq_ofNat_of_zero_le b2.1
  clear w0 w10 w11
  obtain ⟨p, q, h0⟩ := Vg.Rd.ex X0 Y0 (by omega) (by omega)
  obtain ⟨n, hn⟩ := bool_of (mem V p q)
  have G : Fact n _ := hn
  have N0 := fun w => in_any (X0 : Int) (Y0 : Int) w
  rw [Int.toNat_natCast, Int.toNat_natCast] at N0
  have F := fun w => frombits64 (V : Int) w
  rw [Int.toNat_natCast] at F
  have C1 := fun w => (member_any V X0 Y0 p q (by omega) h0 w).mono (fun _ _ h => TB.bool G h)
  have C2 := fun w => (rmember_any V X0 Y0 p q (by omega) h0 w).mono (fun _ _ h => TB.bool G h)
  clear hn h0 b0 b1 b2 G
  have hst := sto
  go_enter Try.func5, Try.ntmps5
  go_upto_region 1 with fail
  have m00 : (w.alloc (.cells #[.int .u64 (X0 : Int), .int .u64 (Y0 : Int)] 24)).cell? ⟨w.heap.size, 0, none⟩ = some (.int .u64 (X0 : Int)) := by simp [go_sem]
  have m01 : (w.alloc (.cells #[.int .u64 (X0 : Int), .int .u64 (Y0 : Int)] 24)).cell? ⟨w.heap.size, 1, none⟩ = some (.int .u64 (Y0 : Int)) := by simp [go_sem]
  have z : w.heap.size + 0 < (w.alloc (.cells #[.int .u64 (X0 : Int), .int .u64 (Y0 : Int)] 24)).heap.size := by simp
  have g : Below w.heap.size w (w.alloc (.cells #[.int .u64 (X0 : Int), .int .u64 (Y0 : Int)] 24)) := b_one
  generalize hW : (w.alloc (.cells #[.int .u64 (X0 : Int), .int .u64 (Y0 : Int)] 24)) = W0 at *
  clear hW
  go_region_held3 (fun wx => wx.cell? ⟨w.heap.size, 0, none⟩ = some (.int .u64 X0) ∧ wx.cell? ⟨w.heap.size, 1, none⟩ = some (.int .u64 Y0) ∧ w.heap.size + 0 < wx.heap.size ∧ Below w.heap.size w wx)
      (((try dsimp only); (repeat' apply And.intro) <;> first | assumption | (simp [*]; done) | exact Below.drew (by assumption) | exact keep_cell hb1 (by first | (dsimp only; omega) | (simp; omega)) (by simp [*]) | (have := hb1.size; omega) | (have := hb1.size; simp at this; omega) | exact bch (by simp [*]) hb1 | exact bch (Below.drew (by simp [*])) hb1))
      (first | (go_at_call 21; (with_reducible refine (N0 _).mono ?_); rintro e w' ⟨rfl, hb1⟩) | (go_at_call 25; (with_reducible refine (C1 _).mono ?_); rintro e w' ⟨rfl, hb1⟩) | (go_at_call 27; (with_reducible refine (C2 _).mono ?_); rintro e w' ⟨rfl, hb1⟩))
  go_wp2
  go_ret
  exact ⟨rfl, by simp [*]⟩

end Go.Proofs.Ytljnadoodbninaa.relMembers

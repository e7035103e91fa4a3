/- Every Put lays down the reference's bytes. The walk. -/
import Derived.Test.YtaecbapflpejmaaWPkForm
import Derived.Test.YtaecbapflpejmaaWBd
namespace Go.Proofs.Ytaecbapflpejmaa.packPuts
open Go.RowKit

set_option maxRecDepth 20000 in
set_option maxHeartbeats 8000000 in
theorem walk (a00 a01 : Int) (w00 : (Lit.int .u64 a00).wf = true) (w01 : (Lit.int .u64 a01).wf = true) (w : World) :
    Calls Try.prog 3 #[.agg #[.int .u64 a00, .int .u64 a01]] w fun e w' => e = .returned (.bool true) ∧ Below w.heap.size w w' := by
  have b0 := u64_bd w00
  have b1 := u64_bd w01
  obtain ⟨X0, rfl⟩ := Int.eq_ofNat_of_zero_le b0.1
  obtain ⟨Y0, rfl⟩ := Int.eq_ofNat_of_zero_le b1.1
  clear w00 w01
  obtain ⟨p, q, h0⟩ := Vg.Rd.ex X0 Y0 (by omega) (by omega)
  have N0 := fun w => in_any (X0 : Int) (Y0 : Int) w
  rw [Int.toNat_natCast, Int.toNat_natCast] at N0
  obtain ⟨xs, hxs⟩ : ∃ xs, nby 8 (Vg.atn true p) ++ nby 8 (Vg.atn true q) = xs := ⟨_, rfl⟩
  have C1 := fun w => pput_any X0 Y0 p q h0 w
  have C2 := fun w => rput_any X0 Y0 p q h0 w
  rw [hxs] at C1 C2
  have HL := hide (show xs.length ≤ 4096 by rw [← hxs]; simp [nby_len])
  clear hxs h0 b0 b1
  have hst := sto
  go_enter Try.func3, Try.ntmps3
  go_upto_region 1 with fail
  have m00 : (w.alloc (.cells #[.int .u64 (X0 : Int), .int .u64 (Y0 : Int)] 24)).cell? ⟨w.heap.size, 0, none⟩ = some (.int .u64 (X0 : Int)) := by simp [go_sem]
  have m01 : (w.alloc (.cells #[.int .u64 (X0 : Int), .int .u64 (Y0 : Int)] 24)).cell? ⟨w.heap.size, 1, none⟩ = some (.int .u64 (Y0 : Int)) := by simp [go_sem]
  have z : w.heap.size + 0 < (w.alloc (.cells #[.int .u64 (X0 : Int), .int .u64 (Y0 : Int)] 24)).heap.size := by simp
  have g : Below w.heap.size w (w.alloc (.cells #[.int .u64 (X0 : Int), .int .u64 (Y0 : Int)] 24)) := b_one
  generalize hW : (w.alloc (.cells #[.int .u64 (X0 : Int), .int .u64 (Y0 : Int)] 24)) = W0 at *
  clear hW
  go_region_held3 (fun wx => wx.cell? ⟨w.heap.size, 0, none⟩ = some (.int .u64 X0) ∧ wx.cell? ⟨w.heap.size, 1, none⟩ = some (.int .u64 Y0) ∧ w.heap.size + 0 < wx.heap.size ∧ Below w.heap.size w wx)
      (((try dsimp only); (repeat' apply And.intro) <;> first | assumption | (simp [*]; done) | exact Below.drew (by assumption) | exact keep_cell hb1 (by first | (dsimp only; omega) | (simp; omega)) (by simp [*]) | (have := hb1.size; omega) | (have := hb1.size; simp at this; omega) | exact bch (by simp [*]) hb1 | exact bch (Below.drew (by simp [*])) hb1))
      (first | (go_at_call 10; (with_reducible refine (N0 _).mono ?_); rintro e w' ⟨rfl, hb1⟩) | (go_at_call 9; (with_reducible refine (C1 _).mono ?_); rintro e w' ⟨v1, rfl, ho1, hb1⟩; have R1 := hide (Rb.own ho1); clear ho1) | (go_at_call 11; (with_reducible refine (C2 _).mono ?_); rintro e w' ⟨v2, rfl, ho2, hb1⟩; have R2 := hide (Rb.own ho2); have R1' := hide (R1.out.keep hb1); clear ho2) | (go_at_call 8; refine (same_any _ _ xs _ R1'.out R2.out HL.out).mono ?_; rintro e w' ⟨rfl, hb1⟩))
  go_wp2
  go_ret
  exact ⟨rfl, by simp [*]⟩

end Go.Proofs.Ytaecbapflpejmaa.packPuts

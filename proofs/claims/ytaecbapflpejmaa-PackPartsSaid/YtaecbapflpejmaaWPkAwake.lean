/- The law's awake: one form that the document tells. -/
import Derived.Test.YtaecbapflpejmaaWPkGetP
namespace Go.Proofs.Ytaecbapflpejmaa
open Go.RowKit
theorem one_ok : gOk [0, 0, 0, 0, 0, 0, 240, 63, 0, 0, 0, 0, 0, 0, 0, 64] = true := by decide +kernel
theorem one_lo : gLo [0, 0, 0, 0, 0, 0, 240, 63, 0, 0, 0, 0, 0, 0, 0, 64] = 4607182418800017408 := by decide +kernel
theorem one_hi : gHi [0, 0, 0, 0, 0, 0, 240, 63, 0, 0, 0, 0, 0, 0, 0, 64] = 4611686018427387904 := by decide +kernel
set_option maxRecDepth 20000 in
set_option maxHeartbeats 4000000 in
theorem one_read (w : World) : Rb (w.alloc (.cells #[.int .u8 0, .int .u8 0, .int .u8 0, .int .u8 0, .int .u8 0, .int .u8 0, .int .u8 240, .int .u8 63, .int .u8 0, .int .u8 0, .int .u8 0, .int .u8 0, .int .u8 0, .int .u8 0, .int .u8 0, .int .u8 64] 5)) (.slice (some ⟨w.heap.size, 0, none⟩) 16 16) [0, 0, 0, 0, 0, 0, 240, 63, 0, 0, 0, 0, 0, 0, 0, 64] := by
  refine .inr ⟨w.heap.size, 0, 16, rfl, by simp, fun i hi => ?_, by decide⟩
  have hi : i < 16 := hi
  obtain rfl | rfl | rfl | rfl | rfl | rfl | rfl | rfl | rfl | rfl | rfl | rfl | rfl | rfl | rfl | rfl : i = 0 ∨ i = 1 ∨ i = 2 ∨ i = 3 ∨ i = 4 ∨ i = 5 ∨ i = 6 ∨ i = 7 ∨ i = 8 ∨ i = 9 ∨ i = 10 ∨ i = 11 ∨ i = 12 ∨ i = 13 ∨ i = 14 ∨ i = 15 := by omega
  all_goals simp [go_sem, bv]
set_option maxRecDepth 20000 in
set_option maxHeartbeats 4000000 in
theorem awake_any (w : World) : Calls Try.prog 21 #[] w fun e w' => e = .returned (.bool true) ∧ Below w.heap.size w w' := by
  have hst := sto
  have hm : Try.prog.eqGuardType Try.prog.depth 30 = false := by kernel_rfl
  have e1 := eqI (a := 4607182418800017408) (b := 4611686018427387904) (c := 4607182418800017408) (d := 4611686018427387904) (x := true) (y := true) (by decide +kernel) (by decide +kernel)
  have C := fun w => (get_any _ _ _ (one_read w) (by decide)).mono (fun _ _ h => h.yes one_ok)
  rw [one_lo, one_hi] at C
  go_enter Try.func21, Try.ntmps21
  go_wp2_with fail
  refine (C _).mono ?_; rintro e w1 ⟨rfl, hb⟩
  have g := bch_one hb
  clear hb C
  go_wp2_with fail
  go_ret
  exact ⟨rfl, b_alloc g _⟩
end Go.Proofs.Ytaecbapflpejmaa

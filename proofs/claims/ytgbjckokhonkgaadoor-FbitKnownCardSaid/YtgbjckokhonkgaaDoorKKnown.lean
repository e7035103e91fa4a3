/- Chapter 1's examples: a closed sentence. The walk. -/
import Derived.Test.YtgbjckokhonkgaaDoorWJoinP
import Derived.Test.YtgbjckokhonkgaaDoorWOf
import Derived.Test.YtgbjckokhonkgaaDoorWIs
import Derived.Test.YtgbjckokhonkgaaDoorWOrder
import Derived.Test.YtgbjckokhonkgaaDoorWNext
import Derived.Test.YtgbjckokhonkgaaDoorWSteps
import Derived.Test.YtgbjckokhonkgaaDoorWBd
namespace Go.Proofs.YtgbjckokhonkgaaDoor.fbitKnown
open Go.RowKit

theorem kbits (b : Nat) (w : World) : (callFunc 21 #[.float .f64 b]).run Tryd.prog w = .ok (.value (.int .u64 b)) w := by kernel_rfl
theorem kfrom (z : Int) (w : World) : (callFunc 20 #[.int .u64 z]).run Tryd.prog w = .ok (.value (.float .f64 z.toNat)) w := by kernel_rfl
theorem kinf (w : World) : Calls Tryd.prog 4 #[.int .i64 1] w fun e w' => e = .returned (.float .f64 9218868437227405312) ∧ w = w' := by
  have hx := kfrom 9218868437227405312
  go_enter Tryd.func4, Tryd.ntmps4
  go_wp2
  go_ret
  exact ⟨rfl, rfl⟩
theorem kcopy (w : World) : Calls Tryd.prog 5 #[.float .f64 0, .float .f64 13830554455654793216] w fun e w' => e = .returned (.float .f64 9223372036854775808) ∧ w = w' := by
  have h1 := kbits 0
  have h2 := kbits 13830554455654793216
  have h3 := kfrom 9223372036854775808
  have e1 : bits .andNot .u64 0 9223372036854775808 = 0 := by decide +kernel
  have e2 : bits .and .u64 13830554455654793216 9223372036854775808 = 9223372036854775808 := by decide +kernel
  have e3 : bits .or .u64 0 9223372036854775808 = 9223372036854775808 := by decide +kernel
  go_enter Tryd.func5, Tryd.ntmps5
  go_wp2
  go_ret
  exact ⟨rfl, rfl⟩
theorem knan (w : World) : Calls Tryd.prog 11 #[] w fun e w' => e = .returned (.float .f64 9221120237041090561) ∧ w = w' := by
  have hx := kfrom 9221120237041090561
  go_enter Tryd.func11, Tryd.ntmps11
  go_wp2
  go_ret
  exact ⟨rfl, rfl⟩
theorem c3 (w : World) : Calls Tryd.prog 6 #[.float .f64 9223372036854775808] w fun e w' => e = .returned (.int .i64 4) ∧ Below w.heap.size w w' := by
  refine (class64 _ (by decide) _).mono ?_; rintro e w' ⟨c, rfl, h, hb⟩
  exact ⟨by have h : c = _ := h; rw [h]; rfl, hb⟩
theorem c4 (w : World) : Calls Tryd.prog 7 #[.float .f32 71362] w fun e w' => e = .returned (.int .i64 6) ∧ Below w.heap.size w w' := by
  refine (class32 _ (by decide) _).mono ?_; rintro e w' ⟨c, rfl, h, hb⟩
  exact ⟨by have h : c = _ := h; rw [h]; rfl, hb⟩
theorem c5 (w : World) : Calls Tryd.prog 6 #[.float .f64 4008604054463141788] w fun e w' => e = .returned (.int .i64 7) ∧ Below w.heap.size w w' := by
  refine (class64 _ (by decide) _).mono ?_; rintro e w' ⟨c, rfl, h, hb⟩
  exact ⟨by have h : c = _ := h; rw [h]; rfl, hb⟩
theorem c6 (w : World) : Calls Tryd.prog 8 #[.float .f64 9223372036854775808] w fun e w' => e = .returned (.float .f64 1) ∧ Below w.heap.size w w' := by
  refine (nextup64 _ (by decide) _).mono ?_; rintro e w' ⟨y, rfl, h, hb⟩
  exact ⟨by have h : y = _ := h; rw [h, show Vg.up true 9223372036854775808 = 1 by decide +kernel], hb⟩
theorem c7 (w : World) : Calls Tryd.prog 8 #[.float .f64 9218868437227405311] w fun e w' => e = .returned (.float .f64 9218868437227405312) ∧ Below w.heap.size w w' := by
  refine (nextup64 _ (by decide) _).mono ?_; rintro e w' ⟨y, rfl, h, hb⟩
  exact ⟨by have h : y = _ := h; rw [h, show Vg.up true 9218868437227405311 = 9218868437227405312 by decide +kernel], hb⟩
theorem c8 (w : World) : Calls Tryd.prog 8 #[.float .f64 18442240474082181120] w fun e w' => e = .returned (.float .f64 18442240474082181119) ∧ Below w.heap.size w w' := by
  refine (nextup64 _ (by decide) _).mono ?_; rintro e w' ⟨y, rfl, h, hb⟩
  exact ⟨by have h : y = _ := h; rw [h, show Vg.up true 18442240474082181120 = 18442240474082181119 by decide +kernel], hb⟩
theorem c9 (w : World) : Calls Tryd.prog 8 #[.float .f64 9223372036854775809] w fun e w' => e = .returned (.float .f64 0) ∧ Below w.heap.size w w' := by
  refine (nextup64 _ (by decide) _).mono ?_; rintro e w' ⟨y, rfl, h, hb⟩
  exact ⟨by have h : y = _ := h; rw [h, show Vg.up true 9223372036854775809 = 0 by decide +kernel], hb⟩
theorem c10 (w : World) : Calls Tryd.prog 9 #[.float .f64 0, .int .u64 0] w fun e w' => e = .returned (.bool true) ∧ Below w.heap.size w w' := by
  exact is_any64 0 0 ⟨by decide, by decide, by decide, .inr ⟨by decide, rfl⟩⟩ w
theorem c11 (w : World) : Calls Tryd.prog 10 #[.float .f64 9223372036854775808, .float .f64 0] w fun e w' => e = .returned (.int .i64 (-1)) ∧ Below w.heap.size w w' := by
  refine (order64 _ _ (by decide) (by decide) _).mono ?_; rintro e w' ⟨c, rfl, h, hb⟩
  exact ⟨by have h : c = or64 _ _ := h; rw [h, show or64 9223372036854775808 0 = -1 by decide +kernel], hb⟩
theorem c13 (w : World) : Calls Tryd.prog 10 #[.float .f64 9221120237041090561, .float .f64 9218868437227405312] w fun e w' => e = .returned (.int .i64 (1)) ∧ Below w.heap.size w w' := by
  refine (order64 _ _ (by decide) (by decide) _).mono ?_; rintro e w' ⟨c, rfl, h, hb⟩
  exact ⟨by have h : c = or64 _ _ := h; rw [h, show or64 9221120237041090561 9218868437227405312 = 1 by decide +kernel], hb⟩
theorem c16 (w : World) : Calls Tryd.prog 10 #[.float .f64 9221120237041090561, .float .f64 9221120237041090561] w fun e w' => e = .returned (.int .i64 (0)) ∧ Below w.heap.size w w' := by
  refine (order64 _ _ (by decide) (by decide) _).mono ?_; rintro e w' ⟨c, rfl, h, hb⟩
  exact ⟨by have h : c = or64 _ _ := h; rw [h, show or64 9221120237041090561 9221120237041090561 = 0 by decide +kernel], hb⟩
theorem c17 (w : World) : Calls Tryd.prog 12 #[.float .f64 4607182418800017408] w fun e w' => e = .returned (.tuple #[.int .i64 4607182418800017408, .bool true]) ∧ Below w.heap.size w w' := by
  refine (place64 _ (by decide) _).mono ?_; rintro e w' ⟨p, o, rfl, ⟨h1, h2⟩, hb⟩
  exact ⟨by rw [h1, h2]; rfl, hb⟩
theorem c18 (w : World) : Calls Tryd.prog 13 #[.int .i64 9218868437227405312] w fun e w' => e = .returned (.tuple #[.float .f64 9218868437227405312, .bool true]) ∧ Below w.heap.size w w' := by
  refine (at64 _ (by decide) _).mono ?_; rintro e w' ⟨z, o, rfl, h, hb⟩
  have h2 : z = 9218868437227405312 ∧ o = true := by
    rcases h with ⟨h0, h1, h2⟩ | ⟨h0, h1, h2⟩
    · exact ⟨by rw [h2]; rfl, h1⟩
    · exact absurd (by decide) h0
  rw [h2.1, h2.2]
  exact ⟨rfl, hb⟩
theorem c19 (w : World) : Calls Tryd.prog 13 #[.int .i64 9218868437227405313] w fun e w' => e = .returned (.tuple #[.float .f64 0, .bool false]) ∧ Below w.heap.size w w' := by
  refine (at64 _ (by decide) _).mono ?_; rintro e w' ⟨z, o, rfl, h, hb⟩
  have h2 : z = 0 ∧ o = false := by
    rcases h with ⟨h0, h1, h2⟩ | ⟨h0, h1, h2⟩
    · exact absurd h0 (by decide)
    · exact ⟨h2, h1⟩
  rw [h2.1, h2.2]
  exact ⟨rfl, hb⟩
theorem c21 (w : World) : Calls Tryd.prog 14 #[.float .f64 18442240474082181120, .float .f64 9218868437227405312] w fun e w' => e = .returned (.tuple #[.int .i64 0, .bool false]) ∧ Below w.heap.size w w' := by
  refine (steps64 _ _ (by decide) (by decide) _).mono ?_; rintro e w' ⟨d, o, rfl, h, hb⟩
  obtain ⟨rfl, rfl⟩ := h.same (show IsSt64 18442240474082181120 9218868437227405312 0 false from ⟨-9218868437227405312, true, 9218868437227405312, true, ⟨by decide, by decide⟩, ⟨by decide, by decide⟩, .inr (.inr ⟨rfl, by decide, rfl, rfl⟩)⟩)
  exact ⟨rfl, hb⟩
theorem c22 (w : World) : Calls Tryd.prog 15 #[.float .f32 4286578688, .float .f32 2139095040] w fun e w' => e = .returned (.tuple #[.int .i64 4278190080, .bool true]) ∧ Below w.heap.size w w' := by
  refine (steps32 _ _ (by decide) (by decide) _).mono ?_; rintro e w' ⟨d, o, rfl, h, hb⟩
  obtain ⟨rfl, rfl⟩ := h.same (show IsSt32 4286578688 2139095040 4278190080 true from ⟨-2139095040, true, 2139095040, true, ⟨by decide, by decide⟩, ⟨by decide, by decide⟩, .inr (.inl ⟨rfl, by decide, by decide, rfl⟩)⟩)
  exact ⟨rfl, hb⟩

theorem vr3 : Vg.VR true 3 6 (-1075) := by unfold Vg.VR; decide +kernel
theorem jn3 : Vg.Jn64 false 6 (-1075) ((3 : Nat) : Int) true := .inr (.inl ⟨by decide, rfl, 3, by decide, vr3, rfl⟩)
theorem jn53 : Vg.Jn64 false 9007199254740993 0 0 false := (Vg.LJ.start true 9007199254740993 0).no64 (by decide) (by decide) (.inl ⟨by decide, .inl (by decide)⟩)
theorem c23 (w : World) (hT : Tab w) : Calls Tryd.prog 16 #[.bool false, .int .u64 6, .int .i64 (-1075)] w fun e w' => e = .returned (.tuple #[.float .f64 3, .int .i64 0]) ∧ Below w.heap.size w w' := by
  refine (join64 false 6 (-1075) (by decide) (by decide) _ hT).mono ?_; rintro e w' ⟨b, o, k, rfl, h, hk, hb⟩
  obtain ⟨h1, rfl⟩ := h.same jn3
  obtain rfl : b = 3 := by omega
  rcases hk with ⟨-, rfl⟩ | ⟨hk, -⟩
  · exact ⟨rfl, hb⟩
  · exact absurd hk (by decide)
theorem c24 (w : World) (hT : Tab w) : Calls Tryd.prog 16 #[.bool false, .int .u64 9007199254740993, .int .i64 0] w fun e w' => e = .returned (.tuple #[.float .f64 0, .int .i64 1]) ∧ Below w.heap.size w w' := by
  refine (join64 false 9007199254740993 0 (by decide) (by decide) _ hT).mono ?_; rintro e w' ⟨b, o, k, rfl, h, hk, hb⟩
  obtain ⟨h1, rfl⟩ := h.same jn53
  obtain rfl : b = 0 := by omega
  rcases hk with ⟨hk, -⟩ | ⟨-, rfl⟩
  · exact absurd hk (by decide)
  · exact ⟨rfl, hb⟩

theorem wh1 : Vg.Wh true 14114281232179134464 (-9223372036854775808) true := .inl ⟨9223372036854775808, by decide, by rw [show Vg.rg true 14114281232179134464 = Vg.R63 true by decide]; exact Vg.vl_R63 true, by decide, by decide, by decide, rfl⟩
theorem wh2 : Vg.Wh true 4890909195324358656 0 false := Vg.wh_out true _ (.inr ⟨by decide, by decide⟩)
theorem io1 : Vg.IOf true (-9223372036854775808) 14114281232179134464 true := ⟨by decide +kernel, by decide +kernel⟩
theorem io2 : Vg.IOf true 9223372036854775807 4890909195324358656 false := ⟨by decide +kernel, by decide +kernel⟩
theorem io3 : Vg.IOf false 9007199791611905 1509949441 false := ⟨by decide +kernel, by decide +kernel⟩
theorem c26 (w : World) : Calls Tryd.prog 17 #[.float .f64 14114281232179134464] w fun e w' => e = .returned (.tuple #[.int .i64 (-9223372036854775808), .bool true]) ∧ Below w.heap.size w w' := by
  refine (whole64 _ (by decide) _).mono ?_; rintro e w' ⟨d, o, rfl, h, hb⟩
  obtain ⟨rfl, rfl⟩ := h.same wh1
  exact ⟨rfl, hb⟩
theorem c27 (w : World) : Calls Tryd.prog 17 #[.float .f64 4890909195324358656] w fun e w' => e = .returned (.tuple #[.int .i64 0, .bool false]) ∧ Below w.heap.size w w' := by
  refine (whole64 _ (by decide) _).mono ?_; rintro e w' ⟨d, o, rfl, h, hb⟩
  obtain ⟨rfl, rfl⟩ := h.same wh2
  exact ⟨rfl, hb⟩
theorem c28 (w : World) : Calls Tryd.prog 18 #[.int .i64 (-9223372036854775808)] w fun e w' => e = .returned (.tuple #[.float .f64 14114281232179134464, .bool true]) ∧ Below w.heap.size w w' := by
  refine (offl64 _ (by decide) (by decide) _).mono ?_; rintro e w' ⟨z, o, rfl, h, hb⟩
  obtain ⟨rfl, rfl⟩ := h.same io1
  exact ⟨rfl, hb⟩
theorem c29 (w : World) : Calls Tryd.prog 18 #[.int .i64 9223372036854775807] w fun e w' => e = .returned (.tuple #[.float .f64 4890909195324358656, .bool false]) ∧ Below w.heap.size w w' := by
  refine (offl64 _ (by decide) (by decide) _).mono ?_; rintro e w' ⟨z, o, rfl, h, hb⟩
  obtain ⟨rfl, rfl⟩ := h.same io2
  exact ⟨rfl, hb⟩
theorem c30 (w : World) : Calls Tryd.prog 19 #[.int .i64 9007199791611905] w fun e w' => e = .returned (.tuple #[.float .f32 1509949441, .bool false]) ∧ Below w.heap.size w w' := by
  refine (offl32 _ (by decide) (by decide) _).mono ?_; rintro e w' ⟨z, o, rfl, h, hb⟩
  obtain ⟨rfl, rfl⟩ := h.same io3
  exact ⟨rfl, hb⟩

set_option maxRecDepth 20000 in
set_option maxHeartbeats 8000000 in
theorem walk (w : World) (hT : Tab w) : Calls Tryd.prog 3 #[] w fun e w' => e = .returned (.bool true) ∧ Below w.heap.size w w' := by
  have q0 : (FloatKind.f64.format.order 1 1 != some Ordering.eq) = false := by decide +kernel
  have q1 : (FloatKind.f64.format.order 9218868437227405312 9218868437227405312 != some Ordering.eq) = false := by decide +kernel
  have q2 : (FloatKind.f64.format.order 18442240474082181119 18442240474082181119 != some Ordering.eq) = false := by decide +kernel
  have q3 : (FloatKind.f64.format.order 3 3 != some Ordering.eq) = false := by decide +kernel
  have q4 : (FloatKind.f64.format.order 14114281232179134464 14114281232179134464 != some Ordering.eq) = false := by decide +kernel
  have q5 : (FloatKind.f64.format.order 4890909195324358656 4890909195324358656 != some Ordering.eq) = false := by decide +kernel
  have q9 : (FloatKind.f32.format.order 1509949441 1509949441 == some Ordering.eq) = true := by decide +kernel
  have g1 := run_neg_float .f64 9218868437227405312 18442240474082181120 (by decide +kernel)
  have g2 := run_neg_float .f64 1 9223372036854775809 (by decide +kernel)
  have v1 := fun (w : World) => run_convert_float_float (P := Tryd.prog) w 22 27 .f64 .f32 18442240474082181120 4286578688 (by kernel_rfl) (by kernel_rfl) (by decide +kernel)
  have v2 := fun (w : World) => run_convert_float_float (P := Tryd.prog) w 22 27 .f64 .f32 9218868437227405312 2139095040 (by kernel_rfl) (by kernel_rfl) (by decide +kernel)
  have m1 := fun t (w : World) => run_float_arith (P := Tryd.prog) w .mul t .f64 4613937818241073152 1 3 (by decide +kernel)
  have hb : Below w.heap.size w w := Below.refl _ _
  go_enter Tryd.func3, Tryd.ntmps3
  go_wp2_with fail
  refine (kinf _).mono ?_; rintro e w' ⟨rfl, rfl⟩
  go_wp2_with fail
  refine (kcopy _).mono ?_; rintro e w' ⟨rfl, rfl⟩
  go_wp2_with fail
  refine (c3 _).mono ?_; rintro e wn ⟨rfl, hb2⟩; replace hb := bch hb hb2; clear hb2
  go_wp2_with fail
  refine (c4 _).mono ?_; rintro e wn ⟨rfl, hb2⟩; replace hb := bch hb hb2; clear hb2
  go_wp2_with fail
  refine (c5 _).mono ?_; rintro e wn ⟨rfl, hb2⟩; replace hb := bch hb hb2; clear hb2
  go_wp2_with fail
  refine (c6 _).mono ?_; rintro e wn ⟨rfl, hb2⟩; replace hb := bch hb hb2; clear hb2
  go_wp2_with fail
  refine (c7 _).mono ?_; rintro e wn ⟨rfl, hb2⟩; replace hb := bch hb hb2; clear hb2
  go_wp2_with fail
  refine (c8 _).mono ?_; rintro e wn ⟨rfl, hb2⟩; replace hb := bch hb hb2; clear hb2
  go_wp2_with fail
  refine (c9 _).mono ?_; rintro e wn ⟨rfl, hb2⟩; replace hb := bch hb hb2; clear hb2
  go_wp2_with fail
  refine (c10 _).mono ?_; rintro e wn ⟨rfl, hb2⟩; replace hb := bch hb hb2; clear hb2
  go_wp2_with fail
  refine (c11 _).mono ?_; rintro e wn ⟨rfl, hb2⟩; replace hb := bch hb hb2; clear hb2
  go_wp2_with fail
  refine (knan _).mono ?_; rintro e w' ⟨rfl, rfl⟩
  go_wp2_with fail
  refine (c13 _).mono ?_; rintro e wn ⟨rfl, hb2⟩; replace hb := bch hb hb2; clear hb2
  go_wp2_with fail
  refine (knan _).mono ?_; rintro e w' ⟨rfl, rfl⟩
  go_wp2_with fail
  refine (knan _).mono ?_; rintro e w' ⟨rfl, rfl⟩
  go_wp2_with fail
  refine (c16 _).mono ?_; rintro e wn ⟨rfl, hb2⟩; replace hb := bch hb hb2; clear hb2
  go_wp2_with fail
  refine (c17 _).mono ?_; rintro e wn ⟨rfl, hb2⟩; replace hb := bch hb hb2; clear hb2
  go_wp2_with fail
  refine (c18 _).mono ?_; rintro e wn ⟨rfl, hb2⟩; replace hb := bch hb hb2; clear hb2
  go_wp2_with fail
  refine (c19 _).mono ?_; rintro e wn ⟨rfl, hb2⟩; replace hb := bch hb hb2; clear hb2
  go_wp2_with fail
  refine (c10 _).mono ?_; rintro e wn ⟨rfl, hb2⟩; replace hb := bch hb hb2; clear hb2
  go_wp2_with fail
  refine (c21 _).mono ?_; rintro e wn ⟨rfl, hb2⟩; replace hb := bch hb hb2; clear hb2
  go_wp2_with fail
  refine (c22 _).mono ?_; rintro e wn ⟨rfl, hb2⟩; replace hb := bch hb hb2; clear hb2
  go_wp2_with fail
  refine (c23 _ (hT.below hb)).mono ?_; rintro e wn ⟨rfl, hb2⟩; replace hb := bch hb hb2; clear hb2
  go_wp2_with fail
  refine (c24 _ (hT.below hb)).mono ?_; rintro e wn ⟨rfl, hb2⟩; replace hb := bch hb hb2; clear hb2
  go_wp2_with fail
  refine (c10 _).mono ?_; rintro e wn ⟨rfl, hb2⟩; replace hb := bch hb hb2; clear hb2
  go_wp2_with fail
  refine (c26 _).mono ?_; rintro e wn ⟨rfl, hb2⟩; replace hb := bch hb hb2; clear hb2
  go_wp2_with fail
  refine (c27 _).mono ?_; rintro e wn ⟨rfl, hb2⟩; replace hb := bch hb hb2; clear hb2
  go_wp2_with fail
  refine (c28 _).mono ?_; rintro e wn ⟨rfl, hb2⟩; replace hb := bch hb hb2; clear hb2
  go_wp2_with fail
  refine (c29 _).mono ?_; rintro e wn ⟨rfl, hb2⟩; replace hb := bch hb hb2; clear hb2
  go_wp2_with fail
  refine (c30 _).mono ?_; rintro e wn ⟨rfl, hb2⟩; replace hb := bch hb hb2; clear hb2
  go_wp2
  go_ret
  exact ⟨rfl, hb⟩

end Go.Proofs.YtgbjckokhonkgaaDoor.fbitKnown

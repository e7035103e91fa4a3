/- Contracts of the smallest functions: what a format's kind is, a number's pattern, a pattern's number. -/
import Derived.Test.YtgbjckokhonkgaaDoorWTool
namespace Go.Proofs.YtgbjckokhonkgaaDoor
open Go.RowKit

theorem bits64 (b : Nat) (w : World) : (callFunc 21 #[.float .f64 b]).run Tryd.prog w = .ok (.value (.int .u64 b)) w := by kernel_rfl
theorem bits32 (b : Nat) (w : World) : (callFunc 35 #[.float .f32 b]).run Tryd.prog w = .ok (.value (.int .u32 b)) w := by kernel_rfl
theorem frombits64 (z : Int) (w : World) : (callFunc 20 #[.int .u64 z]).run Tryd.prog w = .ok (.value (.float .f64 z.toNat)) w := by kernel_rfl
theorem frombits32 (z : Int) (w : World) : (callFunc 38 #[.int .u32 z]).run Tryd.prog w = .ok (.value (.float .f32 z.toNat)) w := by kernel_rfl

theorem two24_64 : floatOfInt .f64 16777216 = 4715268809856909312 := by decide +kernel
theorem sum24_64 : floatBits .add .f64 4715268809856909312 4607182418800017408 = some 4715268810125344768 := by decide +kernel
theorem eq24_64 : (FloatKind.f64.format.order 4715268810125344768 4715268809856909312 == some .eq) = !true := by decide +kernel

theorem two24_32 : floatOfInt .f32 16777216 = 1266679808 := by decide +kernel
theorem sum24_32 : floatBits .add .f32 1266679808 1065353216 = some 1266679808 := by decide +kernel
theorem eq24_32 : (FloatKind.f32.format.order 1266679808 1266679808 == some .eq) = !false := by decide +kernel

theorem conv64 (b : Nat) (w : World) : (convert 22 22 (.float .f64 b)).run Tryd.prog w = .ok (.float .f64 b) w :=
  run_convert_float_float (P := Tryd.prog) w _ _ .f64 .f64 b b (by rw [Tryd.underlying22]; rfl) Tryd.underlying22 rfl

theorem conv32 (b : Nat) (w : World) : (convert 27 27 (.float .f32 b)).run Tryd.prog w = .ok (.float .f32 b) w :=
  run_convert_float_float (P := Tryd.prog) w _ _ .f32 .f32 b b (by rw [Tryd.underlying27]; rfl) Tryd.underlying27 rfl

theorem convTo64 (b : Nat) (w : World) : (convert 22 22 (.float .f64 b)).run Tryd.prog w = .ok (.float .f64 b) w := conv64 b w
theorem convOf64 (b : Nat) (w : World) : (convert 22 22 (.float .f64 b)).run Tryd.prog w = .ok (.float .f64 b) w := conv64 b w

theorem convTo32 (b : Nat) (w : World) : (convert 27 27 (.float .f32 b)).run Tryd.prog w = .ok (.float .f32 b) w := conv32 b w
theorem convOf32 (b : Nat) (w : World) : (convert 27 27 (.float .f32 b)).run Tryd.prog w = .ok (.float .f32 b) w := conv32 b w

set_option maxHeartbeats 400000 in
theorem small64 (w : World) : Calls Tryd.prog 34 #[] w fun e w' => e = .returned (.bool !true) ∧ w = w' := by
  have h1 := two24_64
  have h2 := fun t (w : World) => run_float_arith (P := Tryd.prog) w .add t .f64 _ _ _ sum24_64
  have h3 := eq24_64
  go_enter Tryd.func34, Tryd.ntmps34
  go_wp2
  go_ret
  exact ⟨rfl, rfl⟩

set_option maxHeartbeats 400000 in
theorem format64 (w : World) : Calls Tryd.prog 22 #[] w fun e w' => e = .returned (.agg #[.int .i64 52, .int .i64 (-1074), .int .i64 971, .int .u64 9218868437227405312, .int .u64 9223372036854775808]) ∧ Below w.heap.size w w' := by
  go_enter Tryd.func22, Tryd.ntmps22
  go_wp2_with (go_at_call 34; refine (small64 _).mono ?_; rintro e w' ⟨rfl, rfl⟩)
  refine bodyPost_ret (v := .agg #[.int .i64 52, .int .i64 (-1074), .int .i64 971, .int .u64 9218868437227405312, .int .u64 9223372036854775808]) (by simp [results, Tryd.results22, go_sem]) rfl ⟨rfl, ?_⟩
  exact (Below.refl _ _).alloc (Nat.le_refl _) _

set_option maxHeartbeats 400000 in
theorem pattern64 (b : Nat) (_hb : b ≤ 18446744073709551615) (w : World) : Calls Tryd.prog 23 #[.float .f64 b] w fun e w' => e = .returned (.int .u64 b) ∧ w = w' := by
  have hc := convOf64 b
  have hx := bits64 b
  go_enter Tryd.func23, Tryd.ntmps23
  go_wp2_with (go_at_call 34; refine (small64 _).mono ?_; rintro e w' ⟨rfl, rfl⟩)
  go_ret
  exact ⟨rfl, rfl⟩

set_option maxHeartbeats 400000 in
theorem number64 (z : Int) (_h0 : 0 ≤ z) (_h1 : z ≤ 18446744073709551615) (w : World) : Calls Tryd.prog 29 #[.int .u64 z] w fun e w' => e = .returned (.float .f64 z.toNat) ∧ w = w' := by
  have hc := convTo64 z.toNat
  have hx := frombits64 z
  go_enter Tryd.func29, Tryd.ntmps29
  go_wp2_with (go_at_call 34; refine (small64 _).mono ?_; rintro e w' ⟨rfl, rfl⟩)
  go_ret
  exact ⟨rfl, rfl⟩

set_option maxHeartbeats 400000 in
theorem small32 (w : World) : Calls Tryd.prog 36 #[] w fun e w' => e = .returned (.bool !false) ∧ w = w' := by
  have h1 := two24_32
  have h2 := fun t (w : World) => run_float_arith (P := Tryd.prog) w .add t .f32 _ _ _ sum24_32
  have h3 := eq24_32
  go_enter Tryd.func36, Tryd.ntmps36
  go_wp2
  go_ret
  exact ⟨rfl, rfl⟩

set_option maxHeartbeats 400000 in
theorem format32 (w : World) : Calls Tryd.prog 24 #[] w fun e w' => e = .returned (.agg #[.int .i64 23, .int .i64 (-149), .int .i64 104, .int .u64 2139095040, .int .u64 2147483648]) ∧ Below w.heap.size w w' := by
  go_enter Tryd.func24, Tryd.ntmps24
  go_wp2_with (go_at_call 36; refine (small32 _).mono ?_; rintro e w' ⟨rfl, rfl⟩)
  refine bodyPost_ret (v := .agg #[.int .i64 23, .int .i64 (-149), .int .i64 104, .int .u64 2139095040, .int .u64 2147483648]) (by simp [results, Tryd.results24, go_sem]) rfl ⟨rfl, ?_⟩
  exact (Below.refl _ _).alloc (Nat.le_refl _) _

set_option maxHeartbeats 400000 in
theorem pattern32 (b : Nat) (_hb : b ≤ 4294967295) (w : World) : Calls Tryd.prog 25 #[.float .f32 b] w fun e w' => e = .returned (.int .u64 b) ∧ w = w' := by
  have hc := convOf32 b
  have hx := bits32 b
  go_enter Tryd.func25, Tryd.ntmps25
  go_wp2_with (go_at_call 36; refine (small32 _).mono ?_; rintro e w' ⟨rfl, rfl⟩)
  go_ret
  exact ⟨rfl, rfl⟩

end Go.Proofs.YtgbjckokhonkgaaDoor

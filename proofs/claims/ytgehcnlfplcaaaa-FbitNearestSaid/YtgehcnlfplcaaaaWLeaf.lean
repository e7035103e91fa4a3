/- Contracts of the smallest functions: what a format's kind is, a number's pattern, a pattern's number. -/
import Derived.Test.YtgehcnlfplcaaaaWTool
namespace Go.Proofs.Ytgehcnlfplcaaaa
open Go.RowKit

theorem bits64 (b : Nat) (w : World) : (callFunc 99 #[.float .f64 b]).run Try.prog w = .ok (.value (.int .u64 b)) w := by kernel_rfl
theorem bits32 (b : Nat) (w : World) : (callFunc 101 #[.float .f32 b]).run Try.prog w = .ok (.value (.int .u32 b)) w := by kernel_rfl
theorem frombits64 (z : Int) (w : World) : (callFunc 100 #[.int .u64 z]).run Try.prog w = .ok (.value (.float .f64 z.toNat)) w := by kernel_rfl
theorem frombits32 (z : Int) (w : World) : (callFunc 102 #[.int .u32 z]).run Try.prog w = .ok (.value (.float .f32 z.toNat)) w := by kernel_rfl

theorem two24_64 : floatOfInt .f64 16777216 = 4715268809856909312 := by decide +kernel
theorem sum24_64 : floatBits .add .f64 4715268809856909312 4607182418800017408 = some 4715268810125344768 := by decide +kernel
theorem eq24_64 : (FloatKind.f64.format.order 4715268810125344768 4715268809856909312 == some .eq) = !true := by decide +kernel

theorem two24_32 : floatOfInt .f32 16777216 = 1266679808 := by decide +kernel
theorem sum24_32 : floatBits .add .f32 1266679808 1065353216 = some 1266679808 := by decide +kernel
theorem eq24_32 : (FloatKind.f32.format.order 1266679808 1266679808 == some .eq) = !false := by decide +kernel

theorem conv64 (b : Nat) (w : World) : (convert 26 26 (.float .f64 b)).run Try.prog w = .ok (.float .f64 b) w :=
  run_convert_float_float (P := Try.prog) w _ _ .f64 .f64 b b (by rw [Try.underlying26]; rfl) Try.underlying26 rfl

theorem convFar (b : Nat) (w : World) : (convert 29 29 (.float .f64 b)).run Try.prog w = .ok (.float .f64 b) w :=
  run_convert_float_float (P := Try.prog) w _ _ .f64 .f64 b b (by rw [Try.underlying29]; rfl) Try.underlying29 rfl

theorem conv32 (b : Nat) (w : World) : (convert 32 32 (.float .f32 b)).run Try.prog w = .ok (.float .f32 b) w :=
  run_convert_float_float (P := Try.prog) w _ _ .f32 .f32 b b (by rw [Try.underlying32]; rfl) Try.underlying32 rfl

theorem convNear (b : Nat) (w : World) : (convert 35 35 (.float .f32 b)).run Try.prog w = .ok (.float .f32 b) w :=
  run_convert_float_float (P := Try.prog) w _ _ .f32 .f32 b b (by rw [Try.underlying35]; rfl) Try.underlying35 rfl

theorem convTo64 (b : Nat) (w : World) : (convert 26 26 (.float .f64 b)).run Try.prog w = .ok (.float .f64 b) w := conv64 b w
theorem convOf64 (b : Nat) (w : World) : (convert 26 26 (.float .f64 b)).run Try.prog w = .ok (.float .f64 b) w := conv64 b w

theorem convToFar (b : Nat) (w : World) : (convert 26 29 (.float .f64 b)).run Try.prog w = .ok (.float .f64 b) w :=
  run_convert_float_float (P := Try.prog) w _ _ .f64 .f64 b b (by rw [Try.underlying26]; rfl) Try.underlying29 rfl
theorem convOfFar (b : Nat) (w : World) : (convert 29 26 (.float .f64 b)).run Try.prog w = .ok (.float .f64 b) w :=
  run_convert_float_float (P := Try.prog) w _ _ .f64 .f64 b b (by rw [Try.underlying29]; rfl) Try.underlying26 rfl

theorem convTo32 (b : Nat) (w : World) : (convert 32 32 (.float .f32 b)).run Try.prog w = .ok (.float .f32 b) w := conv32 b w
theorem convOf32 (b : Nat) (w : World) : (convert 32 32 (.float .f32 b)).run Try.prog w = .ok (.float .f32 b) w := conv32 b w

theorem convToNear (b : Nat) (w : World) : (convert 32 35 (.float .f32 b)).run Try.prog w = .ok (.float .f32 b) w :=
  run_convert_float_float (P := Try.prog) w _ _ .f32 .f32 b b (by rw [Try.underlying32]; rfl) Try.underlying35 rfl
theorem convOfNear (b : Nat) (w : World) : (convert 35 32 (.float .f32 b)).run Try.prog w = .ok (.float .f32 b) w :=
  run_convert_float_float (P := Try.prog) w _ _ .f32 .f32 b b (by rw [Try.underlying35]; rfl) Try.underlying32 rfl

set_option maxHeartbeats 400000 in
theorem small64 (w : World) : Calls Try.prog 132 #[] w fun e w' => e = .returned (.bool !true) ∧ w = w' := by
  have h1 := two24_64
  have h2 := fun t (w : World) => run_float_arith (P := Try.prog) w .add t .f64 _ _ _ sum24_64
  have h3 := eq24_64
  go_enter Try.func132, Try.ntmps132
  go_wp2
  go_ret
  exact ⟨rfl, rfl⟩

set_option maxHeartbeats 400000 in
theorem format64 (w : World) : Calls Try.prog 105 #[] w fun e w' => e = .returned (.agg #[.int .i64 52, .int .i64 (-1074), .int .i64 971, .int .u64 9218868437227405312, .int .u64 9223372036854775808]) ∧ Below w.heap.size w w' := by
  go_enter Try.func105, Try.ntmps105
  go_wp2_with (go_at_call 132; refine (small64 _).mono ?_; rintro e w' ⟨rfl, rfl⟩)
  refine bodyPost_ret (v := .agg #[.int .i64 52, .int .i64 (-1074), .int .i64 971, .int .u64 9218868437227405312, .int .u64 9223372036854775808]) (by simp [results, Try.results105, go_sem]) rfl ⟨rfl, ?_⟩
  exact (Below.refl _ _).alloc (Nat.le_refl _) _

set_option maxHeartbeats 400000 in
theorem pattern64 (b : Nat) (_hb : b ≤ 18446744073709551615) (w : World) : Calls Try.prog 115 #[.float .f64 b] w fun e w' => e = .returned (.int .u64 b) ∧ w = w' := by
  have hc := convOf64 b
  have hx := bits64 b
  go_enter Try.func115, Try.ntmps115
  go_wp2_with (go_at_call 132; refine (small64 _).mono ?_; rintro e w' ⟨rfl, rfl⟩)
  go_ret
  exact ⟨rfl, rfl⟩

set_option maxHeartbeats 400000 in
theorem number64 (z : Int) (_h0 : 0 ≤ z) (_h1 : z ≤ 18446744073709551615) (w : World) : Calls Try.prog 106 #[.int .u64 z] w fun e w' => e = .returned (.float .f64 z.toNat) ∧ w = w' := by
  have hc := convTo64 z.toNat
  have hx := frombits64 z
  go_enter Try.func106, Try.ntmps106
  go_wp2_with (go_at_call 132; refine (small64 _).mono ?_; rintro e w' ⟨rfl, rfl⟩)
  go_ret
  exact ⟨rfl, rfl⟩

set_option maxHeartbeats 400000 in
theorem smallFar (w : World) : Calls Try.prog 133 #[] w fun e w' => e = .returned (.bool !true) ∧ w = w' := by
  have h1 := two24_64
  have h2 := fun t (w : World) => run_float_arith (P := Try.prog) w .add t .f64 _ _ _ sum24_64
  have h3 := eq24_64
  go_enter Try.func133, Try.ntmps133
  go_wp2
  go_ret
  exact ⟨rfl, rfl⟩

set_option maxHeartbeats 400000 in
theorem formatFar (w : World) : Calls Try.prog 107 #[] w fun e w' => e = .returned (.agg #[.int .i64 52, .int .i64 (-1074), .int .i64 971, .int .u64 9218868437227405312, .int .u64 9223372036854775808]) ∧ Below w.heap.size w w' := by
  go_enter Try.func107, Try.ntmps107
  go_wp2_with (go_at_call 133; refine (smallFar _).mono ?_; rintro e w' ⟨rfl, rfl⟩)
  refine bodyPost_ret (v := .agg #[.int .i64 52, .int .i64 (-1074), .int .i64 971, .int .u64 9218868437227405312, .int .u64 9223372036854775808]) (by simp [results, Try.results107, go_sem]) rfl ⟨rfl, ?_⟩
  exact (Below.refl _ _).alloc (Nat.le_refl _) _

set_option maxHeartbeats 400000 in
theorem patternFar (b : Nat) (_hb : b ≤ 18446744073709551615) (w : World) : Calls Try.prog 116 #[.float .f64 b] w fun e w' => e = .returned (.int .u64 b) ∧ w = w' := by
  have hc := convOfFar b
  have hx := bits64 b
  go_enter Try.func116, Try.ntmps116
  go_wp2_with (go_at_call 133; refine (smallFar _).mono ?_; rintro e w' ⟨rfl, rfl⟩)
  go_ret
  exact ⟨rfl, rfl⟩

set_option maxHeartbeats 400000 in
theorem numberFar (z : Int) (_h0 : 0 ≤ z) (_h1 : z ≤ 18446744073709551615) (w : World) : Calls Try.prog 108 #[.int .u64 z] w fun e w' => e = .returned (.float .f64 z.toNat) ∧ w = w' := by
  have hc := convToFar z.toNat
  have hx := frombits64 z
  go_enter Try.func108, Try.ntmps108
  go_wp2_with (go_at_call 133; refine (smallFar _).mono ?_; rintro e w' ⟨rfl, rfl⟩)
  go_ret
  exact ⟨rfl, rfl⟩

set_option maxHeartbeats 400000 in
theorem small32 (w : World) : Calls Try.prog 134 #[] w fun e w' => e = .returned (.bool !false) ∧ w = w' := by
  have h1 := two24_32
  have h2 := fun t (w : World) => run_float_arith (P := Try.prog) w .add t .f32 _ _ _ sum24_32
  have h3 := eq24_32
  go_enter Try.func134, Try.ntmps134
  go_wp2
  go_ret
  exact ⟨rfl, rfl⟩

set_option maxHeartbeats 400000 in
theorem format32 (w : World) : Calls Try.prog 111 #[] w fun e w' => e = .returned (.agg #[.int .i64 23, .int .i64 (-149), .int .i64 104, .int .u64 2139095040, .int .u64 2147483648]) ∧ Below w.heap.size w w' := by
  go_enter Try.func111, Try.ntmps111
  go_wp2_with (go_at_call 134; refine (small32 _).mono ?_; rintro e w' ⟨rfl, rfl⟩)
  refine bodyPost_ret (v := .agg #[.int .i64 23, .int .i64 (-149), .int .i64 104, .int .u64 2139095040, .int .u64 2147483648]) (by simp [results, Try.results111, go_sem]) rfl ⟨rfl, ?_⟩
  exact (Below.refl _ _).alloc (Nat.le_refl _) _

set_option maxHeartbeats 400000 in
theorem pattern32 (b : Nat) (_hb : b ≤ 4294967295) (w : World) : Calls Try.prog 117 #[.float .f32 b] w fun e w' => e = .returned (.int .u64 b) ∧ w = w' := by
  have hc := convOf32 b
  have hx := bits32 b
  go_enter Try.func117, Try.ntmps117
  go_wp2_with (go_at_call 134; refine (small32 _).mono ?_; rintro e w' ⟨rfl, rfl⟩)
  go_ret
  exact ⟨rfl, rfl⟩

set_option maxHeartbeats 400000 in
theorem number32 (z : Int) (_h0 : 0 ≤ z) (_h1 : z ≤ 4294967295) (w : World) : Calls Try.prog 112 #[.int .u64 z] w fun e w' => e = .returned (.float .f32 z.toNat) ∧ w = w' := by
  have hc := convTo32 z.toNat
  have hx := frombits32 z
  go_enter Try.func112, Try.ntmps112
  go_wp2_with (go_at_call 134; refine (small32 _).mono ?_; rintro e w' ⟨rfl, rfl⟩)
  go_ret
  exact ⟨rfl, rfl⟩

set_option maxHeartbeats 400000 in
theorem smallNear (w : World) : Calls Try.prog 135 #[] w fun e w' => e = .returned (.bool !false) ∧ w = w' := by
  have h1 := two24_32
  have h2 := fun t (w : World) => run_float_arith (P := Try.prog) w .add t .f32 _ _ _ sum24_32
  have h3 := eq24_32
  go_enter Try.func135, Try.ntmps135
  go_wp2
  go_ret
  exact ⟨rfl, rfl⟩

set_option maxHeartbeats 400000 in
theorem formatNear (w : World) : Calls Try.prog 113 #[] w fun e w' => e = .returned (.agg #[.int .i64 23, .int .i64 (-149), .int .i64 104, .int .u64 2139095040, .int .u64 2147483648]) ∧ Below w.heap.size w w' := by
  go_enter Try.func113, Try.ntmps113
  go_wp2_with (go_at_call 135; refine (smallNear _).mono ?_; rintro e w' ⟨rfl, rfl⟩)
  refine bodyPost_ret (v := .agg #[.int .i64 23, .int .i64 (-149), .int .i64 104, .int .u64 2139095040, .int .u64 2147483648]) (by simp [results, Try.results113, go_sem]) rfl ⟨rfl, ?_⟩
  exact (Below.refl _ _).alloc (Nat.le_refl _) _

set_option maxHeartbeats 400000 in
theorem patternNear (b : Nat) (_hb : b ≤ 4294967295) (w : World) : Calls Try.prog 118 #[.float .f32 b] w fun e w' => e = .returned (.int .u64 b) ∧ w = w' := by
  have hc := convOfNear b
  have hx := bits32 b
  go_enter Try.func118, Try.ntmps118
  go_wp2_with (go_at_call 135; refine (smallNear _).mono ?_; rintro e w' ⟨rfl, rfl⟩)
  go_ret
  exact ⟨rfl, rfl⟩

set_option maxHeartbeats 400000 in
theorem numberNear (z : Int) (_h0 : 0 ≤ z) (_h1 : z ≤ 4294967295) (w : World) : Calls Try.prog 114 #[.int .u64 z] w fun e w' => e = .returned (.float .f32 z.toNat) ∧ w = w' := by
  have hc := convToNear z.toNat
  have hx := frombits32 z
  go_enter Try.func114, Try.ntmps114
  go_wp2_with (go_at_call 135; refine (smallNear _).mono ?_; rintro e w' ⟨rfl, rfl⟩)
  go_ret
  exact ⟨rfl, rfl⟩

set_option maxHeartbeats 400000 in
theorem long_any (z : Int) (w : World) : Calls Try.prog 22 #[.int .u64 z] w fun e w' => e = .returned (.float .f64 z.toNat) ∧ w = w' := by
  have hx := frombits64 z
  go_enter Try.func22, Try.ntmps22
  go_wp2
  go_ret
  exact ⟨rfl, rfl⟩

set_option maxHeartbeats 400000 in
theorem brief_any (z : Int) (w : World) : Calls Try.prog 26 #[.int .u32 z] w fun e w' => e = .returned (.float .f32 z.toNat) ∧ w = w' := by
  have hx := frombits32 z
  go_enter Try.func26, Try.ntmps26
  go_wp2
  go_ret
  exact ⟨rfl, rfl⟩
end Go.Proofs.Ytgehcnlfplcaaaa

/- Contracts of the small functions of fbit, of binary64: Place, At, NextUp. -/
import Derived.Test.YtljnadoodbninaaWTool
import Derived.Test.YtljnadoodbninaaMSpec
import Derived.Test.YtljnadoodbninaaMBit
import Derived.Test.YtljnadoodbninaaMNext
namespace Go.Proofs.Ytljnadoodbninaa.Fb
open Go.Proofs.Ytljnadoodbninaa
open Go.RowKit

theorem bits64 (b : Nat) (w : World) : (callFunc 67 #[.float .f64 b]).run Try.prog w = .ok (.value (.int .u64 b)) w := by kernel_rfl
theorem bits32 (b : Nat) (w : World) : (callFunc 126 #[.float .f32 b]).run Try.prog w = .ok (.value (.int .u32 b)) w := by kernel_rfl
theorem frombits64 (z : Int) (w : World) : (callFunc 26 #[.int .u64 z]).run Try.prog w = .ok (.value (.float .f64 z.toNat)) w := by kernel_rfl
theorem frombits32 (z : Int) (w : World) : (callFunc 127 #[.int .u32 z]).run Try.prog w = .ok (.value (.float .f32 z.toNat)) w := by kernel_rfl

theorem two24_64 : floatOfInt .f64 16777216 = 4715268809856909312 := by decide +kernel
theorem sum24_64 : floatBits .add .f64 4715268809856909312 4607182418800017408 = some 4715268810125344768 := by decide +kernel
theorem eq24_64 : (FloatKind.f64.format.order 4715268810125344768 4715268809856909312 == some .eq) = !true := by decide +kernel

theorem two24_32 : floatOfInt .f32 16777216 = 1266679808 := by decide +kernel
theorem sum24_32 : floatBits .add .f32 1266679808 1065353216 = some 1266679808 := by decide +kernel
theorem eq24_32 : (FloatKind.f32.format.order 1266679808 1266679808 == some .eq) = !false := by decide +kernel

theorem conv64 (b : Nat) (w : World) : (convert 26 26 (.float .f64 b)).run Try.prog w = .ok (.float .f64 b) w :=
  run_convert_float_float (P := Try.prog) w _ _ .f64 .f64 b b (by rw [Try.underlying26]; rfl) Try.underlying26 rfl

theorem conv32 (b : Nat) (w : World) : (convert 126 126 (.float .f32 b)).run Try.prog w = .ok (.float .f32 b) w :=
  run_convert_float_float (P := Try.prog) w _ _ .f32 .f32 b b (by rw [Try.underlying126]; rfl) Try.underlying126 rfl

theorem convTo64 (b : Nat) (w : World) : (convert 26 26 (.float .f64 b)).run Try.prog w = .ok (.float .f64 b) w := conv64 b w
theorem convOf64 (b : Nat) (w : World) : (convert 26 26 (.float .f64 b)).run Try.prog w = .ok (.float .f64 b) w := conv64 b w

theorem convTo32 (b : Nat) (w : World) : (convert 126 126 (.float .f32 b)).run Try.prog w = .ok (.float .f32 b) w := conv32 b w
theorem convOf32 (b : Nat) (w : World) : (convert 126 126 (.float .f32 b)).run Try.prog w = .ok (.float .f32 b) w := conv32 b w

set_option maxHeartbeats 400000 in
theorem small64 (w : World) : Calls Try.prog 125 #[] w fun e w' => e = .returned (.bool !true) ∧ w = w' := by
  have h1 := two24_64
  have h2 := fun t (w : World) => run_float_arith (P := Try.prog) w .add t .f64 _ _ _ sum24_64
  have h3 := eq24_64
  go_enter Try.func125, Try.ntmps125
  go_wp2
  go_ret
  exact ⟨rfl, rfl⟩

set_option maxHeartbeats 400000 in
theorem format64 (w : World) : Calls Try.prog 112 #[] w fun e w' => e = .returned (.agg #[.int .i64 52, .int .i64 (-1074), .int .i64 971, .int .u64 9218868437227405312, .int .u64 9223372036854775808]) ∧ Below w.heap.size w w' := by
  go_enter Try.func112, Try.ntmps112
  go_wp2_with (go_at_call 125; refine (small64 _).mono ?_; rintro e w' ⟨rfl, rfl⟩)
  refine bodyPost_ret (v := .agg #[.int .i64 52, .int .i64 (-1074), .int .i64 971, .int .u64 9218868437227405312, .int .u64 9223372036854775808]) (by simp [results, Try.results112, go_sem]) rfl ⟨rfl, ?_⟩
  exact (Below.refl _ _).alloc (Nat.le_refl _) _

set_option maxHeartbeats 400000 in
theorem pattern64 (b : Nat) (_hb : b ≤ 18446744073709551615) (w : World) : Calls Try.prog 113 #[.float .f64 b] w fun e w' => e = .returned (.int .u64 b) ∧ w = w' := by
  have hc := convOf64 b
  have hx := bits64 b
  go_enter Try.func113, Try.ntmps113
  go_wp2_with (go_at_call 125; refine (small64 _).mono ?_; rintro e w' ⟨rfl, rfl⟩)
  go_ret
  exact ⟨rfl, rfl⟩

set_option maxHeartbeats 400000 in
theorem number64 (z : Int) (_h0 : 0 ≤ z) (_h1 : z ≤ 18446744073709551615) (w : World) : Calls Try.prog 114 #[.int .u64 z] w fun e w' => e = .returned (.float .f64 z.toNat) ∧ w = w' := by
  have hc := convTo64 z.toNat
  have hx := frombits64 z
  go_enter Try.func114, Try.ntmps114
  go_wp2_with (go_at_call 125; refine (small64 _).mono ?_; rintro e w' ⟨rfl, rfl⟩)
  go_ret
  exact ⟨rfl, rfl⟩

end Go.Proofs.Ytljnadoodbninaa.Fb
namespace Go.Proofs.Ytljnadoodbninaa.Fb
open Go.Proofs.Ytljnadoodbninaa
open Go.RowKit

set_option maxHeartbeats 400000 in
theorem full_64 (w : World) : Calls Try.prog 116 #[.bool true] w fun e w' => e = .returned (.int .u64 (4503599627370496)) ∧ w = w' := by
  go_enter Try.func116, Try.ntmps116
  go_wp2
  go_ret
  exact ⟨rfl, rfl⟩

set_option maxHeartbeats 400000 in
theorem top_64 (w : World) : Calls Try.prog 117 #[.bool true] w fun e w' => e = .returned (.int .i64 (971)) ∧ w = w' := by
  go_enter Try.func117, Try.ntmps117
  go_wp2
  go_ret
  exact ⟨rfl, rfl⟩

set_option maxHeartbeats 400000 in
theorem least_64 (w : World) : Calls Try.prog 118 #[.bool true] w fun e w' => e = .returned (.int .i64 (-1074)) ∧ w = w' := by
  go_enter Try.func118, Try.ntmps118
  go_wp2
  go_ret
  exact ⟨rfl, rfl⟩

set_option maxHeartbeats 400000 in
theorem full_32 (w : World) : Calls Try.prog 116 #[.bool false] w fun e w' => e = .returned (.int .u64 (8388608)) ∧ w = w' := by
  go_enter Try.func116, Try.ntmps116
  go_wp2
  go_ret
  exact ⟨rfl, rfl⟩

set_option maxHeartbeats 400000 in
theorem top_32 (w : World) : Calls Try.prog 117 #[.bool false] w fun e w' => e = .returned (.int .i64 (104)) ∧ w = w' := by
  go_enter Try.func117, Try.ntmps117
  go_wp2
  go_ret
  exact ⟨rfl, rfl⟩

set_option maxHeartbeats 400000 in
theorem least_32 (w : World) : Calls Try.prog 118 #[.bool false] w fun e w' => e = .returned (.int .i64 (-149)) ∧ w = w' := by
  go_enter Try.func118, Try.ntmps118
  go_wp2
  go_ret
  exact ⟨rfl, rfl⟩

/-- Of a rung r: the kind, the significand, the exponent. -/
def kd64 (r : Nat) : Int := if (r : Int) / 4503599627370496 = 2047 then (if (r : Int) % 4503599627370496 = 0 then 1 else 2) else 0
def sg64 (r : Nat) : Int := if (r : Int) / 4503599627370496 = 2047 then (r : Int) % 4503599627370496 else if 0 < (r : Int) / 4503599627370496 then (r : Int) % 4503599627370496 + 4503599627370496 else (r : Int) % 4503599627370496
def ex64 (r : Nat) : Int := if (r : Int) / 4503599627370496 = 2047 then -1074 else if 0 < (r : Int) / 4503599627370496 then -1074 + (r : Int) / 4503599627370496 - 1 else -1074

set_option maxHeartbeats 1000000 in
theorem of64n (b r : Nat) (hr : r ≤ 9223372036854775807) (hs : decide ((9223372036854775808 : Int) ≤ (b : Int)) = true) (e1 : IntKind.u64.wrap ((b : Int) - 9223372036854775808) = r) (w : World) :
    Calls Try.prog 115 #[.bool true, .int .u64 b] w fun e w' => e = .returned (.agg #[.int .i64 (kd64 r), .bool true, .int .u64 (sg64 r), .int .i64 (ex64 r)]) ∧ Below w.heap.size w w' := by
  go_enter Try.func115, Try.ntmps115
  go_wp2_with (first | (go_at_call 116; refine (full_64 _).mono ?_; rintro e w' ⟨rfl, rfl⟩) | (go_at_call 117; refine (top_64 _).mono ?_; rintro e w' ⟨rfl, rfl⟩) | (go_at_call 118; refine (least_64 _).mono ?_; rintro e w' ⟨rfl, rfl⟩))
  all_goals simp [bodyPost, results, Try.results115, go_sem]
  all_goals (rename_i g1 g2; try simp only [beq_iff_eq, beq_eq_false_iff_ne, bne_iff_ne, ne_eq, bne_eq_false_iff_eq] at g1 g2)
  all_goals refine ⟨⟨by unfold kd64; (repeat' split) <;> omega, by unfold sg64; (repeat' split) <;> omega, by unfold ex64; (repeat' split) <;> omega⟩, ?_⟩
  all_goals exact ((Below.refl _ _).alloc (Nat.le_refl _) _).alloc (by simp) _

set_option maxHeartbeats 1000000 in
theorem of64p (r : Nat) (hr : r ≤ 9223372036854775807) (hs : decide ((9223372036854775808 : Int) ≤ (r : Int)) = false)  (w : World) :
    Calls Try.prog 115 #[.bool true, .int .u64 r] w fun e w' => e = .returned (.agg #[.int .i64 (kd64 r), .bool false, .int .u64 (sg64 r), .int .i64 (ex64 r)]) ∧ Below w.heap.size w w' := by
  go_enter Try.func115, Try.ntmps115
  go_wp2_with (first | (go_at_call 116; refine (full_64 _).mono ?_; rintro e w' ⟨rfl, rfl⟩) | (go_at_call 117; refine (top_64 _).mono ?_; rintro e w' ⟨rfl, rfl⟩) | (go_at_call 118; refine (least_64 _).mono ?_; rintro e w' ⟨rfl, rfl⟩))
  all_goals simp [bodyPost, results, Try.results115, go_sem]
  all_goals (rename_i g1 g2; try simp only [beq_iff_eq, beq_eq_false_iff_ne, bne_iff_ne, ne_eq, bne_eq_false_iff_eq] at g1 g2)
  all_goals refine ⟨⟨by unfold kd64; (repeat' split) <;> omega, by unfold sg64; (repeat' split) <;> omega, by unfold ex64; (repeat' split) <;> omega⟩, ?_⟩
  all_goals exact ((Below.refl _ _).alloc (Nat.le_refl _) _).alloc (by simp) _

/-- What Of tells of a pattern: the kind, the sign, the significand, the exponent. -/
def Num64 (b : Nat) (k : Int) (s : Bool) (g x : Int) : Prop := k = kd64 (Vg.rg true b) ∧ s = Vg.ng true b ∧ g = sg64 (Vg.rg true b) ∧ x = ex64 (Vg.rg true b)

theorem of64 (b : Nat) (hb : b ≤ 18446744073709551615) (w : World) :
    Calls Try.prog 115 #[.bool true, .int .u64 b] w fun e w' => ∃ k s g x, e = .returned (.agg #[.int .i64 k, .bool s, .int .u64 g, .int .i64 x]) ∧ Num64 b k s g x ∧ Below w.heap.size w w' := by
  unfold Num64
  by_cases hs : 9223372036854775808 ≤ b
  · have e1 : Vg.rg true b = b - 9223372036854775808 := by simp only [Vg.rg, Vg.S, if_true]; omega
    have e2 : Vg.ng true b = true := by simp only [Vg.ng, Vg.S, if_true]; exact decide_eq_true hs
    rw [e1, e2]
    exact (of64n b _ (by omega) (decide_eq_true (by omega)) (by simp only [IntKind.wrap_u64]; omega) w).mono fun _ _ ⟨h1, h2⟩ => ⟨_, _, _, _, h1, ⟨rfl, rfl, rfl, rfl⟩, h2⟩
  · have e1 : Vg.rg true b = b := by simp only [Vg.rg, Vg.S, if_true]; omega
    have e2 : Vg.ng true b = false := by simp only [Vg.ng, Vg.S, if_true]; exact decide_eq_false hs
    rw [e1, e2]
    exact (of64p b (by omega) (decide_eq_false (by omega)) w).mono fun _ _ ⟨h1, h2⟩ => ⟨_, _, _, _, h1, ⟨rfl, rfl, rfl, rfl⟩, h2⟩

/-- Of a rung r: the kind, the significand, the exponent. -/
def kd32 (r : Nat) : Int := if (r : Int) / 8388608 = 255 then (if (r : Int) % 8388608 = 0 then 1 else 2) else 0
def sg32 (r : Nat) : Int := if (r : Int) / 8388608 = 255 then (r : Int) % 8388608 else if 0 < (r : Int) / 8388608 then (r : Int) % 8388608 + 8388608 else (r : Int) % 8388608
def ex32 (r : Nat) : Int := if (r : Int) / 8388608 = 255 then -149 else if 0 < (r : Int) / 8388608 then -149 + (r : Int) / 8388608 - 1 else -149

set_option maxHeartbeats 1000000 in
theorem of32n (b r : Nat) (hr : r ≤ 2147483647) (hs : decide ((2147483648 : Int) ≤ (b : Int)) = true) (e0 : (b : Int).tmod 4294967296 = b) (e1 : IntKind.u64.wrap ((b : Int) - 2147483648) = r) (w : World) :
    Calls Try.prog 115 #[.bool false, .int .u64 b] w fun e w' => e = .returned (.agg #[.int .i64 (kd32 r), .bool true, .int .u64 (sg32 r), .int .i64 (ex32 r)]) ∧ Below w.heap.size w w' := by
  go_enter Try.func115, Try.ntmps115
  go_wp2_with (first | (go_at_call 116; refine (full_32 _).mono ?_; rintro e w' ⟨rfl, rfl⟩) | (go_at_call 117; refine (top_32 _).mono ?_; rintro e w' ⟨rfl, rfl⟩) | (go_at_call 118; refine (least_32 _).mono ?_; rintro e w' ⟨rfl, rfl⟩))
  all_goals simp [bodyPost, results, Try.results115, go_sem]
  all_goals (rename_i g1 g2; try simp only [beq_iff_eq, beq_eq_false_iff_ne, bne_iff_ne, ne_eq, bne_eq_false_iff_eq] at g1 g2)
  all_goals refine ⟨⟨by unfold kd32; (repeat' split) <;> omega, by unfold sg32; (repeat' split) <;> omega, by unfold ex32; (repeat' split) <;> omega⟩, ?_⟩
  all_goals exact ((Below.refl _ _).alloc (Nat.le_refl _) _).alloc (by simp) _

set_option maxHeartbeats 1000000 in
theorem of32p (r : Nat) (hr : r ≤ 2147483647) (hs : decide ((2147483648 : Int) ≤ (r : Int)) = false) (e0 : (r : Int).tmod 4294967296 = r)  (w : World) :
    Calls Try.prog 115 #[.bool false, .int .u64 r] w fun e w' => e = .returned (.agg #[.int .i64 (kd32 r), .bool false, .int .u64 (sg32 r), .int .i64 (ex32 r)]) ∧ Below w.heap.size w w' := by
  go_enter Try.func115, Try.ntmps115
  go_wp2_with (first | (go_at_call 116; refine (full_32 _).mono ?_; rintro e w' ⟨rfl, rfl⟩) | (go_at_call 117; refine (top_32 _).mono ?_; rintro e w' ⟨rfl, rfl⟩) | (go_at_call 118; refine (least_32 _).mono ?_; rintro e w' ⟨rfl, rfl⟩))
  all_goals simp [bodyPost, results, Try.results115, go_sem]
  all_goals (rename_i g1 g2; try simp only [beq_iff_eq, beq_eq_false_iff_ne, bne_iff_ne, ne_eq, bne_eq_false_iff_eq] at g1 g2)
  all_goals refine ⟨⟨by unfold kd32; (repeat' split) <;> omega, by unfold sg32; (repeat' split) <;> omega, by unfold ex32; (repeat' split) <;> omega⟩, ?_⟩
  all_goals exact ((Below.refl _ _).alloc (Nat.le_refl _) _).alloc (by simp) _

/-- What Of tells of a pattern: the kind, the sign, the significand, the exponent. -/
def Num32 (b : Nat) (k : Int) (s : Bool) (g x : Int) : Prop := k = kd32 (Vg.rg false b) ∧ s = Vg.ng false b ∧ g = sg32 (Vg.rg false b) ∧ x = ex32 (Vg.rg false b)

theorem of32 (b : Nat) (hb : b ≤ 4294967295) (w : World) :
    Calls Try.prog 115 #[.bool false, .int .u64 b] w fun e w' => ∃ k s g x, e = .returned (.agg #[.int .i64 k, .bool s, .int .u64 g, .int .i64 x]) ∧ Num32 b k s g x ∧ Below w.heap.size w w' := by
  unfold Num32
  by_cases hs : 2147483648 ≤ b
  · have e1 : Vg.rg false b = b - 2147483648 := by simp only [Vg.rg, Vg.S, Bool.false_eq_true, if_false]; omega
    have e2 : Vg.ng false b = true := by simp only [Vg.ng, Vg.S, Bool.false_eq_true, if_false]; exact decide_eq_true hs
    rw [e1, e2]
    exact (of32n b _ (by omega) (decide_eq_true (by omega)) (by rw [Int.tmod_eq_emod_of_nonneg (by omega)]; omega) (by simp only [IntKind.wrap_u64]; omega) w).mono fun _ _ ⟨h1, h2⟩ => ⟨_, _, _, _, h1, ⟨rfl, rfl, rfl, rfl⟩, h2⟩
  · have e1 : Vg.rg false b = b := by simp only [Vg.rg, Vg.S, Bool.false_eq_true, if_false]; omega
    have e2 : Vg.ng false b = false := by simp only [Vg.ng, Vg.S, Bool.false_eq_true, if_false]; exact decide_eq_false hs
    rw [e1, e2]
    exact (of32p b (by omega) (decide_eq_false (by omega)) (by rw [Int.tmod_eq_emod_of_nonneg (by omega)]; omega) w).mono fun _ _ ⟨h1, h2⟩ => ⟨_, _, _, _, h1, ⟨rfl, rfl, rfl, rfl⟩, h2⟩

end Go.Proofs.Ytljnadoodbninaa.Fb
namespace Go.Proofs.Ytljnadoodbninaa.Fb
open Go.Proofs.Ytljnadoodbninaa
open Go.RowKit

theorem field90 (k : Int) (s : Bool) (g x : Int) (w : World) : (Instr.field 116 (.agg #[.int .i64 k, .bool s, .int .u64 g, .int .i64 x]) 0).run Try.prog w = .ok (.int .i64 k) w := by kernel_rfl

theorem ret_int {k : IntKind} {a b : Int} (h : a = b) : Ending.returned (.int k a) = .returned (.int k b) := by rw [h]
theorem ret_bool {a b : Bool} (h : a = b) : Ending.returned (.bool a) = .returned (.bool b) := by rw [h]

/-- A sign ahead of a rung. -/
def sn64 (s : Bool) (r : Int) : Int := if s then r + 9223372036854775808 else r
/-- The rung of a significand and an exponent. -/
def fi64 (sig exp : Int) : Int := if 4503599627370496 ≤ sig then (exp - (-1074) + 1) * 4503599627370496 + sig - 4503599627370496 else sig

theorem kd_nn64 (b : Nat) : (kd64 (Vg.rg true b) == 2) = Vg.nn true b := by
  have hr : Vg.rg true b ≤ 9223372036854775807 := by simp only [Vg.rg, Vg.S, if_true]; omega
  simp only [Vg.nn, Vg.INF, if_true]
  rw [Bool.eq_iff_iff, beq_iff_eq, decide_eq_true_iff]
  unfold kd64
  (repeat' split) <;> omega

set_option maxHeartbeats 1000000 in
theorem bits_nan64 (s : Bool) (sig exp : Int) (w : World) : Calls Try.prog 123 #[.bool true, .agg #[.int .i64 2, .bool s, .int .u64 sig, .int .i64 exp]] w fun e w' => e = .returned (.int .u64 (9218868437227405312 + 4503599627370496 / 2)) ∧ Below w.heap.size w w' := by
  go_enter Try.func123, Try.ntmps123
  go_wp2_with (first | (go_at_call 116; refine (full_64 _).mono ?_; rintro e w' ⟨rfl, rfl⟩) | (go_at_call 117; refine (top_64 _).mono ?_; rintro e w' ⟨rfl, rfl⟩) | (go_at_call 118; refine (least_64 _).mono ?_; rintro e w' ⟨rfl, rfl⟩))
  go_ret
  exact ⟨rfl, (Below.refl _ _).alloc (Nat.le_refl _) _⟩

set_option maxHeartbeats 1000000 in
theorem bits_inf64 (s : Bool) (sig exp : Int) (w : World) : Calls Try.prog 123 #[.bool true, .agg #[.int .i64 1, .bool s, .int .u64 sig, .int .i64 exp]] w fun e w' => e = .returned (.int .u64 (sn64 s 9218868437227405312)) ∧ Below w.heap.size w w' := by
  cases s
  all_goals
    go_enter Try.func123, Try.ntmps123
    go_wp2_with (first | (go_at_call 116; refine (full_64 _).mono ?_; rintro e w' ⟨rfl, rfl⟩) | (go_at_call 117; refine (top_64 _).mono ?_; rintro e w' ⟨rfl, rfl⟩) | (go_at_call 118; refine (least_64 _).mono ?_; rintro e w' ⟨rfl, rfl⟩))
    go_ret
    exact ⟨rfl, (Below.refl _ _).alloc (Nat.le_refl _) _⟩

set_option maxHeartbeats 1000000 in
theorem bits_fin64 (s : Bool) (sig exp : Int) (h0 : 0 ≤ sig) (h1 : sig < 2 * 4503599627370496) (h2 : -1074 ≤ exp) (h3 : exp ≤ 971) (w : World) : Calls Try.prog 123 #[.bool true, .agg #[.int .i64 0, .bool s, .int .u64 sig, .int .i64 exp]] w fun e w' => e = .returned (.int .u64 (sn64 s (fi64 sig exp))) ∧ Below w.heap.size w w' := by
  by_cases hf : 4503599627370496 ≤ sig
  · have e1 : fi64 sig exp = (exp - (-1074) + 1) * 4503599627370496 + sig - 4503599627370496 := if_pos hf
    have hf' : decide ((4503599627370496 : Int) ≤ sig) = true := decide_eq_true hf
    have E1 := hide e1
    clear e1
    cases s
    all_goals
      go_enter Try.func123, Try.ntmps123
      go_wp2_with (first | (go_at_call 116; refine (full_64 _).mono ?_; rintro e w' ⟨rfl, rfl⟩) | (go_at_call 117; refine (top_64 _).mono ?_; rintro e w' ⟨rfl, rfl⟩) | (go_at_call 118; refine (least_64 _).mono ?_; rintro e w' ⟨rfl, rfl⟩))
      go_quiet ((go_at_call 118; exact quiet_left (least_64 _)))
      go_wp2
      go_ret
      refine ⟨ret_int ?_, below_drewN ((Below.refl _ _).alloc (Nat.le_refl _) _) _⟩
      rw [E1.out]; simp only [sn64, if_true, Bool.false_eq_true, if_false]; omega
  · have e1 : fi64 sig exp = sig := if_neg hf
    have hf' : decide ((4503599627370496 : Int) ≤ sig) = false := decide_eq_false hf
    have E1 := hide e1
    clear e1
    cases s
    all_goals
      go_enter Try.func123, Try.ntmps123
      go_wp2_with (first | (go_at_call 116; refine (full_64 _).mono ?_; rintro e w' ⟨rfl, rfl⟩) | (go_at_call 117; refine (top_64 _).mono ?_; rintro e w' ⟨rfl, rfl⟩) | (go_at_call 118; refine (least_64 _).mono ?_; rintro e w' ⟨rfl, rfl⟩))
      go_ret
      refine ⟨ret_int ?_, (Below.refl _ _).alloc (Nat.le_refl _) _⟩
      rw [E1.out]; simp only [sn64, if_true, Bool.false_eq_true, if_false]

theorem Num64.nan {b : Nat} {k : Int} {s : Bool} {g x : Int} (h : Num64 b k s g x) : (k == 2) = Vg.nn true b := by rw [h.1]; exact kd_nn64 b

/-- A sign ahead of a rung. -/
def sn32 (s : Bool) (r : Int) : Int := if s then r + 2147483648 else r
/-- The rung of a significand and an exponent. -/
def fi32 (sig exp : Int) : Int := if 8388608 ≤ sig then (exp - (-149) + 1) * 8388608 + sig - 8388608 else sig

theorem kd_nn32 (b : Nat) : (kd32 (Vg.rg false b) == 2) = Vg.nn false b := by
  have hr : Vg.rg false b ≤ 2147483647 := by simp only [Vg.rg, Vg.S, Bool.false_eq_true, if_false]; omega
  simp only [Vg.nn, Vg.INF, Bool.false_eq_true, if_false]
  rw [Bool.eq_iff_iff, beq_iff_eq, decide_eq_true_iff]
  unfold kd32
  (repeat' split) <;> omega

set_option maxHeartbeats 1000000 in
theorem bits_nan32 (s : Bool) (sig exp : Int) (w : World) : Calls Try.prog 123 #[.bool false, .agg #[.int .i64 2, .bool s, .int .u64 sig, .int .i64 exp]] w fun e w' => e = .returned (.int .u64 (2139095040 + 8388608 / 2)) ∧ Below w.heap.size w w' := by
  go_enter Try.func123, Try.ntmps123
  go_wp2_with (first | (go_at_call 116; refine (full_32 _).mono ?_; rintro e w' ⟨rfl, rfl⟩) | (go_at_call 117; refine (top_32 _).mono ?_; rintro e w' ⟨rfl, rfl⟩) | (go_at_call 118; refine (least_32 _).mono ?_; rintro e w' ⟨rfl, rfl⟩))
  go_ret
  exact ⟨rfl, (Below.refl _ _).alloc (Nat.le_refl _) _⟩

set_option maxHeartbeats 1000000 in
theorem bits_inf32 (s : Bool) (sig exp : Int) (w : World) : Calls Try.prog 123 #[.bool false, .agg #[.int .i64 1, .bool s, .int .u64 sig, .int .i64 exp]] w fun e w' => e = .returned (.int .u64 (sn32 s 2139095040)) ∧ Below w.heap.size w w' := by
  cases s
  all_goals
    go_enter Try.func123, Try.ntmps123
    go_wp2_with (first | (go_at_call 116; refine (full_32 _).mono ?_; rintro e w' ⟨rfl, rfl⟩) | (go_at_call 117; refine (top_32 _).mono ?_; rintro e w' ⟨rfl, rfl⟩) | (go_at_call 118; refine (least_32 _).mono ?_; rintro e w' ⟨rfl, rfl⟩))
    go_ret
    exact ⟨rfl, (Below.refl _ _).alloc (Nat.le_refl _) _⟩

set_option maxHeartbeats 1000000 in
theorem bits_fin32 (s : Bool) (sig exp : Int) (h0 : 0 ≤ sig) (h1 : sig < 2 * 8388608) (h2 : -149 ≤ exp) (h3 : exp ≤ 104) (w : World) : Calls Try.prog 123 #[.bool false, .agg #[.int .i64 0, .bool s, .int .u64 sig, .int .i64 exp]] w fun e w' => e = .returned (.int .u64 (sn32 s (fi32 sig exp))) ∧ Below w.heap.size w w' := by
  by_cases hf : 8388608 ≤ sig
  · have e1 : fi32 sig exp = (exp - (-149) + 1) * 8388608 + sig - 8388608 := if_pos hf
    have hf' : decide ((8388608 : Int) ≤ sig) = true := decide_eq_true hf
    have E1 := hide e1
    clear e1
    cases s
    all_goals
      go_enter Try.func123, Try.ntmps123
      go_wp2_with (first | (go_at_call 116; refine (full_32 _).mono ?_; rintro e w' ⟨rfl, rfl⟩) | (go_at_call 117; refine (top_32 _).mono ?_; rintro e w' ⟨rfl, rfl⟩) | (go_at_call 118; refine (least_32 _).mono ?_; rintro e w' ⟨rfl, rfl⟩))
      go_quiet ((go_at_call 118; exact quiet_left (least_32 _)))
      go_wp2
      go_ret
      refine ⟨ret_int ?_, below_drewN ((Below.refl _ _).alloc (Nat.le_refl _) _) _⟩
      rw [E1.out]; simp only [sn32, if_true, Bool.false_eq_true, if_false]; omega
  · have e1 : fi32 sig exp = sig := if_neg hf
    have hf' : decide ((8388608 : Int) ≤ sig) = false := decide_eq_false hf
    have E1 := hide e1
    clear e1
    cases s
    all_goals
      go_enter Try.func123, Try.ntmps123
      go_wp2_with (first | (go_at_call 116; refine (full_32 _).mono ?_; rintro e w' ⟨rfl, rfl⟩) | (go_at_call 117; refine (top_32 _).mono ?_; rintro e w' ⟨rfl, rfl⟩) | (go_at_call 118; refine (least_32 _).mono ?_; rintro e w' ⟨rfl, rfl⟩))
      go_ret
      refine ⟨ret_int ?_, (Below.refl _ _).alloc (Nat.le_refl _) _⟩
      rw [E1.out]; simp only [sn32, if_true, Bool.false_eq_true, if_false]

theorem Num32.nan {b : Nat} {k : Int} {s : Bool} {g x : Int} (h : Num32 b k s g x) : (k == 2) = Vg.nn false b := by rw [h.1]; exact kd_nn32 b

end Go.Proofs.Ytljnadoodbninaa.Fb
namespace Go.Proofs.Ytljnadoodbninaa.Fb
open Go.Proofs.Ytljnadoodbninaa
open Go.RowKit

/-- A number is that of a pattern: a NaN, where that is one; else the very pattern. -/
def IsOk64 (x : Nat) (z : Int) : Prop := x ≤ 18446744073709551615 ∧ 0 ≤ z ∧ z ≤ 18446744073709551615 ∧ (Vg.nn true z.toNat = true ∧ Vg.nn true x = true ∨ Vg.nn true x = false ∧ z = x)

theorem self_ne64 (x : Nat) (hx : x ≤ 18446744073709551615) : (FloatKind.f64.format.order x x != some Ordering.eq) = Vg.nn true x := Vg.ne_self true x (by simp only [Vg.S, if_true]; omega)
theorem self_eq64 (x : Nat) (hx : x ≤ 18446744073709551615) : (FloatKind.f64.format.order x x == some Ordering.eq) = !Vg.nn true x := Vg.eq_self true x (by simp only [Vg.S, if_true]; omega)

/-- A number is that of a pattern: a NaN, where that is one; else the very pattern. -/
def IsOk32 (x : Nat) (z : Int) : Prop := x ≤ 4294967295 ∧ 0 ≤ z ∧ z ≤ 4294967295 ∧ (Vg.nn false z.toNat = true ∧ Vg.nn false x = true ∨ Vg.nn false x = false ∧ z = x)

theorem self_ne32 (x : Nat) (hx : x ≤ 4294967295) : (FloatKind.f32.format.order x x != some Ordering.eq) = Vg.nn false x := Vg.ne_self false x (by simp only [Vg.S, Bool.false_eq_true, if_false]; omega)
theorem self_eq32 (x : Nat) (hx : x ≤ 4294967295) : (FloatKind.f32.format.order x x == some Ordering.eq) = !Vg.nn false x := Vg.eq_self false x (by simp only [Vg.S, Bool.false_eq_true, if_false]; omega)

end Go.Proofs.Ytljnadoodbninaa.Fb
namespace Go.Proofs.Ytljnadoodbninaa.Fb
open Go.Proofs.Ytljnadoodbninaa
open Go.RowKit

theorem bch {w w1 w2 : World} (h1 : Below w.heap.size w w1) (h2 : Below w1.heap.size w1 w2) : Below w.heap.size w w2 := h1.trans (h2.mono h1.size)
theorem below_two {w w' w1 : World} {o : Obj} (h1 : Below w.heap.size w w') (h2 : Below (w'.alloc o).heap.size (w'.alloc o) w1) : Below w.heap.size w w1 :=
  (h1.alloc h1.size o).trans (h2.mono (by simp; exact Nat.le_succ_of_le h1.size))

theorem zero_eq64 (x : Nat) (hx : x ≤ 18446744073709551615) : (FloatKind.f64.format.order x 0 == some Ordering.eq) = decide (Vg.rg true x = 0) := by
  have h := Vg.eq_iff true x 0 (by simp only [Vg.S, if_true]; omega) (by simp only [Vg.S, if_true]; omega)
  refine Eq.trans h ?_
  rw [Bool.eq_iff_iff]
  simp only [Bool.and_eq_true, Bool.not_eq_true', decide_eq_true_eq, Vg.nn, Vg.pl, Vg.ng, Vg.rg, Vg.S, Vg.INF, if_true, decide_eq_false_iff_not]
  (repeat' split) <;> omega

theorem zero_eq32 (x : Nat) (hx : x ≤ 4294967295) : (FloatKind.f32.format.order x 0 == some Ordering.eq) = decide (Vg.rg false x = 0) := by
  have h := Vg.eq_iff false x 0 (by simp only [Vg.S, Bool.false_eq_true, if_false]; omega) (by simp only [Vg.S, Bool.false_eq_true, if_false]; omega)
  refine Eq.trans h ?_
  rw [Bool.eq_iff_iff]
  simp only [Bool.and_eq_true, Bool.not_eq_true', decide_eq_true_eq, Vg.nn, Vg.pl, Vg.ng, Vg.rg, Vg.S, Vg.INF, Bool.false_eq_true, if_false, decide_eq_false_iff_not]
  (repeat' split) <;> omega

set_option maxHeartbeats 1000000 in
theorem plain64 (x : Nat) (hx : x ≤ 18446744073709551615) (w : World) : Calls Try.prog 111 #[.float .f64 x] w fun e w' => e = .returned (.float .f64 (Vg.plainb true x)) ∧ w = w' := by
  have hz := zero_eq64 x hx
  by_cases h : Vg.rg true x = 0
  · have e1 : Vg.plainb true x = 0 := if_pos h
    rw [decide_eq_true h] at hz
    rw [e1]
    clear h e1 hx
    go_enter Try.func111, Try.ntmps111
    go_wp2
    go_ret
    exact ⟨rfl, rfl⟩
  · have e1 : Vg.plainb true x = x := if_neg h
    rw [decide_eq_false h] at hz
    rw [e1]
    clear h e1 hx
    go_enter Try.func111, Try.ntmps111
    go_wp2
    go_ret
    exact ⟨rfl, rfl⟩

/-- The reference's Plain: of a NaN a fixed one. -/
def RPlain64 (b : Nat) (z : Int) : Prop := z = if Vg.nn true b then (9218868437227405312 + 4503599627370496 / 2 : Int) else (Vg.plainb true b : Int)

theorem RPlain64.ok {b : Nat} {z : Int} (h : RPlain64 b z) (hb : b ≤ 18446744073709551615) : IsOk64 (Vg.plainb true b) z := by
  unfold RPlain64 at h
  subst h
  unfold IsOk64 Vg.plainb
  simp only [Vg.nn, Vg.rg, Vg.S, Vg.INF, if_true, decide_eq_true_eq, decide_eq_false_iff_not]
  (repeat' split) <;> omega

theorem sign64 (b : Nat) (hb : b ≤ 18446744073709551615) : Vg.rg true b ≤ 9223372036854775807 ∧ (Vg.ng true b = true ∧ b = Vg.rg true b + 9223372036854775808 ∨ Vg.ng true b = false ∧ b = Vg.rg true b) := by
  simp only [Vg.ng, Vg.rg, Vg.S, if_true, decide_eq_true_eq, decide_eq_false_iff_not]
  omega

theorem RPlain64.of {b : Nat} {k : Int} {s : Bool} {g x : Int} (h : Num64 b k s g x) (hb : b ≤ 18446744073709551615) :
    k = 2 ∧ RPlain64 b (9218868437227405312 + 4503599627370496 / 2) ∨ k = 1 ∧ RPlain64 b (sn64 s 9218868437227405312) ∨
    k = 0 ∧ g = 0 ∧ x = -1074 ∧ RPlain64 b (sn64 false (fi64 0 x)) ∨ k = 0 ∧ (g == 0) = false ∧ 0 ≤ g ∧ g < 2 * 4503599627370496 ∧ -1074 ≤ x ∧ x ≤ 971 ∧ RPlain64 b (sn64 s (fi64 g x)) := by
  obtain ⟨h1, h2, h3, h4⟩ := h
  obtain ⟨hr, hs⟩ := sign64 b hb
  subst h1 h2 h3 h4
  unfold RPlain64 sn64 fi64 Vg.plainb kd64 sg64 ex64
  simp only [Vg.nn, Vg.INF, if_true, decide_eq_true_eq, beq_eq_false_iff_ne, ne_eq]
  generalize Vg.rg true b = r at *
  generalize hq : (r : Int) / 4503599627370496 = q
  generalize ht : (r : Int) % 4503599627370496 = t
  have h0 : (r : Int) = 4503599627370496 * q + t := by omega
  have t0 : 0 ≤ t ∧ t < 4503599627370496 := by omega
  clear hq ht
  rcases hs with ⟨hs, hb'⟩ | ⟨hs, hb'⟩ <;> rw [hs]
  all_goals
    by_cases c1 : q = 2047
    · by_cases c2 : t = 0
      · right; left
        refine ⟨by simp only [if_pos c1, if_pos c2], ?_⟩
        have d1 : ¬ 9218868437227405312 < r := by omega
        have d2 : ¬ r = 0 := by omega
        simp only [if_neg d1, if_neg d2, if_true, Bool.false_eq_true, if_false]; omega
      · left
        refine ⟨by simp only [if_pos c1, if_neg c2], ?_⟩
        rw [if_pos (by omega)]
    · have c3 : ¬ 9218868437227405312 < r := by omega
      by_cases c2 : r = 0
      · right; right; left
        have c4 : ¬ 0 < q := by omega
        simp only [if_neg c1, if_neg c4, if_neg c3, if_pos c2]
        refine ⟨trivial, by omega, trivial, by simp⟩
      · right; right; right
        simp only [if_neg c1, if_neg c3, if_neg c2]
        by_cases c4 : 0 < q
        · simp only [if_pos c4, if_true, Bool.false_eq_true, if_false]
          refine ⟨trivial, by omega, by omega, by omega, by omega, by omega, ?_⟩
          rw [if_pos (by omega)]; omega
        · simp only [if_neg c4, if_true, Bool.false_eq_true, if_false]
          refine ⟨trivial, by omega, by omega, by omega, by omega, by omega, ?_⟩
          rw [if_neg (by omega)]; omega

/-- The reference's Plain: of a NaN a fixed one. -/
def RPlain32 (b : Nat) (z : Int) : Prop := z = if Vg.nn false b then (2139095040 + 8388608 / 2 : Int) else (Vg.plainb false b : Int)

theorem RPlain32.ok {b : Nat} {z : Int} (h : RPlain32 b z) (hb : b ≤ 4294967295) : IsOk32 (Vg.plainb false b) z := by
  unfold RPlain32 at h
  subst h
  unfold IsOk32 Vg.plainb
  simp only [Vg.nn, Vg.rg, Vg.S, Vg.INF, Bool.false_eq_true, if_false, decide_eq_true_eq, decide_eq_false_iff_not]
  (repeat' split) <;> omega

theorem sign32 (b : Nat) (hb : b ≤ 4294967295) : Vg.rg false b ≤ 2147483647 ∧ (Vg.ng false b = true ∧ b = Vg.rg false b + 2147483648 ∨ Vg.ng false b = false ∧ b = Vg.rg false b) := by
  simp only [Vg.ng, Vg.rg, Vg.S, Bool.false_eq_true, if_false, decide_eq_true_eq, decide_eq_false_iff_not]
  omega

theorem RPlain32.of {b : Nat} {k : Int} {s : Bool} {g x : Int} (h : Num32 b k s g x) (hb : b ≤ 4294967295) :
    k = 2 ∧ RPlain32 b (2139095040 + 8388608 / 2) ∨ k = 1 ∧ RPlain32 b (sn32 s 2139095040) ∨
    k = 0 ∧ g = 0 ∧ x = -149 ∧ RPlain32 b (sn32 false (fi32 0 x)) ∨ k = 0 ∧ (g == 0) = false ∧ 0 ≤ g ∧ g < 2 * 8388608 ∧ -149 ≤ x ∧ x ≤ 104 ∧ RPlain32 b (sn32 s (fi32 g x)) := by
  obtain ⟨h1, h2, h3, h4⟩ := h
  obtain ⟨hr, hs⟩ := sign32 b hb
  subst h1 h2 h3 h4
  unfold RPlain32 sn32 fi32 Vg.plainb kd32 sg32 ex32
  simp only [Vg.nn, Vg.INF, Bool.false_eq_true, if_false, decide_eq_true_eq, beq_eq_false_iff_ne, ne_eq]
  generalize Vg.rg false b = r at *
  generalize hq : (r : Int) / 8388608 = q
  generalize ht : (r : Int) % 8388608 = t
  have h0 : (r : Int) = 8388608 * q + t := by omega
  have t0 : 0 ≤ t ∧ t < 8388608 := by omega
  clear hq ht
  rcases hs with ⟨hs, hb'⟩ | ⟨hs, hb'⟩ <;> rw [hs]
  all_goals
    by_cases c1 : q = 255
    · by_cases c2 : t = 0
      · right; left
        refine ⟨by simp only [if_pos c1, if_pos c2], ?_⟩
        have d1 : ¬ 2139095040 < r := by omega
        have d2 : ¬ r = 0 := by omega
        simp only [if_neg d1, if_neg d2, if_true, Bool.false_eq_true, if_false]; omega
      · left
        refine ⟨by simp only [if_pos c1, if_neg c2], ?_⟩
        rw [if_pos (by omega)]
    · have c3 : ¬ 2139095040 < r := by omega
      by_cases c2 : r = 0
      · right; right; left
        have c4 : ¬ 0 < q := by omega
        simp only [if_neg c1, if_neg c4, if_neg c3, if_pos c2]
        refine ⟨trivial, by omega, trivial, by simp⟩
      · right; right; right
        simp only [if_neg c1, if_neg c3, if_neg c2]
        by_cases c4 : 0 < q
        · simp only [if_pos c4, if_true, Bool.false_eq_true, if_false]
          refine ⟨trivial, by omega, by omega, by omega, by omega, by omega, ?_⟩
          rw [if_pos (by omega)]; omega
        · simp only [if_neg c4, if_true, Bool.false_eq_true, if_false]
          refine ⟨trivial, by omega, by omega, by omega, by omega, by omega, ?_⟩
          rw [if_neg (by omega)]; omega

end Go.Proofs.Ytljnadoodbninaa.Fb
namespace Go.Proofs.Ytljnadoodbninaa.Fb
open Go.Proofs.Ytljnadoodbninaa
open Go.RowKit

/-- What Place tells of a pattern. -/
def IsPl64 (b : Nat) (p : Int) (o : Bool) : Prop := o = !Vg.nn true b ∧ p = if Vg.nn true b then 0 else Vg.pl true b
theorem IsPl64.same {b : Nat} {p q : Int} {o u : Bool} (h : IsPl64 b p o) (k : IsPl64 b q u) : p = q ∧ o = u := ⟨h.2.trans k.2.symm, h.1.trans k.1.symm⟩

theorem IsPl64.of {b : Nat} {k : Int} {s : Bool} {g x : Int} (h : Num64 b k s g x) (hb : b ≤ 18446744073709551615) :
    k = 2 ∧ IsPl64 b 0 false ∨ k = 1 ∧ IsPl64 b (if s then -9218868437227405312 else 9218868437227405312) true ∨
    k = 0 ∧ 0 ≤ g ∧ g < 2 * 4503599627370496 ∧ -1074 ≤ x ∧ x ≤ 971 ∧ IsPl64 b (if s then -(g + (x - (-1074)) * 4503599627370496) else g + (x - (-1074)) * 4503599627370496) true := by
  obtain ⟨h1, h2, h3, h4⟩ := h
  obtain ⟨hr, -⟩ := sign64 b hb
  subst h1 h2 h3 h4
  unfold IsPl64 kd64 sg64 ex64 Vg.pl
  simp only [Vg.nn, Vg.INF, if_true, decide_eq_true_eq]
  generalize Vg.rg true b = r at *
  generalize hq : (r : Int) / 4503599627370496 = q
  generalize ht : (r : Int) % 4503599627370496 = t
  have h0 : (r : Int) = 4503599627370496 * q + t := by omega
  have t0 : 0 ≤ t ∧ t < 4503599627370496 := by omega
  clear hq ht
  cases Vg.ng true b
  all_goals
    by_cases c1 : q = 2047
    · by_cases c2 : t = 0
      · right; left
        have d1 : ¬ 9218868437227405312 < r := by omega
        simp only [if_pos c1, if_pos c2, if_neg d1, if_true, Bool.false_eq_true, if_false, decide_eq_false d1, Bool.not_false, true_and]
        omega
      · left
        have d1 : 9218868437227405312 < r := by omega
        simp only [if_pos c1, if_neg c2, if_pos d1, decide_eq_true d1, Bool.not_true, true_and]
    · have d1 : ¬ 9218868437227405312 < r := by omega
      right; right
      simp only [if_neg c1, if_neg d1, if_true, Bool.false_eq_true, if_false, decide_eq_false d1, Bool.not_false, true_and]
      by_cases c4 : 0 < q
      · simp only [if_pos c4]; omega
      · simp only [if_neg c4]; omega

/-- What Place tells of a pattern. -/
def IsPl32 (b : Nat) (p : Int) (o : Bool) : Prop := o = !Vg.nn false b ∧ p = if Vg.nn false b then 0 else Vg.pl false b
theorem IsPl32.same {b : Nat} {p q : Int} {o u : Bool} (h : IsPl32 b p o) (k : IsPl32 b q u) : p = q ∧ o = u := ⟨h.2.trans k.2.symm, h.1.trans k.1.symm⟩

theorem IsPl32.of {b : Nat} {k : Int} {s : Bool} {g x : Int} (h : Num32 b k s g x) (hb : b ≤ 4294967295) :
    k = 2 ∧ IsPl32 b 0 false ∨ k = 1 ∧ IsPl32 b (if s then -2139095040 else 2139095040) true ∨
    k = 0 ∧ 0 ≤ g ∧ g < 2 * 8388608 ∧ -149 ≤ x ∧ x ≤ 104 ∧ IsPl32 b (if s then -(g + (x - (-149)) * 8388608) else g + (x - (-149)) * 8388608) true := by
  obtain ⟨h1, h2, h3, h4⟩ := h
  obtain ⟨hr, -⟩ := sign32 b hb
  subst h1 h2 h3 h4
  unfold IsPl32 kd32 sg32 ex32 Vg.pl
  simp only [Vg.nn, Vg.INF, Bool.false_eq_true, if_false, decide_eq_true_eq]
  generalize Vg.rg false b = r at *
  generalize hq : (r : Int) / 8388608 = q
  generalize ht : (r : Int) % 8388608 = t
  have h0 : (r : Int) = 8388608 * q + t := by omega
  have t0 : 0 ≤ t ∧ t < 8388608 := by omega
  clear hq ht
  cases Vg.ng false b
  all_goals
    by_cases c1 : q = 255
    · by_cases c2 : t = 0
      · right; left
        have d1 : ¬ 2139095040 < r := by omega
        simp only [if_pos c1, if_pos c2, if_neg d1, if_true, Bool.false_eq_true, if_false, decide_eq_false d1, Bool.not_false, true_and]
        omega
      · left
        have d1 : 2139095040 < r := by omega
        simp only [if_pos c1, if_neg c2, if_pos d1, decide_eq_true d1, Bool.not_true, true_and]
    · have d1 : ¬ 2139095040 < r := by omega
      right; right
      simp only [if_neg c1, if_neg d1, if_true, Bool.false_eq_true, if_false, decide_eq_false d1, Bool.not_false, true_and]
      by_cases c4 : 0 < q
      · simp only [if_pos c4]; omega
      · simp only [if_neg c4]; omega

set_option maxHeartbeats 1000000 in
theorem place64 (b : Nat) (hb : b ≤ 18446744073709551615) (w : World) : Calls Try.prog 89 #[.float .f64 b] w fun e w' => ∃ p o, e = .returned (.tuple #[.int .i64 p, .bool o]) ∧ IsPl64 b p o ∧ Below w.heap.size w w' := by
  have h1 := self_ne64 b hb
  by_cases hn : Vg.nn true b = true
  · rw [hn] at h1
    have HN := hide hn
    clear hn
    go_enter Try.func89, Try.ntmps89
    go_wp2
    go_ret2
    exact ⟨_, _, rfl, ⟨by rw [HN.out]; rfl, by rw [HN.out]; rfl⟩, Below.refl _ _⟩
  · have hn' : Vg.nn true b = false := by simpa using hn
    rw [hn'] at h1
    have hr : Vg.rg true b ≤ 9218868437227405312 := by
      simp only [Vg.nn, Vg.INF, if_true, decide_eq_true_eq] at hn
      omega
    have e1 := Vg.andNot64 b hb
    have e2 := Vg.andSign64 b hb
    have HP : Hid (IsPl64 b (if Vg.ng true b = true then -(Vg.rg true b : Int) else Vg.rg true b) true) := ⟨by rw [hn']; rfl, by rw [hn']; rfl⟩
    clear hn hn'
    generalize Vg.rg true b = r at *
    generalize Vg.ng true b = s at *
    cases s
    all_goals
      go_enter Try.func89, Try.ntmps89
      go_wp2_with (first | (go_at_call 112; refine (format64 _).mono ?_; rintro e w' ⟨rfl, hb1⟩) | (go_at_call 113; refine (pattern64 _ hb _).mono ?_; rintro e w' ⟨rfl, rfl⟩))
      go_ret2
      exact ⟨_, _, rfl, HP.out, hb1.alloc hb1.size _⟩

set_option maxHeartbeats 1000000 in
theorem rplace64 (b : Nat) (hb : b ≤ 18446744073709551615) (w : World) : Calls Try.prog 91 #[.bool true, .int .u64 b] w fun e w' => ∃ p o, e = .returned (.tuple #[.int .i64 p, .bool o]) ∧ IsPl64 b p o ∧ Below w.heap.size w w' := by
  have HB := hide hb
  clear hb
  go_enter Try.func91, Try.ntmps91
  go_wp2_with fail
  refine (of64 _ HB.out _).mono ?_; rintro e w' ⟨k, s, g, x, rfl, hn, hb1⟩
  have hc := IsPl64.of hn HB.out
  clear hn
  rcases hc with ⟨rfl, hp⟩ | ⟨rfl, hp⟩ | ⟨rfl, g0, g1, x0, x1, hp⟩
  · have HP := hide hp
    clear hp
    go_wp2
    go_ret2
    exact ⟨_, _, rfl, HP.out, hb1.alloc hb1.size _⟩
  · have HP := hide hp
    clear hp
    cases s
    all_goals
      go_wp2_with (first | (go_at_call 116; refine (full_64 _).mono ?_; rintro e w' ⟨rfl, rfl⟩) | (go_at_call 117; refine (top_64 _).mono ?_; rintro e w' ⟨rfl, rfl⟩) | (go_at_call 118; refine (least_64 _).mono ?_; rintro e w' ⟨rfl, rfl⟩))
      go_ret2
      exact ⟨_, _, rfl, HP.out, hb1.alloc hb1.size _⟩
  · have HP := hide hp
    clear hp
    cases s
    all_goals
      go_wp2_with (first | (go_at_call 116; refine (full_64 _).mono ?_; rintro e w' ⟨rfl, rfl⟩) | (go_at_call 117; refine (top_64 _).mono ?_; rintro e w' ⟨rfl, rfl⟩) | (go_at_call 118; refine (least_64 _).mono ?_; rintro e w' ⟨rfl, rfl⟩))
      go_quiet ((go_at_call 118; exact quiet_left (least_64 _)))
      go_wp2
      go_ret2
      exact ⟨_, _, rfl, HP.out, below_drewN (hb1.alloc hb1.size _) _⟩

set_option maxHeartbeats 1000000 in
theorem rplace32 (b : Nat) (hb : b ≤ 4294967295) (w : World) : Calls Try.prog 91 #[.bool false, .int .u64 b] w fun e w' => ∃ p o, e = .returned (.tuple #[.int .i64 p, .bool o]) ∧ IsPl32 b p o ∧ Below w.heap.size w w' := by
  have HB := hide hb
  clear hb
  go_enter Try.func91, Try.ntmps91
  go_wp2_with fail
  refine (of32 _ HB.out _).mono ?_; rintro e w' ⟨k, s, g, x, rfl, hn, hb1⟩
  have hc := IsPl32.of hn HB.out
  clear hn
  rcases hc with ⟨rfl, hp⟩ | ⟨rfl, hp⟩ | ⟨rfl, g0, g1, x0, x1, hp⟩
  · have HP := hide hp
    clear hp
    go_wp2
    go_ret2
    exact ⟨_, _, rfl, HP.out, hb1.alloc hb1.size _⟩
  · have HP := hide hp
    clear hp
    cases s
    all_goals
      go_wp2_with (first | (go_at_call 116; refine (full_32 _).mono ?_; rintro e w' ⟨rfl, rfl⟩) | (go_at_call 117; refine (top_32 _).mono ?_; rintro e w' ⟨rfl, rfl⟩) | (go_at_call 118; refine (least_32 _).mono ?_; rintro e w' ⟨rfl, rfl⟩))
      go_ret2
      exact ⟨_, _, rfl, HP.out, hb1.alloc hb1.size _⟩
  · have HP := hide hp
    clear hp
    cases s
    all_goals
      go_wp2_with (first | (go_at_call 116; refine (full_32 _).mono ?_; rintro e w' ⟨rfl, rfl⟩) | (go_at_call 117; refine (top_32 _).mono ?_; rintro e w' ⟨rfl, rfl⟩) | (go_at_call 118; refine (least_32 _).mono ?_; rintro e w' ⟨rfl, rfl⟩))
      go_quiet ((go_at_call 118; exact quiet_left (least_32 _)))
      go_wp2
      go_ret2
      exact ⟨_, _, rfl, HP.out, below_drewN (hb1.alloc hb1.size _) _⟩

end Go.Proofs.Ytljnadoodbninaa.Fb
namespace Go.Proofs.Ytljnadoodbninaa.Fb
open Go.Proofs.Ytljnadoodbninaa
open Go.RowKit

/-- A number and a truth are told, and nothing that was there has changed. -/
def Told2 (R : Int → Bool → Prop) (w : World) (e : Ending) (w' : World) : Prop := ∃ d o, e = .returned (.tuple #[.int .i64 d, .bool o]) ∧ R d o ∧ Below w.heap.size w w'

/-- What Steps makes of two places. -/
def StV (p : Int) (u : Bool) (q : Int) (v : Bool) (d : Int) (o : Bool) : Prop :=
  (u && v) = false ∧ d = 0 ∧ o = false ∨ (u && v) = true ∧ (-9223372036854775808 ≤ q - p ∧ q - p ≤ 9223372036854775807) ∧ d = q - p ∧ o = true ∨ (u && v) = true ∧ ¬ (-9223372036854775808 ≤ q - p ∧ q - p ≤ 9223372036854775807) ∧ d = 0 ∧ o = false
theorem StV.same {p q d e : Int} {u v o r : Bool} (h : StV p u q v d o) (k : StV p u q v e r) : d = e ∧ o = r := by
  rcases h with ⟨h1, rfl, rfl⟩ | ⟨h1, h2, rfl, rfl⟩ | ⟨h1, h2, rfl, rfl⟩ <;> rcases k with ⟨k1, rfl, rfl⟩ | ⟨k1, k2, rfl, rfl⟩ | ⟨k1, k2, rfl, rfl⟩ <;> simp_all

def IsSt64 (a b : Nat) (d : Int) (o : Bool) : Prop := ∃ p u q v, IsPl64 a p u ∧ IsPl64 b q v ∧ StV p u q v d o
theorem IsSt64.same {a b : Nat} {d e : Int} {o r : Bool} (h : IsSt64 a b d o) (k : IsSt64 a b e r) : d = e ∧ o = r := by
  obtain ⟨p, u, q, v, h1, h2, h3⟩ := h
  obtain ⟨p', u', q', v', k1, k2, k3⟩ := k
  obtain ⟨rfl, rfl⟩ := h1.same k1
  obtain ⟨rfl, rfl⟩ := h2.same k2
  exact h3.same k3
theorem IsPl64.bd {b : Nat} {p : Int} {o : Bool} (h : IsPl64 b p o) : -9218868437227405312 ≤ p ∧ p ≤ 9218868437227405312 := by
  obtain ⟨-, h⟩ := h
  subst h
  simp only [Vg.nn, Vg.INF, Vg.pl, if_true, decide_eq_true_eq]
  (repeat' split) <;> omega

def IsSt32 (a b : Nat) (d : Int) (o : Bool) : Prop := ∃ p u q v, IsPl32 a p u ∧ IsPl32 b q v ∧ StV p u q v d o
theorem IsSt32.same {a b : Nat} {d e : Int} {o r : Bool} (h : IsSt32 a b d o) (k : IsSt32 a b e r) : d = e ∧ o = r := by
  obtain ⟨p, u, q, v, h1, h2, h3⟩ := h
  obtain ⟨p', u', q', v', k1, k2, k3⟩ := k
  obtain ⟨rfl, rfl⟩ := h1.same k1
  obtain ⟨rfl, rfl⟩ := h2.same k2
  exact h3.same k3
theorem IsPl32.bd {b : Nat} {p : Int} {o : Bool} (h : IsPl32 b p o) : -2139095040 ≤ p ∧ p ≤ 2139095040 := by
  obtain ⟨-, h⟩ := h
  subst h
  simp only [Vg.nn, Vg.INF, Vg.pl, Bool.false_eq_true, if_false, decide_eq_true_eq]
  (repeat' split) <;> omega

end Go.Proofs.Ytljnadoodbninaa.Fb
namespace Go.Proofs.Ytljnadoodbninaa.Fb
open Go.Proofs.Ytljnadoodbninaa
open Go.RowKit

/-- A pattern and a truth are told, and nothing that was there has changed. -/
def ToldU (R : Int → Bool → Prop) (w : World) (e : Ending) (w' : World) : Prop := ∃ z o, e = .returned (.tuple #[.int .u64 z, .bool o]) ∧ R z o ∧ Below w.heap.size w w'
/-- A number and a truth are told, and nothing that was there has changed. -/
def ToldF (k : FloatKind) (R : Int → Bool → Prop) (w : World) (e : Ending) (w' : World) : Prop := ∃ z o, e = .returned (.tuple #[.float k (Int.toNat z), .bool o]) ∧ R z o ∧ Below w.heap.size w w'

/-- What At tells of a place. -/
def IsAt64 (p : Int) (z : Int) (o : Bool) : Prop := (-9218868437227405312 ≤ p ∧ p ≤ 9218868437227405312) ∧ o = true ∧ z = (if p < 0 then 9223372036854775808 - p else p) ∨ ¬ (-9218868437227405312 ≤ p ∧ p ≤ 9218868437227405312) ∧ o = false ∧ z = 0
theorem IsAt64.same {p y z : Int} {o u : Bool} (h : IsAt64 p y o) (k : IsAt64 p z u) : y = z ∧ o = u := by
  rcases h with ⟨h1, rfl, rfl⟩ | ⟨h1, rfl, rfl⟩ <;> rcases k with ⟨k1, rfl, rfl⟩ | ⟨k1, rfl, rfl⟩
  · exact ⟨rfl, rfl⟩
  · exact absurd h1 k1
  · exact absurd k1 h1
  · exact ⟨rfl, rfl⟩
theorem IsAt64.bd {p z : Int} {o : Bool} (h : IsAt64 p z o) : 0 ≤ z ∧ z ≤ 18446744073709551615 ∧ Vg.nn true z.toNat = false := by
  have e : Vg.nn true z.toNat = false ↔ ¬ 9218868437227405312 < z.toNat % 9223372036854775808 := by simp only [Vg.nn, Vg.rg, Vg.S, Vg.INF, if_true, decide_eq_false_iff_not]
  rw [e]
  rcases h with ⟨h1, -, rfl⟩ | ⟨h1, -, rfl⟩
  · split <;> omega
  · omega
theorem IsAt64.ok {p z : Int} {o : Bool} (h : IsAt64 p z o) : IsOk64 z.toNat z := by
  have := h.bd
  exact ⟨by omega, by omega, by omega, .inr ⟨this.2.2, by omega⟩⟩

/-- What At tells of a place. -/
def IsAt32 (p : Int) (z : Int) (o : Bool) : Prop := (-2139095040 ≤ p ∧ p ≤ 2139095040) ∧ o = true ∧ z = (if p < 0 then 2147483648 - p else p) ∨ ¬ (-2139095040 ≤ p ∧ p ≤ 2139095040) ∧ o = false ∧ z = 0
theorem IsAt32.same {p y z : Int} {o u : Bool} (h : IsAt32 p y o) (k : IsAt32 p z u) : y = z ∧ o = u := by
  rcases h with ⟨h1, rfl, rfl⟩ | ⟨h1, rfl, rfl⟩ <;> rcases k with ⟨k1, rfl, rfl⟩ | ⟨k1, rfl, rfl⟩
  · exact ⟨rfl, rfl⟩
  · exact absurd h1 k1
  · exact absurd k1 h1
  · exact ⟨rfl, rfl⟩
theorem IsAt32.bd {p z : Int} {o : Bool} (h : IsAt32 p z o) : 0 ≤ z ∧ z ≤ 4294967295 ∧ Vg.nn false z.toNat = false := by
  have e : Vg.nn false z.toNat = false ↔ ¬ 2139095040 < z.toNat % 2147483648 := by simp only [Vg.nn, Vg.rg, Vg.S, Vg.INF, Bool.false_eq_true, if_false, decide_eq_false_iff_not]
  rw [e]
  rcases h with ⟨h1, -, rfl⟩ | ⟨h1, -, rfl⟩
  · split <;> omega
  · omega
theorem IsAt32.ok {p z : Int} {o : Bool} (h : IsAt32 p z o) : IsOk32 z.toNat z := by
  have := h.bd
  exact ⟨by omega, by omega, by omega, .inr ⟨this.2.2, by omega⟩⟩

set_option maxHeartbeats 1000000 in
theorem at64 (p : Int) (hp : -9223372036854775808 ≤ p ∧ p ≤ 9223372036854775807) (w : World) : Calls Try.prog 90 #[.int .i64 p] w (ToldF .f64 (IsAt64 p) w) := by
  by_cases h1 : -9218868437227405312 ≤ p ∧ p ≤ 9218868437227405312
  · have t1 : decide (9218868437227405312 < p) = false := decide_eq_false (by omega)
    have t2 : decide (p < -9218868437227405312) = false := decide_eq_false (by omega)
    by_cases h2 : p < 0
    · have HR := hide (show IsAt64 p (9223372036854775808 - p) true from .inl ⟨h1, rfl, by rw [if_pos h2]⟩)
      obtain ⟨m, hm⟩ : ∃ m : Nat, p = -(m : Int) := ⟨(-p).toNat, by omega⟩
      have hm1 : m ≤ 9223372036854775807 := by omega
      have e1 := Vg.orSign64 m hm1
      have t3 : decide (p < 0) = true := decide_eq_true h2
      have e2 : IntKind.u64.wrap (-p) = (m : Int) := by rw [IntKind.wrap_u64]; omega
      have e3 : wrap64 (-p) = (m : Int) := by unfold wrap64; omega
      have e4 : -p = (m : Int) := by omega
      have HR2 := hide (show IsAt64 p ((m : Int) + 9223372036854775808) true by have := HR.out; rwa [show (9223372036854775808 : Int) - p = (m : Int) + 9223372036854775808 by omega] at this)
      clear h1 h2 hp hm HR
      go_enter Try.func90, Try.ntmps90
      go_wp2_with (first | (go_at_call 112; refine (format64 _).mono ?_; rintro e w' ⟨rfl, hb1⟩))
      refine (number64 _ (by omega) (by omega) _).mono ?_; rintro e w2 ⟨rfl, rfl⟩
      go_wp2
      go_ret2
      exact ⟨_, _, rfl, HR2.out, hb1.alloc hb1.size _⟩
    · have HR := hide (show IsAt64 p p true from .inl ⟨h1, rfl, by rw [if_neg h2]⟩)
      have t3 : decide (p < 0) = false := decide_eq_false h2
      have p0 : 0 ≤ p := by omega
      have p1 : p ≤ 9218868437227405312 := by omega
      clear h1 h2 hp
      go_enter Try.func90, Try.ntmps90
      go_wp2_with (first | (go_at_call 112; refine (format64 _).mono ?_; rintro e w' ⟨rfl, hb1⟩))
      refine (number64 _ (by omega) (by omega) _).mono ?_; rintro e w2 ⟨rfl, rfl⟩
      go_wp2
      go_ret2
      exact ⟨_, _, rfl, HR.out, hb1.alloc hb1.size _⟩
  · have HR := hide (show IsAt64 p 0 false from .inr ⟨h1, rfl, rfl⟩)
    by_cases h2 : 9218868437227405312 < p
    · have t1 : decide (9218868437227405312 < p) = true := decide_eq_true h2
      clear h1 h2 hp
      go_enter Try.func90, Try.ntmps90
      go_wp2_with (first | (go_at_call 112; refine (format64 _).mono ?_; rintro e w' ⟨rfl, hb1⟩))
      go_ret2
      exact ⟨_, _, rfl, HR.out, hb1.alloc hb1.size _⟩
    · have t1 : decide (9218868437227405312 < p) = false := decide_eq_false h2
      have t2 : decide (p < -9218868437227405312) = true := decide_eq_true (by omega)
      clear h1 h2 hp
      go_enter Try.func90, Try.ntmps90
      go_wp2_with (first | (go_at_call 112; refine (format64 _).mono ?_; rintro e w' ⟨rfl, hb1⟩))
      go_ret2
      exact ⟨_, _, rfl, HR.out, hb1.alloc hb1.size _⟩

end Go.Proofs.Ytljnadoodbninaa.Fb
namespace Go.Proofs.Ytljnadoodbninaa.Fb
open Go.Proofs.Ytljnadoodbninaa
open Go.RowKit

theorem run_neg_float (k : FloatKind) (b c : Nat) (h : Op.negFloat k b = c) (w : World) : (Op.unary UnOp.neg (Value.float k b)).run Try.prog w = .ok (.float k c) w := by
  rw [← h]; rfl

/-- A number is told, and nothing that was there has changed. -/
def Told1F (k : FloatKind) (R : Nat → Prop) (w : World) (e : Ending) (w' : World) : Prop := ∃ y, e = .returned (.float k y) ∧ R y ∧ Below w.heap.size w w'
def Told1U (R : Int → Prop) (w : World) (e : Ending) (w' : World) : Prop := ∃ y, e = .returned (.int .u64 y) ∧ R y ∧ Below w.heap.size w w'

def IsUp64 (b y : Nat) : Prop := y = Vg.up true b
def IsDn64 (b y : Nat) : Prop := y ≤ 18446744073709551615 ∧ Vg.nn true y = Vg.nn true b ∧ (Vg.nn true b = false → y = Vg.dn true b)
def RUp64 (b : Nat) (z : Int) : Prop := z = (Vg.up true b : Int)
def RDn64 (b : Nat) (z : Int) : Prop := z = (Vg.dn true b : Int)

theorem IsAt64.atn {p z : Int} (h : IsAt64 p z true) : z.toNat = Vg.atn true p ∧ z = (Vg.atn true p : Int) := by
  rcases h with ⟨h1, -, rfl⟩ | ⟨h1, h2, -⟩
  · simp only [Vg.atn, Vg.S, if_true]; split <;> omega
  · cases h2
theorem up_nan64 {b : Nat} {p : Int} (h : IsPl64 b p false) : IsUp64 b b ∧ RUp64 b b ∧ RDn64 b b := by
  have hn : Vg.nn true b = true := by have := h.1; revert this; cases Vg.nn true b <;> simp
  unfold IsUp64 RUp64 RDn64 Vg.up Vg.dn; rw [if_pos hn, if_pos hn]; exact ⟨rfl, rfl, rfl⟩
theorem IsPl64.num {b : Nat} {p : Int} (h : IsPl64 b p true) : Vg.nn true b = false ∧ Vg.pl true b = p := by
  have hn : Vg.nn true b = false := by have := h.1; revert this; cases Vg.nn true b <;> simp
  refine ⟨hn, ?_⟩
  have := h.2; rw [hn] at this; exact this.symm
theorem up_yes64 {b : Nat} {p z : Int} (h : IsPl64 b p true) (k : IsAt64 (p + 1) z true) : IsUp64 b z.toNat ∧ RUp64 b z := by
  obtain ⟨hn, hp⟩ := h.num
  have a := k.atn
  have hb : p ≠ 9218868437227405312 := by rcases k with ⟨h1, h2, -⟩ | ⟨h1, h2, -⟩ <;> first | (cases h2; done) | omega
  unfold IsUp64 RUp64 Vg.up
  rw [hn, hp, if_neg (by simp), if_neg (by simp only [Vg.INF, if_true]; omega)]
  exact a
theorem up_no64 {b : Nat} {p z : Int} (h : IsPl64 b p true) (k : IsAt64 (p + 1) z false) : IsUp64 b b ∧ RUp64 b b := by
  obtain ⟨hn, hp⟩ := h.num
  have q := h.bd
  have hb : p = 9218868437227405312 := by rcases k with ⟨h1, h2, -⟩ | ⟨h1, h2, -⟩ <;> first | (cases h2; done) | omega
  unfold IsUp64 RUp64 Vg.up
  rw [hn, hp, if_neg (by simp), if_pos (by simp only [Vg.INF, if_true]; omega)]
  exact ⟨rfl, rfl⟩
theorem dn_yes64 {b : Nat} {p z : Int} (h : IsPl64 b p true) (k : IsAt64 (p - 1) z true) : RDn64 b z := by
  obtain ⟨hn, hp⟩ := h.num
  have a := k.atn
  have hb : p ≠ -9218868437227405312 := by rcases k with ⟨h1, h2, -⟩ | ⟨h1, h2, -⟩ <;> first | (cases h2; done) | omega
  unfold RDn64 Vg.dn
  rw [hn, hp, if_neg (by simp), if_neg (by simp only [Vg.INF, if_true]; omega)]
  exact a.2
theorem dn_no64 {b : Nat} {p z : Int} (h : IsPl64 b p true) (k : IsAt64 (p - 1) z false) : RDn64 b b := by
  obtain ⟨hn, hp⟩ := h.num
  have q := h.bd
  have hb : p = -9218868437227405312 := by rcases k with ⟨h1, h2, -⟩ | ⟨h1, h2, -⟩ <;> first | (cases h2; done) | omega
  unfold RDn64 Vg.dn
  rw [hn, hp, if_neg (by simp), if_pos (by simp only [Vg.INF, if_true]; omega)]

def IsUp32 (b y : Nat) : Prop := y = Vg.up false b
def IsDn32 (b y : Nat) : Prop := y ≤ 4294967295 ∧ Vg.nn false y = Vg.nn false b ∧ (Vg.nn false b = false → y = Vg.dn false b)
def RUp32 (b : Nat) (z : Int) : Prop := z = (Vg.up false b : Int)
def RDn32 (b : Nat) (z : Int) : Prop := z = (Vg.dn false b : Int)

theorem IsAt32.atn {p z : Int} (h : IsAt32 p z true) : z.toNat = Vg.atn false p ∧ z = (Vg.atn false p : Int) := by
  rcases h with ⟨h1, -, rfl⟩ | ⟨h1, h2, -⟩
  · simp only [Vg.atn, Vg.S, Bool.false_eq_true, if_false]; split <;> omega
  · cases h2
theorem up_nan32 {b : Nat} {p : Int} (h : IsPl32 b p false) : IsUp32 b b ∧ RUp32 b b ∧ RDn32 b b := by
  have hn : Vg.nn false b = true := by have := h.1; revert this; cases Vg.nn false b <;> simp
  unfold IsUp32 RUp32 RDn32 Vg.up Vg.dn; rw [if_pos hn, if_pos hn]; exact ⟨rfl, rfl, rfl⟩
theorem IsPl32.num {b : Nat} {p : Int} (h : IsPl32 b p true) : Vg.nn false b = false ∧ Vg.pl false b = p := by
  have hn : Vg.nn false b = false := by have := h.1; revert this; cases Vg.nn false b <;> simp
  refine ⟨hn, ?_⟩
  have := h.2; rw [hn] at this; exact this.symm
theorem up_yes32 {b : Nat} {p z : Int} (h : IsPl32 b p true) (k : IsAt32 (p + 1) z true) : IsUp32 b z.toNat ∧ RUp32 b z := by
  obtain ⟨hn, hp⟩ := h.num
  have a := k.atn
  have hb : p ≠ 2139095040 := by rcases k with ⟨h1, h2, -⟩ | ⟨h1, h2, -⟩ <;> first | (cases h2; done) | omega
  unfold IsUp32 RUp32 Vg.up
  rw [hn, hp, if_neg (by simp), if_neg (by simp only [Vg.INF, Bool.false_eq_true, if_false]; omega)]
  exact a
theorem up_no32 {b : Nat} {p z : Int} (h : IsPl32 b p true) (k : IsAt32 (p + 1) z false) : IsUp32 b b ∧ RUp32 b b := by
  obtain ⟨hn, hp⟩ := h.num
  have q := h.bd
  have hb : p = 2139095040 := by rcases k with ⟨h1, h2, -⟩ | ⟨h1, h2, -⟩ <;> first | (cases h2; done) | omega
  unfold IsUp32 RUp32 Vg.up
  rw [hn, hp, if_neg (by simp), if_pos (by simp only [Vg.INF, Bool.false_eq_true, if_false]; omega)]
  exact ⟨rfl, rfl⟩
theorem dn_yes32 {b : Nat} {p z : Int} (h : IsPl32 b p true) (k : IsAt32 (p - 1) z true) : RDn32 b z := by
  obtain ⟨hn, hp⟩ := h.num
  have a := k.atn
  have hb : p ≠ -2139095040 := by rcases k with ⟨h1, h2, -⟩ | ⟨h1, h2, -⟩ <;> first | (cases h2; done) | omega
  unfold RDn32 Vg.dn
  rw [hn, hp, if_neg (by simp), if_neg (by simp only [Vg.INF, Bool.false_eq_true, if_false]; omega)]
  exact a.2
theorem dn_no32 {b : Nat} {p z : Int} (h : IsPl32 b p true) (k : IsAt32 (p - 1) z false) : RDn32 b b := by
  obtain ⟨hn, hp⟩ := h.num
  have q := h.bd
  have hb : p = -2139095040 := by rcases k with ⟨h1, h2, -⟩ | ⟨h1, h2, -⟩ <;> first | (cases h2; done) | omega
  unfold RDn32 Vg.dn
  rw [hn, hp, if_neg (by simp), if_pos (by simp only [Vg.INF, Bool.false_eq_true, if_false]; omega)]

set_option maxHeartbeats 1000000 in
theorem nextup64 (b : Nat) (hb : b ≤ 18446744073709551615) (w : World) : Calls Try.prog 87 #[.float .f64 b] w (Told1F .f64 (IsUp64 b) w) := by
  have HB := hide hb
  clear hb
  go_enter Try.func87, Try.ntmps87
  go_wp2_with fail
  refine (place64 b HB.out _).mono ?_; rintro e w1 ⟨p, o, rfl, h1, hb1⟩
  cases o
  · have HR := hide (up_nan64 h1)
    clear h1
    go_wp2
    go_ret
    exact ⟨_, rfl, HR.out.1, hb1⟩
  · have pb := h1.bd
    have H1 := hide h1
    clear h1
    go_wp2_with fail
    refine (at64 (p + 1) (by omega) _).mono ?_; rintro e w2 ⟨z, u, rfl, h2, hb2⟩
    cases u
    · have HR := hide (up_no64 H1.out h2)
      clear h2
      go_wp2
      go_ret
      exact ⟨_, rfl, HR.out.1, bch hb1 hb2⟩
    · have HR := hide (up_yes64 H1.out h2)
      clear h2
      go_wp2
      go_ret
      exact ⟨_, rfl, HR.out.1, bch hb1 hb2⟩

end Go.Proofs.Ytljnadoodbninaa.Fb

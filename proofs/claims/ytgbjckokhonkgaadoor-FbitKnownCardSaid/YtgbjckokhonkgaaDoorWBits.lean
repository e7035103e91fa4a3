/- Contracts of the reference's Bits and IsNaN, and of the law's own comparison with a pattern. -/
import Derived.Test.YtgbjckokhonkgaaDoorWRef
namespace Go.Proofs.YtgbjckokhonkgaaDoor
open Go.RowKit

theorem field90 (k : Int) (s : Bool) (g x : Int) (w : World) : (Instr.field 57 (.agg #[.int .i64 k, .bool s, .int .u64 g, .int .i64 x]) 0).run Tryd.prog w = .ok (.int .i64 k) w := by kernel_rfl

theorem ret_int {k : IntKind} {a b : Int} (h : a = b) : Ending.returned (.int k a) = .returned (.int k b) := by rw [h]
theorem ret_bool {a b : Bool} (h : a = b) : Ending.returned (.bool a) = .returned (.bool b) := by rw [h]

/-- A sign ahead of a rung. -/
def sn64 (s : Bool) (r : Int) : Int := if s then r + 9223372036854775808 else r
/-- The rung of a significand and an exponent. -/
def fi64 (sig exp : Int) : Int := if 4503599627370496 ≤ sig then (exp - (-1074) + 1) * 4503599627370496 + sig - 4503599627370496 else sig

theorem kd_nn64 (b : Nat) : (kd64 (Vg.rg true b) == 2) = Vg.nn true b := by
  have hr : Vg.rg true b ≤ 9223372036854775807 := by simp only [Vg.rg, Vg.S, if_true]; omega
  simp only [Vg.nn, Vg.INF, if_true]
  rw [Bool.eq_iff_iff, beq_iff_eq, decide_eq_true_iff]
  unfold kd64
  (repeat' split) <;> omega

theorem Num64.nan {b : Nat} {k : Int} {s : Bool} {g x : Int} (h : Num64 b k s g x) : (k == 2) = Vg.nn true b := by rw [h.1]; exact kd_nn64 b

set_option maxHeartbeats 1000000 in
theorem isnan64 (b : Nat) (hb : b ≤ 18446744073709551615) (n : Bool) (hn : Vg.nn true b = n) (w : World) : Calls Tryd.prog 26 #[.bool true, .int .u64 b] w fun e w' => e = .returned (.bool n) ∧ Below w.heap.size w w' := by
  have HB := hide hb
  clear hb
  have HN := hide hn
  clear hn
  go_enter Tryd.func26, Tryd.ntmps26
  go_wp2_with fail
  refine (of64 _ HB.out _).mono ?_; rintro e w' ⟨k, s, g, x, rfl, hn, hb1⟩
  have hfd := field90 k s g x
  go_wp2
  go_ret
  exact ⟨ret_bool (by rw [hn.nan, HN.out]), hb1⟩

/-- A sign ahead of a rung. -/
def sn32 (s : Bool) (r : Int) : Int := if s then r + 2147483648 else r
/-- The rung of a significand and an exponent. -/
def fi32 (sig exp : Int) : Int := if 8388608 ≤ sig then (exp - (-149) + 1) * 8388608 + sig - 8388608 else sig

theorem kd_nn32 (b : Nat) : (kd32 (Vg.rg false b) == 2) = Vg.nn false b := by
  have hr : Vg.rg false b ≤ 2147483647 := by simp only [Vg.rg, Vg.S, Bool.false_eq_true, if_false]; omega
  simp only [Vg.nn, Vg.INF, Bool.false_eq_true, if_false]
  rw [Bool.eq_iff_iff, beq_iff_eq, decide_eq_true_iff]
  unfold kd32
  (repeat' split) <;> omega

theorem Num32.nan {b : Nat} {k : Int} {s : Bool} {g x : Int} (h : Num32 b k s g x) : (k == 2) = Vg.nn false b := by rw [h.1]; exact kd_nn32 b

set_option maxHeartbeats 1000000 in
theorem isnan32 (b : Nat) (hb : b ≤ 4294967295) (n : Bool) (hn : Vg.nn false b = n) (w : World) : Calls Tryd.prog 26 #[.bool false, .int .u64 b] w fun e w' => e = .returned (.bool n) ∧ Below w.heap.size w w' := by
  have HB := hide hb
  clear hb
  have HN := hide hn
  clear hn
  go_enter Tryd.func26, Tryd.ntmps26
  go_wp2_with fail
  refine (of32 _ HB.out _).mono ?_; rintro e w' ⟨k, s, g, x, rfl, hn, hb1⟩
  have hfd := field90 k s g x
  go_wp2
  go_ret
  exact ⟨ret_bool (by rw [hn.nan, HN.out]), hb1⟩

end Go.Proofs.YtgbjckokhonkgaaDoor

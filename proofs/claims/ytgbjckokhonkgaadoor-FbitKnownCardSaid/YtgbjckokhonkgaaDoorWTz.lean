/- Contracts of bits.TrailingZeros64 and bits.Len64. -/
import Derived.Test.YtgbjckokhonkgaaDoorWTool
import Derived.Lib.TrailingZeros
import Derived.Lib.BitFns
import Derived.Lib.Strings
import Derived.Lib.Walk
import Derived.Lib.Small
namespace Go.Proofs.YtgbjckokhonkgaaDoor
open Go.RowKit

/-- The library's table of lowest bits, where it lies. -/
def Tab (w : World) : Prop := ∀ j, j < 64 → w.cell? ⟨1, j, none⟩ = some (.int .u8 (Lib.deBruijn64tab.getD j 0))

theorem tz_key (x a : Nat) (hx : x ≤ 18446744073709551615) (hx0 : 0 < x) (hlow : x &&& (2 ^ 64 - x) = a) :
    IntKind.u64.wrap (bits BinOp.and IntKind.u64 (x : Int) (IntKind.u64.wrap (-(x : Int))) * 285870213051353865) / 288230376151711744 = ((a * 285870213051353865 % 18446744073709551616 / 288230376151711744 : Nat) : Int) := by
  have e1 : IntKind.u64.wrap (-(x : Int)) = ((2 ^ 64 - x : Nat) : Int) := by rw [IntKind.wrap_u64]; omega
  rw [e1, u64_and_nat x _ (by omega) (by omega), hlow, IntKind.wrap_u64]
  omega

set_option maxHeartbeats 1000000 in
theorem tz_core (x k idx : Nat) (w : World) (hx0 : ((x : Int) == 0) = false)
    (key : IntKind.u64.wrap (bits BinOp.and IntKind.u64 (x : Int) (IntKind.u64.wrap (-(x : Int))) * 285870213051353865) / 288230376151711744 = (idx : Int))
    (hi : idx < 64) (hk : k < 64) (hcell : w.cell? ⟨1, idx, none⟩ = some (.int .u8 k)) :
    Calls Tryd.prog 31 #[.int .u64 x] w fun e w' => e = .returned (.int .i64 k) ∧ w' = w := by
  go_enter Tryd.func31, Tryd.ntmps31
  go_wp2_with (simp only [key])
  go_ret
  exact ⟨rfl, rfl⟩
theorem tz (x : Nat) (h0 : 0 < x) (hx : x ≤ 18446744073709551615) (w : World) (hT : Tab w) :
    Calls Tryd.prog 31 #[.int .u64 x] w fun e w' => e = .returned (.int .i64 (Lib.ctz 64 x)) ∧ w' = w := by
  obtain ⟨hlow, hk⟩ := Lib.lowest_bit 64 x (by omega) (by omega)
  obtain ⟨hi, htab⟩ := Lib.deBruijn64_at _ hk
  have hcell := hT _ hi
  rw [htab] at hcell
  exact tz_core x _ _ w (by rw [beq_eq_false_iff_ne]; omega) (tz_key x _ hx h0 hlow) hi hk hcell


theorem ix (y : Int) (h0 : 0 ≤ y) (h1 : y ≤ 255) : ∀ w, (Instr.index 9 (.string Lib.len8tab) (.int .u8 y)).run Tryd.prog w = .ok (.int .u8 (Lib.bitLen y.toNat)) w := fun w => by
  rw [← Lib.len8_of y h0 h1]
  exact Lib.run_index_len8tab w 9 .u8 y Tryd.underlying9 h0 h1

set_option maxHeartbeats 4000000 in
set_option maxRecDepth 100000 in
theorem len_111 (x : Int) (h0 : 72057594037927936 ≤ x) (h1 : x ≤ 18446744073709551615) (w : World) :
    Calls Tryd.prog 32 #[.int .u64 x] w fun e w' => e = .returned (.int .i64 (Lib.bitLen x.toNat)) ∧ w' = w := by
  have t32 : decide (4294967296 ≤ x) = true := decide_eq_true (by omega)
  have t16 : decide (65536 ≤ x / 4294967296) = true := decide_eq_true (by omega)
  have t8 : decide (256 ≤ x / 4294967296 / 65536) = true := decide_eq_true (by omega)
  obtain ⟨y, hy⟩ : ∃ y, x / 4294967296 / 65536 / 256 = y := ⟨_, rfl⟩
  have y0 : 0 ≤ y := by omega
  have y1 : y ≤ 255 := by omega
  have hi := ix y y0 y1
  have l0 := Lib.bitLen_le8' y y0 y1
  have hb : Lib.bitLen x.toNat = 56 + Lib.bitLen y.toNat := by
    rw [show y.toNat = x.toNat / 2 ^ 56 by omega]
    exact Lib.bitLen_shift 56 x.toNat (by omega) (by omega)
  generalize Lib.bitLen y.toNat = L at *
  rw [hb]
  clear hb
  go_enter Tryd.func32, Tryd.ntmps32
  go_wp2
  go_ret
  refine ⟨congrArg Ending.returned (congrArg (Value.int IntKind.i64) ?_), rfl⟩
  first | rfl | omega | (simp; done) | (simp [wrap64]; omega)

set_option maxHeartbeats 4000000 in
set_option maxRecDepth 100000 in
theorem len_110 (x : Int) (h0 : 281474976710656 ≤ x) (h1 : x ≤ 72057594037927935) (w : World) :
    Calls Tryd.prog 32 #[.int .u64 x] w fun e w' => e = .returned (.int .i64 (Lib.bitLen x.toNat)) ∧ w' = w := by
  have t32 : decide (4294967296 ≤ x) = true := decide_eq_true (by omega)
  have t16 : decide (65536 ≤ x / 4294967296) = true := decide_eq_true (by omega)
  have t8 : decide (256 ≤ x / 4294967296 / 65536) = false := decide_eq_false (by omega)
  obtain ⟨y, hy⟩ : ∃ y, x / 4294967296 / 65536 = y := ⟨_, rfl⟩
  have y0 : 0 ≤ y := by omega
  have y1 : y ≤ 255 := by omega
  have hi := ix y y0 y1
  have l0 := Lib.bitLen_le8' y y0 y1
  have hb : Lib.bitLen x.toNat = 48 + Lib.bitLen y.toNat := by
    rw [show y.toNat = x.toNat / 2 ^ 48 by omega]
    exact Lib.bitLen_shift 48 x.toNat (by omega) (by omega)
  generalize Lib.bitLen y.toNat = L at *
  rw [hb]
  clear hb
  go_enter Tryd.func32, Tryd.ntmps32
  go_wp2
  go_ret
  refine ⟨congrArg Ending.returned (congrArg (Value.int IntKind.i64) ?_), rfl⟩
  first | rfl | omega | (simp; done) | (simp [wrap64]; omega)

set_option maxHeartbeats 4000000 in
set_option maxRecDepth 100000 in
theorem len_101 (x : Int) (h0 : 1099511627776 ≤ x) (h1 : x ≤ 281474976710655) (w : World) :
    Calls Tryd.prog 32 #[.int .u64 x] w fun e w' => e = .returned (.int .i64 (Lib.bitLen x.toNat)) ∧ w' = w := by
  have t32 : decide (4294967296 ≤ x) = true := decide_eq_true (by omega)
  have t16 : decide (65536 ≤ x / 4294967296) = false := decide_eq_false (by omega)
  have t8 : decide (256 ≤ x / 4294967296) = true := decide_eq_true (by omega)
  obtain ⟨y, hy⟩ : ∃ y, x / 4294967296 / 256 = y := ⟨_, rfl⟩
  have y0 : 0 ≤ y := by omega
  have y1 : y ≤ 255 := by omega
  have hi := ix y y0 y1
  have l0 := Lib.bitLen_le8' y y0 y1
  have hb : Lib.bitLen x.toNat = 40 + Lib.bitLen y.toNat := by
    rw [show y.toNat = x.toNat / 2 ^ 40 by omega]
    exact Lib.bitLen_shift 40 x.toNat (by omega) (by omega)
  generalize Lib.bitLen y.toNat = L at *
  rw [hb]
  clear hb
  go_enter Tryd.func32, Tryd.ntmps32
  go_wp2
  go_ret
  refine ⟨congrArg Ending.returned (congrArg (Value.int IntKind.i64) ?_), rfl⟩
  first | rfl | omega | (simp; done) | (simp [wrap64]; omega)

set_option maxHeartbeats 4000000 in
set_option maxRecDepth 100000 in
theorem len_100 (x : Int) (h0 : 4294967296 ≤ x) (h1 : x ≤ 1099511627775) (w : World) :
    Calls Tryd.prog 32 #[.int .u64 x] w fun e w' => e = .returned (.int .i64 (Lib.bitLen x.toNat)) ∧ w' = w := by
  have t32 : decide (4294967296 ≤ x) = true := decide_eq_true (by omega)
  have t16 : decide (65536 ≤ x / 4294967296) = false := decide_eq_false (by omega)
  have t8 : decide (256 ≤ x / 4294967296) = false := decide_eq_false (by omega)
  obtain ⟨y, hy⟩ : ∃ y, x / 4294967296 = y := ⟨_, rfl⟩
  have y0 : 0 ≤ y := by omega
  have y1 : y ≤ 255 := by omega
  have hi := ix y y0 y1
  have l0 := Lib.bitLen_le8' y y0 y1
  have hb : Lib.bitLen x.toNat = 32 + Lib.bitLen y.toNat := by
    rw [show y.toNat = x.toNat / 2 ^ 32 by omega]
    exact Lib.bitLen_shift 32 x.toNat (by omega) (by omega)
  generalize Lib.bitLen y.toNat = L at *
  rw [hb]
  clear hb
  go_enter Tryd.func32, Tryd.ntmps32
  go_wp2
  go_ret
  refine ⟨congrArg Ending.returned (congrArg (Value.int IntKind.i64) ?_), rfl⟩
  first | rfl | omega | (simp; done) | (simp [wrap64]; omega)

set_option maxHeartbeats 4000000 in
set_option maxRecDepth 100000 in
theorem len_011 (x : Int) (h0 : 16777216 ≤ x) (h1 : x ≤ 4294967295) (w : World) :
    Calls Tryd.prog 32 #[.int .u64 x] w fun e w' => e = .returned (.int .i64 (Lib.bitLen x.toNat)) ∧ w' = w := by
  have t32 : decide (4294967296 ≤ x) = false := decide_eq_false (by omega)
  have t16 : decide (65536 ≤ x) = true := decide_eq_true (by omega)
  have t8 : decide (256 ≤ x / 65536) = true := decide_eq_true (by omega)
  obtain ⟨y, hy⟩ : ∃ y, x / 65536 / 256 = y := ⟨_, rfl⟩
  have y0 : 0 ≤ y := by omega
  have y1 : y ≤ 255 := by omega
  have hi := ix y y0 y1
  have l0 := Lib.bitLen_le8' y y0 y1
  have hb : Lib.bitLen x.toNat = 24 + Lib.bitLen y.toNat := by
    rw [show y.toNat = x.toNat / 2 ^ 24 by omega]
    exact Lib.bitLen_shift 24 x.toNat (by omega) (by omega)
  generalize Lib.bitLen y.toNat = L at *
  rw [hb]
  clear hb
  go_enter Tryd.func32, Tryd.ntmps32
  go_wp2
  go_ret
  refine ⟨congrArg Ending.returned (congrArg (Value.int IntKind.i64) ?_), rfl⟩
  first | rfl | omega | (simp; done) | (simp [wrap64]; omega)

set_option maxHeartbeats 4000000 in
set_option maxRecDepth 100000 in
theorem len_010 (x : Int) (h0 : 65536 ≤ x) (h1 : x ≤ 16777215) (w : World) :
    Calls Tryd.prog 32 #[.int .u64 x] w fun e w' => e = .returned (.int .i64 (Lib.bitLen x.toNat)) ∧ w' = w := by
  have t32 : decide (4294967296 ≤ x) = false := decide_eq_false (by omega)
  have t16 : decide (65536 ≤ x) = true := decide_eq_true (by omega)
  have t8 : decide (256 ≤ x / 65536) = false := decide_eq_false (by omega)
  obtain ⟨y, hy⟩ : ∃ y, x / 65536 = y := ⟨_, rfl⟩
  have y0 : 0 ≤ y := by omega
  have y1 : y ≤ 255 := by omega
  have hi := ix y y0 y1
  have l0 := Lib.bitLen_le8' y y0 y1
  have hb : Lib.bitLen x.toNat = 16 + Lib.bitLen y.toNat := by
    rw [show y.toNat = x.toNat / 2 ^ 16 by omega]
    exact Lib.bitLen_shift 16 x.toNat (by omega) (by omega)
  generalize Lib.bitLen y.toNat = L at *
  rw [hb]
  clear hb
  go_enter Tryd.func32, Tryd.ntmps32
  go_wp2
  go_ret
  refine ⟨congrArg Ending.returned (congrArg (Value.int IntKind.i64) ?_), rfl⟩
  first | rfl | omega | (simp; done) | (simp [wrap64]; omega)

set_option maxHeartbeats 4000000 in
set_option maxRecDepth 100000 in
theorem len_001 (x : Int) (h0 : 256 ≤ x) (h1 : x ≤ 65535) (w : World) :
    Calls Tryd.prog 32 #[.int .u64 x] w fun e w' => e = .returned (.int .i64 (Lib.bitLen x.toNat)) ∧ w' = w := by
  have t32 : decide (4294967296 ≤ x) = false := decide_eq_false (by omega)
  have t16 : decide (65536 ≤ x) = false := decide_eq_false (by omega)
  have t8 : decide (256 ≤ x) = true := decide_eq_true (by omega)
  obtain ⟨y, hy⟩ : ∃ y, x / 256 = y := ⟨_, rfl⟩
  have y0 : 0 ≤ y := by omega
  have y1 : y ≤ 255 := by omega
  have hi := ix y y0 y1
  have l0 := Lib.bitLen_le8' y y0 y1
  have hb : Lib.bitLen x.toNat = 8 + Lib.bitLen y.toNat := by
    rw [show y.toNat = x.toNat / 2 ^ 8 by omega]
    exact Lib.bitLen_shift 8 x.toNat (by omega) (by omega)
  generalize Lib.bitLen y.toNat = L at *
  rw [hb]
  clear hb
  go_enter Tryd.func32, Tryd.ntmps32
  go_wp2
  go_ret
  refine ⟨congrArg Ending.returned (congrArg (Value.int IntKind.i64) ?_), rfl⟩
  first | rfl | omega | (simp; done) | (simp [wrap64]; omega)

set_option maxHeartbeats 4000000 in
set_option maxRecDepth 100000 in
theorem len_000 (x : Int) (h0 : 0 ≤ x) (h1 : x ≤ 255) (w : World) :
    Calls Tryd.prog 32 #[.int .u64 x] w fun e w' => e = .returned (.int .i64 (Lib.bitLen x.toNat)) ∧ w' = w := by
  have t32 : decide (4294967296 ≤ x) = false := decide_eq_false (by omega)
  have t16 : decide (65536 ≤ x) = false := decide_eq_false (by omega)
  have t8 : decide (256 ≤ x) = false := decide_eq_false (by omega)
  obtain ⟨y, hy⟩ : ∃ y, x = y := ⟨_, rfl⟩
  have y0 : 0 ≤ y := by omega
  have y1 : y ≤ 255 := by omega
  have hi := ix y y0 y1
  have l0 := Lib.bitLen_le8' y y0 y1
  have hb : Lib.bitLen x.toNat = 0 + Lib.bitLen y.toNat := by
    rw [show y.toNat = x.toNat / 2 ^ 0 by omega]
    exact by simp
  generalize Lib.bitLen y.toNat = L at *
  rw [hb]
  clear hb
  subst hy
  go_enter Tryd.func32, Tryd.ntmps32
  go_wp2
  go_ret
  refine ⟨congrArg Ending.returned (congrArg (Value.int IntKind.i64) ?_), rfl⟩
  first | rfl | omega | (simp; done) | (simp [wrap64]; omega)

theorem len_any (x : Int) (h0 : 0 ≤ x) (h1 : x ≤ 18446744073709551615) (w : World) :
    Calls Tryd.prog 32 #[.int .u64 x] w fun e w' => e = .returned (.int .i64 (Lib.bitLen x.toNat)) ∧ w' = w := by
  by_cases c111 : 72057594037927936 ≤ x
  · exact len_111 x c111 (by omega) w
  by_cases c110 : 281474976710656 ≤ x
  · exact len_110 x c110 (by omega) w
  by_cases c101 : 1099511627776 ≤ x
  · exact len_101 x c101 (by omega) w
  by_cases c100 : 4294967296 ≤ x
  · exact len_100 x c100 (by omega) w
  by_cases c011 : 16777216 ≤ x
  · exact len_011 x c011 (by omega) w
  by_cases c010 : 65536 ≤ x
  · exact len_010 x c010 (by omega) w
  by_cases c001 : 256 ≤ x
  · exact len_001 x c001 (by omega) w
  exact len_000 x h0 (by omega) w

end Go.Proofs.YtgbjckokhonkgaaDoor

/- The bit operations of the program, as arithmetic. -/
import Derived.Test.YtljnadoodbninaaMPat
import Derived.Laws.BitsAllLaws
namespace Vg
open Go

theorem and_top (b i : Nat) (h : b < 2 ^ (i + 1)) : (b &&& 2 ^ i = 0) ↔ b < 2 ^ i := by
  have hp : 0 < 2 ^ i := Nat.two_pow_pos _
  rw [Nat.pow_succ] at h
  constructor
  · intro h0
    refine Classical.byContradiction fun hn => ?_
    have h2 : b / 2 ^ i = 1 := by
      have u : b / 2 ^ i < 2 := (Nat.div_lt_iff_lt_mul hp).2 (by omega)
      have v : 1 ≤ b / 2 ^ i := (Nat.le_div_iff_mul_le hp).2 (by omega)
      omega
    have t : (b &&& 2 ^ i).testBit i = true := by
      rw [Nat.testBit_and, Nat.testBit_two_pow_self, Bool.and_true, Nat.testBit_eq_decide_div_mod_eq, h2]; rfl
    rw [h0] at t
    simp at t
  · intro hl
    have e : b &&& (2 ^ i - 1) = b := by rw [Nat.and_two_pow_sub_one_eq_mod, Nat.mod_eq_of_lt hl]
    rw [← e, Nat.and_assoc, Nat.and_comm (2 ^ i - 1), Nat.and_two_pow_sub_one_eq_mod, Nat.mod_self, Nat.and_zero]

theorem join_top (x i : Nat) (h : x < 2 ^ i) : x ||| 2 ^ i = x + 2 ^ i := by
  rw [Nat.or_comm, nat_join i (2 ^ i) x (by simp) h, Nat.add_comm]

theorem and_mask (b m k i : Nat) (hb : b < 2 ^ k) (hm : (2 ^ k - 1) &&& m = 2 ^ i - 1) : b &&& m = b % 2 ^ i := by
  have e : b = b &&& (2 ^ k - 1) := by rw [Nat.and_two_pow_sub_one_eq_mod, Nat.mod_eq_of_lt hb]
  rw [e, Nat.and_assoc, hm, ← e, Nat.and_two_pow_sub_one_eq_mod]

theorem andNot64 (b : Nat) (h : b ≤ 18446744073709551615) : bits .andNot .u64 (b : Int) 9223372036854775808 = (rg true b : Int) := by
  refine Eq.trans (u64_andNot_nat b 9223372036854775808 (by omega) (by decide)) ?_
  rw [and_mask b _ 64 63 (by omega) (by decide +kernel)]; rfl
theorem andNot32 (b : Nat) (h : b ≤ 4294967295) : bits .andNot .u64 (b : Int) 2147483648 = (rg false b : Int) := by
  refine Eq.trans (u64_andNot_nat b 2147483648 (by omega) (by decide)) ?_
  rw [and_mask b _ 32 31 (by omega) (by decide +kernel)]; rfl
theorem andSign64 (b : Nat) (h : b ≤ 18446744073709551615) : (bits .and .u64 (b : Int) 9223372036854775808 != 0) = ng true b := by
  have e := u64_and_nat b 9223372036854775808 (by omega) (by decide)
  have t := and_top b 63 (by omega)
  rw [show (9223372036854775808 : Int) = ((9223372036854775808 : Nat) : Int) from rfl, e]
  rw [Bool.eq_iff_iff, bne_iff_ne]
  simp only [ng, S, if_true, decide_eq_true_eq]
  rw [show (2 : Nat) ^ 63 = 9223372036854775808 from rfl] at t
  omega
theorem andSign32 (b : Nat) (h : b ≤ 4294967295) : (bits .and .u64 (b : Int) 2147483648 != 0) = ng false b := by
  have e := u64_and_nat b 2147483648 (by omega) (by decide)
  have t := and_top b 31 (by omega)
  rw [show (2147483648 : Int) = ((2147483648 : Nat) : Int) from rfl, e]
  rw [Bool.eq_iff_iff, bne_iff_ne]
  simp only [ng, S, Bool.false_eq_true, if_false, decide_eq_true_eq]
  rw [show (2 : Nat) ^ 31 = 2147483648 from rfl] at t
  omega
theorem orSign64 (x : Nat) (h : x ≤ 9223372036854775807) : bits .or .u64 (x : Int) 9223372036854775808 = ((x + 9223372036854775808 : Nat) : Int) := by
  refine Eq.trans (u64_or_nat x 9223372036854775808 (by omega) (by decide)) ?_
  rw [show (9223372036854775808 : Nat) = 2 ^ 63 from rfl, join_top x 63 (by omega)]
theorem orSign32 (x : Nat) (h : x ≤ 2147483647) : bits .or .u64 (x : Int) 2147483648 = ((x + 2147483648 : Nat) : Int) := by
  refine Eq.trans (u64_or_nat x 2147483648 (by omega) (by decide)) ?_
  rw [show (2147483648 : Nat) = 2 ^ 31 from rfl, join_top x 31 (by omega)]
theorem andLow64 (x : Nat) (h : x ≤ 18446744073709551615) : bits .and .u64 (x : Int) 4503599627370495 = ((x % 4503599627370496 : Nat) : Int) := by
  refine Eq.trans (u64_and_nat x 4503599627370495 (by omega) (by decide)) ?_
  rw [show (4503599627370495 : Nat) = 2 ^ 52 - 1 from rfl, Nat.and_two_pow_sub_one_eq_mod]
theorem andLow32 (x : Nat) (h : x ≤ 18446744073709551615) : bits .and .u64 (x : Int) 8388607 = ((x % 8388608 : Nat) : Int) := by
  refine Eq.trans (u64_and_nat x 8388607 (by omega) (by decide)) ?_
  rw [show (8388607 : Nat) = 2 ^ 23 - 1 from rfl, Nat.and_two_pow_sub_one_eq_mod]
theorem orFull64 (x : Nat) (h : x < 4503599627370496) : bits .or .u64 (x : Int) 4503599627370496 = ((x + 4503599627370496 : Nat) : Int) := by
  refine Eq.trans (u64_or_nat x 4503599627370496 (by omega) (by decide)) ?_
  rw [show (4503599627370496 : Nat) = 2 ^ 52 from rfl, join_top x 52 (by omega)]
theorem orFull32 (x : Nat) (h : x < 8388608) : bits .or .u64 (x : Int) 8388608 = ((x + 8388608 : Nat) : Int) := by
  refine Eq.trans (u64_or_nat x 8388608 (by omega) (by decide)) ?_
  rw [show (8388608 : Nat) = 2 ^ 23 from rfl, join_top x 23 (by omega)]
end Vg

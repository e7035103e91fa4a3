/- Which pattern the program's way makes: the noughts at the low end are cut off, then the room is looked at. Plain arithmetic. -/
import Derived.Test.YtgbjckokhonkgaaDoorMJoin
import Derived.Lib.TrailingZeros
import Derived.Lib.BitFns
import Derived.Lib.ItoaNum
namespace Vg
open Go
theorem LJ.dbls {l : Bool} {s : Nat} {x z y : Int} (h : LJ l s x z y) (hz : 0 ≤ z) (j : Nat) : LJ l s x (z * 2 ^ j) (y - j) := fun r => by
  obtain ⟨a, rfl⟩ := Int.eq_ofNat_of_zero_le hz
  have e : ((a : Int) * 2 ^ j).toNat = a * 2 ^ j := by
    rw [show ((a : Int) * 2 ^ j) = ((a * 2 ^ j : Nat) : Int) by push_cast; rfl, Int.toNat_natCast]
  rw [h r, e, VR.shift, Int.toNat_natCast, show y - (j : Int) + (j : Int) = y by omega]
theorem cut_two (x : Nat) (h0 : 0 < x) (hx : x ≤ 18446744073709551615) : ∃ m, x = m * 2 ^ Lib.ctz 64 x ∧ m % 2 = 1 ∧ Lib.ctz 64 x < 64 := by
  obtain ⟨m, hm, hk⟩ := Lib.ctzFrom_spec 64 x h0 (by omega)
  have e : Lib.ctz 64 x = Lib.ctzFrom 64 x := by simp [Lib.ctz]; omega
  rw [e]
  exact ⟨2 * m + 1, by rw [Nat.mul_comm]; exact hm, by omega, hk⟩
theorem len_at (m : Nat) (h0 : 0 < m) (hx : m ≤ 18446744073709551615) : 1 ≤ Lib.bitLen m ∧ 2 ^ (Lib.bitLen m - 1) ≤ m ∧ m < 2 ^ Lib.bitLen m ∧ Lib.bitLen m ≤ 64 := by
  obtain ⟨h1, h2, h3⟩ := Lib.bitLenAux_bounds 64 m (by omega) (by omega)
  exact ⟨h1, h2, h3, Lib.bitLen_le m 64 (by omega) (by omega)⟩

theorem jp_no64 {n : Bool} {s : Nat} {x : Int} (hs : 0 < s) (m k b : Nat) (hm : s = m * 2 ^ k) (ho : m % 2 = 1) (hk : k < 64) (hb0 : 1 ≤ b) (hb1 : 2 ^ (b - 1) ≤ m)
    (c : x < -1200 ∨ 1100 < x ∨ 52 + 1 - (b : Int) < 0 ∨ x + k < -1074 ∨ 971 + (52 + 1 - (b : Int)) < x + k) : Jn64 n s x 0 false := by
  have hj : LJ true s x (m : Int) (x + k) := fun r => by rw [Int.toNat_natCast, hm, VR.shift]
  have hz : (0 : Int) < m := by omega
  by_cases c1 : x + k < -1074
  · exact hj.no64 hs hz (.inl ⟨by omega, .inr c1⟩)
  by_cases c2 : 971 + 64 < x + k
  · exact hj.no64 hs hz (.inr (.inl c2))
  by_cases c3 : 52 + 1 - (b : Int) < 0
  · have : 2 ^ (52 + 1) ≤ 2 ^ (b - 1) := Nat.pow_le_pow_right (by decide) (by omega)
    exact hj.no64 hs hz (.inl ⟨by omega, .inl (by omega)⟩)
  have hj2 := hj.dbls (by omega) (52 + 1 - b)
  have e : 2 ^ 52 ≤ m * 2 ^ (52 + 1 - b) := by
    rw [show 52 = (b - 1) + (52 + 1 - b) by omega, Nat.pow_add]
    rw [show (b - 1) + (52 + 1 - b) + 1 - b = 52 + 1 - b by omega]
    exact Nat.mul_le_mul_right _ hb1
  have e2 : ((m : Int) * 2 ^ (52 + 1 - b)) = ((m * 2 ^ (52 + 1 - b) : Nat) : Int) := by push_cast; rfl
  rw [e2] at hj2
  generalize m * 2 ^ (52 + 1 - b) = g at *
  exact hj2.no64 hs (by omega) (.inr (.inr ⟨by omega, by omega⟩))
theorem jp_yes64 {n : Bool} {s : Nat} {x : Int} (hs : 0 < s) (m k b : Nat) (hm : s = m * 2 ^ k) (ho : m % 2 = 1) (hb0 : 1 ≤ b) (hb2 : m < 2 ^ b)
    (c1 : b ≤ 52 + 1) (_c2 : -1074 ≤ x + k) (c3 : x + k ≤ 971 + (52 + 1 - (b : Int))) (hb1 : 2 ^ (b - 1) ≤ m) (j : Nat) (hj : (j : Int) = min (52 + 1 - (b : Int)) (x + k - (-1074))) :
    0 < m * 2 ^ j ∧ m * 2 ^ j < 2 * 4503599627370496 ∧ -1074 ≤ x + k - j ∧ x + k - j ≤ 971 ∧
    Jn64 n s x (if n then (if 4503599627370496 ≤ m * 2 ^ j then (x + k - j - (-1074) + 1) * 4503599627370496 + ((m * 2 ^ j : Nat) : Int) - 4503599627370496 else ((m * 2 ^ j : Nat) : Int)) + 9223372036854775808 else (if 4503599627370496 ≤ m * 2 ^ j then (x + k - j - (-1074) + 1) * 4503599627370496 + ((m * 2 ^ j : Nat) : Int) - 4503599627370496 else ((m * 2 ^ j : Nat) : Int))) true := by
  have h0 : LJ true s x (m : Int) (x + k) := fun r => by rw [Int.toNat_natCast, hm, VR.shift]
  have h1 := h0.dbls (by omega) j
  have e2 : ((m : Int) * 2 ^ j) = ((m * 2 ^ j : Nat) : Int) := by push_cast; rfl
  rw [e2] at h1
  have g0 : 0 < m * 2 ^ j := Nat.mul_pos (by omega) (Nat.two_pow_pos _)
  have g1 : m * 2 ^ j < 2 ^ (52 + 1) := by
    have : 2 ^ b * 2 ^ j ≤ 2 ^ (52 + 1) := by rw [← Nat.pow_add]; exact Nat.pow_le_pow_right (by decide) (by omega)
    exact Nat.lt_of_lt_of_le (Nat.mul_lt_mul_of_pos_right hb2 (Nat.two_pow_pos _)) this
  have g2 : x + k - (j : Int) = -1074 ∨ 2 ^ 52 ≤ m * 2 ^ j := by
    by_cases d : (j : Int) = x + k - (-1074)
    · left; omega
    · right
      have d2 : j = 52 + 1 - b := by omega
      rw [d2, show 2 ^ 52 = 2 ^ (b - 1) * 2 ^ (52 + 1 - b) by rw [← Nat.pow_add]; congr 1; omega]
      exact Nat.mul_le_mul_right _ hb1
  generalize m * 2 ^ j = g at *
  have g3 : x + k - (j : Int) ≤ 971 := by omega
  refine ⟨g0, by omega, by omega, g3, ?_⟩
  refine h1.yes64 hs (by omega) (by omega) (by omega) g3 (by omega) ?_
  split <;> split <;> omega

theorem jp_no32 {n : Bool} {s : Nat} {x : Int} (hs : 0 < s) (m k b : Nat) (hm : s = m * 2 ^ k) (ho : m % 2 = 1) (hk : k < 64) (hb0 : 1 ≤ b) (hb1 : 2 ^ (b - 1) ≤ m)
    (c : x < -1200 ∨ 1100 < x ∨ 23 + 1 - (b : Int) < 0 ∨ x + k < -149 ∨ 104 + (23 + 1 - (b : Int)) < x + k) : Jn32 n s x 0 false := by
  have hj : LJ false s x (m : Int) (x + k) := fun r => by rw [Int.toNat_natCast, hm, VR.shift]
  have hz : (0 : Int) < m := by omega
  by_cases c1 : x + k < -149
  · exact hj.no32 hs hz (.inl ⟨by omega, .inr c1⟩)
  by_cases c2 : 104 + 64 < x + k
  · exact hj.no32 hs hz (.inr (.inl c2))
  by_cases c3 : 23 + 1 - (b : Int) < 0
  · have : 2 ^ (23 + 1) ≤ 2 ^ (b - 1) := Nat.pow_le_pow_right (by decide) (by omega)
    exact hj.no32 hs hz (.inl ⟨by omega, .inl (by omega)⟩)
  have hj2 := hj.dbls (by omega) (23 + 1 - b)
  have e : 2 ^ 23 ≤ m * 2 ^ (23 + 1 - b) := by
    rw [show 23 = (b - 1) + (23 + 1 - b) by omega, Nat.pow_add]
    rw [show (b - 1) + (23 + 1 - b) + 1 - b = 23 + 1 - b by omega]
    exact Nat.mul_le_mul_right _ hb1
  have e2 : ((m : Int) * 2 ^ (23 + 1 - b)) = ((m * 2 ^ (23 + 1 - b) : Nat) : Int) := by push_cast; rfl
  rw [e2] at hj2
  generalize m * 2 ^ (23 + 1 - b) = g at *
  exact hj2.no32 hs (by omega) (.inr (.inr ⟨by omega, by omega⟩))
theorem jp_yes32 {n : Bool} {s : Nat} {x : Int} (hs : 0 < s) (m k b : Nat) (hm : s = m * 2 ^ k) (ho : m % 2 = 1) (hb0 : 1 ≤ b) (hb2 : m < 2 ^ b)
    (c1 : b ≤ 23 + 1) (_c2 : -149 ≤ x + k) (c3 : x + k ≤ 104 + (23 + 1 - (b : Int))) (hb1 : 2 ^ (b - 1) ≤ m) (j : Nat) (hj : (j : Int) = min (23 + 1 - (b : Int)) (x + k - (-149))) :
    0 < m * 2 ^ j ∧ m * 2 ^ j < 2 * 8388608 ∧ -149 ≤ x + k - j ∧ x + k - j ≤ 104 ∧
    Jn32 n s x (if n then (if 8388608 ≤ m * 2 ^ j then (x + k - j - (-149) + 1) * 8388608 + ((m * 2 ^ j : Nat) : Int) - 8388608 else ((m * 2 ^ j : Nat) : Int)) + 2147483648 else (if 8388608 ≤ m * 2 ^ j then (x + k - j - (-149) + 1) * 8388608 + ((m * 2 ^ j : Nat) : Int) - 8388608 else ((m * 2 ^ j : Nat) : Int))) true := by
  have h0 : LJ false s x (m : Int) (x + k) := fun r => by rw [Int.toNat_natCast, hm, VR.shift]
  have h1 := h0.dbls (by omega) j
  have e2 : ((m : Int) * 2 ^ j) = ((m * 2 ^ j : Nat) : Int) := by push_cast; rfl
  rw [e2] at h1
  have g0 : 0 < m * 2 ^ j := Nat.mul_pos (by omega) (Nat.two_pow_pos _)
  have g1 : m * 2 ^ j < 2 ^ (23 + 1) := by
    have : 2 ^ b * 2 ^ j ≤ 2 ^ (23 + 1) := by rw [← Nat.pow_add]; exact Nat.pow_le_pow_right (by decide) (by omega)
    exact Nat.lt_of_lt_of_le (Nat.mul_lt_mul_of_pos_right hb2 (Nat.two_pow_pos _)) this
  have g2 : x + k - (j : Int) = -149 ∨ 2 ^ 23 ≤ m * 2 ^ j := by
    by_cases d : (j : Int) = x + k - (-149)
    · left; omega
    · right
      have d2 : j = 23 + 1 - b := by omega
      rw [d2, show 2 ^ 23 = 2 ^ (b - 1) * 2 ^ (23 + 1 - b) by rw [← Nat.pow_add]; congr 1; omega]
      exact Nat.mul_le_mul_right _ hb1
  generalize m * 2 ^ j = g at *
  have g3 : x + k - (j : Int) ≤ 104 := by omega
  refine ⟨g0, by omega, by omega, g3, ?_⟩
  refine h1.yes32 hs (by omega) (by omega) (by omega) g3 (by omega) ?_
  split <;> split <;> omega

end Vg

import Derived.Test.YtgbjckokhonkgaaDoorMNear
/- Floats as integers: what is cut off, what an integer is rounded to. Plain arithmetic. -/
namespace Vg
open Ieee

theorem cut_zero (s : Bool) (n drop : Nat) : Toward.zero.cut s n drop = n / 2 ^ drop := by
  unfold Toward.cut
  rw [Nat.shiftLeft_eq, Nat.one_mul]
  simp only [Bool.toNat_false, Nat.add_zero]
  by_cases hd : drop ≤ n.log2 + 2
  · rw [Nat.min_eq_left hd]
  · rw [Nat.min_eq_right (by omega)]
    have hn : n < 2 ^ (n.log2 + 1) := Nat.lt_log2_self
    have h2 : 2 ^ (n.log2 + 2) = 2 * 2 ^ (n.log2 + 1) := by rw [Nat.pow_succ, Nat.mul_comm]
    have h3 : 2 ^ (n.log2 + 2) < 2 ^ drop := Nat.pow_lt_pow_right (by omega) (by omega)
    have h4 : n < 2 ^ (n.log2 + 2) := by omega
    have h5 : n < 2 ^ drop := by omega
    rw [Nat.div_eq_of_lt h4, Nat.div_eq_of_lt h5]

/-- How many places lie below the point. -/
def low (f : Format) : Nat := (-f.leastPlace).toNat

/-- What is left of a finite number when it is cut towards zero. -/
theorem toInt_zero (f : Format) (w : Nat) (h : rung f w < f.infRung) (hl : f.leastPlace ≤ 0) :
    (f.read w).toInt .zero = some (if neg f w then -((val f (rung f w) / 2 ^ low f : Nat) : Int) else ((val f (rung f w) / 2 ^ low f : Nat) : Int)) := by
  obtain ⟨m, i, e, li, mi⟩ := read_number f w h
  rw [e]
  simp only [Datum.toInt, Datum.integral]
  rw [cut_zero, signed_eq, Nat.pow_zero, Nat.mul_one, Nat.shiftLeft_eq]
  have key : m * 2 ^ i.toNat / 2 ^ (-i).toNat = val f (rung f w) / 2 ^ low f := by
    rw [← mi]
    unfold low
    by_cases hi : 0 ≤ i
    · rw [show (-i).toNat = 0 by omega, show (i - f.leastPlace).toNat = i.toNat + (-f.leastPlace).toNat by omega, Nat.pow_zero, Nat.div_one, Nat.pow_add, ← Nat.mul_assoc, Nat.mul_div_cancel _ (Nat.two_pow_pos _)]
    · rw [show i.toNat = 0 by omega, Nat.pow_zero, Nat.mul_one, show (-f.leastPlace).toNat = (-i).toNat + (i - f.leastPlace).toNat by omega, Nat.pow_add, Nat.mul_div_mul_right _ _ (Nat.two_pow_pos _)]
  rw [key]

/-- An integer's magnitude rounded to F + 1 digits, ties to even. -/
def rnd (F n : Nat) : Nat := if n.log2 ≤ F then n else halve n (n.log2 - F) * 2 ^ (n.log2 - F)

/-- The word that an integer is rounded to. -/
theorem nearest_int (f : Format) (s : Bool) (n : Nat) (hn : n < 2 ^ 64) (h0 : 0 < n) (hF : f.fractionBits ≤ 63) (hl : f.leastPlace ≤ -(f.fractionBits : Int)) (hi : (66 - f.fractionBits + low f) * f.binade ≤ f.infRung) :
    ∃ r, r < f.infRung ∧ f.nearest s n 0 = f.word s r ∧ val f r = rnd f.fractionBits n * 2 ^ low f := by
  have hB := binade_pos f
  have hlog : n.log2 ≤ 63 := by
    have := (Nat.log2_lt (by omega : n ≠ 0)).2 hn
    omega
  have l1 : 2 ^ n.log2 ≤ n := Nat.log2_self_le (by omega)
  have l2 : n < 2 ^ (n.log2 + 1) := Nat.lt_log2_self
  unfold Format.nearest
  rw [if_neg (by omega)]
  simp only
  have hlast : max (0 + (n.log2 : Int) - f.fractionBits) f.leastPlace = (n.log2 : Int) - f.fractionBits := by omega
  rw [hlast, cut_even, Nat.shiftLeft_eq]
  unfold rnd
  by_cases hc : n.log2 ≤ f.fractionBits
  · rw [if_pos hc]
    have e1 : ((n.log2 : Int) - f.fractionBits - 0).toNat = 0 := by omega
    have e2 : (0 - ((n.log2 : Int) - f.fractionBits)).toNat = f.fractionBits - n.log2 := by omega
    have e3 : ((n.log2 : Int) - f.fractionBits - f.leastPlace).toNat = low f - (f.fractionBits - n.log2) := by unfold low; omega
    rw [e1, e2, e3, halve_zero]
    have k1 : f.binade ≤ n * 2 ^ (f.fractionBits - n.log2) := by
      have : 2 ^ n.log2 * 2 ^ (f.fractionBits - n.log2) ≤ n * 2 ^ (f.fractionBits - n.log2) := Nat.mul_le_mul_right _ l1
      rw [← Nat.pow_add, show n.log2 + (f.fractionBits - n.log2) = f.fractionBits by omega] at this
      exact this
    have k2 : n * 2 ^ (f.fractionBits - n.log2) ≤ 2 * f.binade := by
      have : n * 2 ^ (f.fractionBits - n.log2) ≤ 2 ^ (n.log2 + 1) * 2 ^ (f.fractionBits - n.log2) := Nat.mul_le_mul_right _ (by omega)
      rw [← Nat.pow_add, show n.log2 + 1 + (f.fractionBits - n.log2) = f.fractionBits + 1 by omega, Nat.pow_succ] at this
      unfold Format.binade; omega
    have q1 : (low f - (f.fractionBits - n.log2)) * f.binade ≤ low f * f.binade := Nat.mul_le_mul_right _ (by omega)
    have q2 : (66 - f.fractionBits + low f) * f.binade = (66 - f.fractionBits) * f.binade + low f * f.binade := Nat.add_mul _ _ _
    have q3 : 2 * f.binade ≤ (66 - f.fractionBits) * f.binade := Nat.mul_le_mul_right _ (by omega)
    have lt : n * 2 ^ (f.fractionBits - n.log2) < 2 * f.binade := by
      have : n * 2 ^ (f.fractionBits - n.log2) < 2 ^ (n.log2 + 1) * 2 ^ (f.fractionBits - n.log2) := Nat.mul_lt_mul_of_pos_right l2 (Nat.two_pow_pos _)
      rw [← Nat.pow_add, show n.log2 + 1 + (f.fractionBits - n.log2) = f.fractionBits + 1 by omega, Nat.pow_succ] at this
      unfold Format.binade; omega
    refine ⟨(low f - (f.fractionBits - n.log2)) * f.binade + n * 2 ^ (f.fractionBits - n.log2), by omega, by rw [Nat.min_eq_left (by omega)], ?_⟩
    rw [val_rung f _ _ (.inr k1) k2, Nat.mul_assoc, ← Nat.pow_add]
    congr 2
    unfold low; omega
  · rw [if_neg hc]
    have e1 : ((n.log2 : Int) - f.fractionBits - 0).toNat = n.log2 - f.fractionBits := by omega
    have e2 : (0 - ((n.log2 : Int) - f.fractionBits)).toNat = 0 := by omega
    have e3 : ((n.log2 : Int) - f.fractionBits - f.leastPlace).toNat = n.log2 - f.fractionBits + low f := by unfold low; omega
    rw [e1, e2, e3, Nat.pow_zero, Nat.mul_one]
    have k1 : f.binade ≤ halve n (n.log2 - f.fractionBits) := le_halve (by unfold Format.binade; rw [← Nat.pow_add, show f.fractionBits + (n.log2 - f.fractionBits) = n.log2 by omega]; exact l1)
    have k2 : halve n (n.log2 - f.fractionBits) ≤ 2 * f.binade := halve_le (by unfold Format.binade; rw [Nat.mul_comm 2, ← Nat.pow_succ, ← Nat.pow_add, show f.fractionBits + 1 + (n.log2 - f.fractionBits) = n.log2 + 1 by omega]; exact l2)
    have q1 : (n.log2 - f.fractionBits + low f + 3) * f.binade ≤ (66 - f.fractionBits + low f) * f.binade := Nat.mul_le_mul_right _ (by omega)
    have q2 : (n.log2 - f.fractionBits + low f + 3) * f.binade = (n.log2 - f.fractionBits + low f) * f.binade + 3 * f.binade := Nat.add_mul _ _ _
    refine ⟨(n.log2 - f.fractionBits + low f) * f.binade + halve n (n.log2 - f.fractionBits), by omega, by rw [Nat.min_eq_left (by omega)], ?_⟩
    · rw [val_rung f _ _ (.inr k1) k2, Nat.pow_add, Nat.mul_assoc]
end Vg

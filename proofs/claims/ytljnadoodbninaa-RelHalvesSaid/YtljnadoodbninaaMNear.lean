import Derived.Test.YtljnadoodbninaaMFp
namespace Vg
open Ieee

/-- the value of the rung that lies q binades up from the least place and has the significand kept -/
theorem val_rung (f : Format) (q kept : Nat) (h1 : q = 0 ∨ f.binade ≤ kept) (h2 : kept ≤ 2 * f.binade) : val f (q * f.binade + kept) = kept * 2 ^ q := by
  have hB := binade_pos f
  by_cases hk : kept < f.binade
  · obtain rfl : q = 0 := by omega
    unfold val; simp [hk]
  · by_cases h3 : kept = 2 * f.binade
    · subst h3
      have e : q * f.binade + 2 * f.binade = f.binade * (q + 2) := by rw [Nat.mul_add, Nat.mul_comm, Nat.mul_comm f.binade 2]
      have h4 : f.binade * 1 ≤ f.binade * (q + 2) := Nat.mul_le_mul_left _ (by omega)
      unfold val
      rw [if_neg (by omega), e, Nat.mul_mod_right, Nat.mul_div_cancel_left _ hB, show q + 2 - 1 = q + 1 from rfl, Nat.pow_succ]
      rw [Nat.add_zero, Nat.mul_comm (2 ^ q) 2, ← Nat.mul_assoc, Nat.mul_comm f.binade 2]
    · obtain ⟨t, rfl⟩ : ∃ t, kept = f.binade + t := ⟨kept - f.binade, by omega⟩
      have ht : t < f.binade := by omega
      have e : q * f.binade + (f.binade + t) = f.binade * (q + 1) + t := by rw [Nat.mul_add, Nat.mul_one, Nat.mul_comm]; omega
      unfold val
      rw [if_neg (by omega), e, Nat.mul_add_mod, Nat.mod_eq_of_lt ht, Nat.mul_add_div hB, Nat.div_eq_of_lt ht]
      rfl

/-- n halved drop times, to the nearest, ties to even. -/
def halve (n drop : Nat) : Nat := n / 2 ^ drop + (if 2 ^ drop < 2 * (n % 2 ^ drop) ∨ 2 ^ drop = 2 * (n % 2 ^ drop) ∧ n / 2 ^ drop % 2 = 1 then 1 else 0)

theorem cut_even (s : Bool) (n drop : Nat) : Toward.even.cut s n drop = halve n drop := by
  have core : ∀ gap : Nat, (n / gap + ((decide (gap < 2 * (n % gap)) || (gap == 2 * (n % gap) && n / gap % 2 == 1)).toNat)) = n / gap + (if gap < 2 * (n % gap) ∨ gap = 2 * (n % gap) ∧ n / gap % 2 = 1 then 1 else 0) := by
    intro gap
    congr 1
    by_cases h1 : gap < 2 * (n % gap)
    · simp [h1]
    · by_cases h2 : gap = 2 * (n % gap)
      · by_cases h3 : n / gap % 2 = 1 <;> simp [h3, ← h2]
      · simp [h1, h2]
  unfold Toward.cut halve
  rw [Nat.shiftLeft_eq, Nat.one_mul]
  simp only
  rw [core]
  by_cases hd : drop ≤ n.log2 + 2
  · rw [Nat.min_eq_left hd]
  · rw [Nat.min_eq_right (by omega)]
    have hn : n < 2 ^ (n.log2 + 1) := Nat.lt_log2_self
    have h2 : 2 ^ (n.log2 + 2) = 2 * 2 ^ (n.log2 + 1) := by rw [Nat.pow_succ, Nat.mul_comm]
    have h3 : 2 ^ (n.log2 + 2) < 2 ^ drop := Nat.pow_lt_pow_right (by omega) (by omega)
    have h4 : n < 2 ^ (n.log2 + 2) := by omega
    have h5 : n < 2 ^ drop := by omega
    have h6 : 2 * n < 2 ^ (n.log2 + 2) := by omega
    have h7 : 2 * n < 2 ^ drop := by omega
    rw [Nat.div_eq_of_lt h4, Nat.div_eq_of_lt h5, Nat.mod_eq_of_lt h4, Nat.mod_eq_of_lt h5]
    rw [if_neg (fun h => h.elim (fun h => by omega) (fun h => by omega)), if_neg (fun h => h.elim (fun h => by omega) (fun h => by omega))]

theorem halve_zero (n : Nat) : halve n 0 = n := by unfold halve; simp [Nat.mod_one]

/-- Halving lies between: with n < B 2^drop it is at most B, with B 2^drop ≤ n at least B. -/
theorem halve_le {n drop B : Nat} (h : n < B * 2 ^ drop) : halve n drop ≤ B := by
  have hp : 0 < 2 ^ drop := Nat.two_pow_pos _
  have := (Nat.div_lt_iff_lt_mul hp).2 h
  unfold halve; split <;> omega
theorem le_halve {n drop B : Nat} (h : B * 2 ^ drop ≤ n) : B ≤ halve n drop := by
  have hp : 0 < 2 ^ drop := Nat.two_pow_pos _
  have := (Nat.le_div_iff_mul_le hp).2 h
  unfold halve; omega
theorem halve_exact {n drop k : Nat} (h : n = k * 2 ^ drop) : halve n drop = k := by
  have hp : 0 < 2 ^ drop := Nat.two_pow_pos _
  subst h
  unfold halve
  rw [Nat.mul_div_cancel _ hp, Nat.mul_mod_left, if_neg (by omega)]; rfl

end Vg

/- An integer that is halved until it has no more bits than a significand; what Of tells. Plain arithmetic. -/
import Derived.Test.YtgbjckokhonkgaaDoorMJoin
namespace Vg
open Go Ieee

/-- After k halvings of n: what is left, what fell away, the unit. -/
def HI (l : Bool) (n k s t u : Nat) : Prop := s = n / 2 ^ k ∧ t = n % 2 ^ k ∧ u = 2 ^ k ∧ (k = 0 ∨ 2 * FULL l ≤ n / 2 ^ (k - 1))
section
variable {l : Bool} {n k s t u : Nat}
theorem HI.start (l : Bool) (n : Nat) : HI l n 0 n 0 1 := ⟨by simp, by simp [Nat.mod_one], rfl, .inl rfl⟩
theorem HI.step (h : HI l n k s t u) (hs : 2 * FULL l ≤ s) : HI l n (k + 1) (s / 2) (t + s % 2 * u) (2 * u) := by
  obtain ⟨rfl, rfl, rfl, -⟩ := h
  refine ⟨by rw [Nat.pow_succ, Nat.div_div_eq_div_mul], ?_, by rw [Nat.pow_succ, Nat.mul_comm], .inr (by simpa using hs)⟩
  rw [Nat.pow_succ, Nat.mod_mul, Nat.mul_comm (2 ^ k)]
theorem HI.bd (h : HI l n k s t u) (hn : n < 18446744073709551616) : k ≤ 40 ∧ t < u ∧ 1 ≤ u ∧ u ≤ 1099511627776 ∧ s ≤ n := by
  obtain ⟨rfl, rfl, rfl, h⟩ := h
  have hp : 0 < 2 ^ k := Nat.two_pow_pos _
  have hk : k ≤ 40 := by
    rcases h with rfl | h
    · omega
    · refine Classical.byContradiction fun c => ?_
      have h2 : (16777216 : Nat) ≤ n / 2 ^ (k - 1) := Nat.le_trans (by cases l <;> decide) h
      rw [Nat.le_div_iff_mul_le (Nat.two_pow_pos _)] at h2
      have h3 : 2 ^ 40 ≤ 2 ^ (k - 1) := Nat.pow_le_pow_right (by decide) (by omega)
      omega
  refine ⟨hk, Nat.mod_lt _ hp, hp, ?_, Nat.div_le_self _ _⟩
  exact Nat.le_trans (Nat.pow_le_pow_right (by decide) hk) (by decide)
theorem HI.stepz {k z t u : Int} (h : HI l n k.toNat z.toNat t.toNat u.toNat) (hk : 0 ≤ k) (hz : 0 ≤ z) (ht : 0 ≤ t) (hu : 0 ≤ u) (hs : 2 * (FULL l : Int) ≤ z) :
    HI l n (k + 1).toNat (z / 2).toNat (if z % 2 = 0 then t else t + u).toNat (u * 2).toNat := by
  have := h.step (by omega)
  rw [show (k + 1).toNat = k.toNat + 1 by omega, show (z / 2).toNat = z.toNat / 2 by omega, show (u * 2).toNat = 2 * u.toNat by omega]
  have e : (if z % 2 = 0 then t else t + u).toNat = t.toNat + z.toNat % 2 * u.toNat := by
    split
    · rw [show z.toNat % 2 = 0 by omega]; simp
    · rw [show z.toNat % 2 = 1 by omega]; omega
  rw [e]; exact this
theorem HI.bdz {k z t u : Int} (h : HI l n k.toNat z.toNat t.toNat u.toNat) (hz : 0 ≤ z) (ht : 0 ≤ t) (hu : 0 ≤ u) (hn : n < 18446744073709551616) : k ≤ 40 ∧ t < u ∧ 1 ≤ u ∧ u ≤ 1099511627776 ∧ z ≤ n := by
  have := h.bd hn
  omega
theorem HI.fin (h : HI l n k s t u) (hs : s < 2 * FULL l) (hn : 0 < n) : rnd (fr l) n = (s + if u < 2 * t ∨ 2 * t = u ∧ s % 2 = 1 then 1 else 0) * 2 ^ k ∧ (rnd (fr l) n = n ↔ t = 0) := by
  obtain ⟨rfl, rfl, rfl, h⟩ := h
  have hB : FULL l = 2 ^ fr l := by cases l <;> decide
  have key : rnd (fr l) n = halve n k * 2 ^ k := by
    unfold rnd
    rcases h with rfl | h
    · rw [if_pos, halve_zero]; · simp
      have : n < 2 ^ (fr l + 1) := by rw [Nat.pow_succ, ← hB]; simpa [Nat.mul_comm] using hs
      have := (Nat.log2_lt (by omega)).2 this
      omega
    · by_cases hk : k = 0
      · subst hk
        rw [if_pos, halve_zero]; · simp
        have : n < 2 ^ (fr l + 1) := by rw [Nat.pow_succ, ← hB]; simpa [Nat.mul_comm] using hs
        have := (Nat.log2_lt (by omega)).2 this
        omega
      · have h1 : 2 ^ (fr l + k) ≤ n := by
          rw [Nat.le_div_iff_mul_le (Nat.two_pow_pos _), hB, Nat.mul_comm 2, ← Nat.pow_succ, ← Nat.pow_add] at h
          rwa [show fr l + k = fr l + 1 + (k - 1) by omega]
        have h2 : n < 2 ^ (fr l + k + 1) := by
          rw [Nat.div_lt_iff_lt_mul (Nat.two_pow_pos _), hB, Nat.mul_comm 2, ← Nat.pow_succ, ← Nat.pow_add] at hs
          rwa [show fr l + k + 1 = fr l + 1 + k by omega]
        have e := log2_between h1 h2
        rw [e, if_neg (by omega), show fr l + k - fr l = k by omega]
  have hh : halve n k = n / 2 ^ k + if 2 ^ k < 2 * (n % 2 ^ k) ∨ 2 * (n % 2 ^ k) = 2 ^ k ∧ n / 2 ^ k % 2 = 1 then 1 else 0 := by
    unfold halve
    split <;> split <;> omega
  refine ⟨by rw [key, hh], ?_⟩
  rw [key]
  constructor
  · intro e
    rw [← e, Nat.mul_mod_left]
  · intro e
    have : n = n / 2 ^ k * 2 ^ k := by have := Nat.div_add_mod n (2 ^ k); rw [e, Nat.mul_comm] at this; omega
    rw [halve_exact this]; exact this.symm
end

/-- What Of tells. -/
def IOf (l : Bool) (n : Int) (m : Int) (ok : Bool) : Prop := m = floatOfInt (fm l) n ∧ ok = decide (rnd (fr l) n.natAbs = n.natAbs)
theorem IOf.same {l : Bool} {n m k : Int} {o u : Bool} (h : IOf l n m o) (g : IOf l n k u) : m = k ∧ o = u := ⟨h.1.trans g.1.symm, h.2.trans g.2.symm⟩
theorem IOf.bd {l : Bool} {n m : Int} {o : Bool} (h : IOf l n m o) (h1 : -9223372036854775808 ≤ n) (h2 : n ≤ 9223372036854775807) : 0 ≤ m ∧ m < 2 * S l ∧ nn l m.toNat = false := by
  obtain ⟨r, r1, r2, -⟩ := of_int l n h1 h2
  have hi := INF_lt l
  rw [h.1, r2]
  refine ⟨by split <;> omega, by split <;> omega, ?_⟩
  rw [Int.toNat_natCast]
  unfold nn; rw [rg_word l r _ r1]; exact decide_eq_false (by omega)
/-- The program's Of, by its own Whole. -/
theorem of_whole {l : Bool} {n w : Int} {o : Bool} (h1 : -9223372036854775808 ≤ n) (h2 : n ≤ 9223372036854775807) (h : Wh l (floatOfInt (fm l) n) w o) : (o && decide (w = n)) = decide (rnd (fr l) n.natAbs = n.natAbs) := by
  obtain ⟨r, r1, r2, r3⟩ := of_int l n h1 h2
  rw [r2] at h
  unfold Wh at h
  rw [rg_word l r _ r1, ng_word l r _ r1, r3] at h
  rcases h with ⟨k, -, k1, rfl, k2, k3, rfl⟩ | ⟨k1, rfl, rfl⟩
  · have := Nat.eq_of_mul_eq_mul_right (Nat.two_pow_pos _) k1
    rw [this, Bool.true_and, Bool.eq_iff_iff]
    simp only [decide_eq_true_eq]
    split <;> omega
  · rw [Bool.false_and, eq_comm, decide_eq_false_iff_not]
    intro e
    refine k1 n.natAbs r1 (by rw [e]) ?_
    by_cases c : n < 0
    · simp only [c, decide_true, if_true]; omega
    · simp only [c, decide_false, Bool.false_eq_true, if_false]; omega

/-- The reference's Of, by its own Join. -/
theorem of_join64 {n : Int} (h1 : -9223372036854775808 ≤ n) (h2 : n ≤ 9223372036854775807) {k s t u : Nat} (h : HI true n.natAbs k s t u) (hs : s < 2 * 4503599627370496) {z : Int} {o : Bool}
    (hz : Jn64 (decide (n < 0)) (s + if u < 2 * t ∨ 2 * t = u ∧ s % 2 = 1 then 1 else 0) k z o) : IOf true n z (decide (t = 0)) := by
  obtain ⟨r, r1, r2, r3⟩ := of_int true n h1 h2
  have hF : FULL true = 4503599627370496 := by decide
  by_cases hn : n = 0
  · subst hn
    have h0 : s = 0 ∧ t = 0 ∧ 1 ≤ u := by
      obtain ⟨rfl, rfl, rfl, -⟩ := h
      exact ⟨by simp, by simp, Nat.two_pow_pos _⟩
    obtain ⟨rfl, rfl, hu⟩ := h0
    rw [if_neg (by omega)] at hz
    rcases hz with ⟨-, rfl, -⟩ | ⟨h, -⟩ | ⟨h, -⟩
    · exact ⟨by decide +kernel, by decide +kernel⟩
    · omega
    · omega
  · obtain ⟨e1, e2⟩ := h.fin (by rw [hF]; exact hs) (by omega)
    rw [e1, Nat.mul_assoc, ← Nat.pow_add] at r3
    have hv : VR true r (s + if u < 2 * t ∨ 2 * t = u ∧ s % 2 = 1 then 1 else 0) k := by
      unfold VR
      rw [r3, show (-((k : Int) + lw true)).toNat = 0 by omega, Nat.pow_zero, Nat.mul_one]
      congr 2
    have hS : S true = 9223372036854775808 := by decide
    have hpos : 0 < s + if u < 2 * t ∨ 2 * t = u ∧ s % 2 = 1 then 1 else 0 := by
      refine Nat.pos_of_ne_zero fun e => ?_
      rw [e] at e1
      have : 0 < n.natAbs := by omega
      have k1 : rnd (fr true) n.natAbs = 0 := by rw [e1]; simp
      unfold rnd at k1
      split at k1
      · omega
      · have k2 := Nat.log2_self_le (n := n.natAbs) (by omega)
        have k3 : 2 ^ fr true ≤ halve n.natAbs (n.natAbs.log2 - fr true) := le_halve (by rw [← Nat.pow_add, show fr true + (n.natAbs.log2 - fr true) = n.natAbs.log2 by omega]; exact k2)
        have k4 : 0 < halve n.natAbs (n.natAbs.log2 - fr true) * 2 ^ (n.natAbs.log2 - fr true) := Nat.mul_pos (Nat.lt_of_lt_of_le (Nat.two_pow_pos _) k3) (Nat.two_pow_pos _)
        omega
    refine ⟨?_, ?_⟩
    · rcases hz with ⟨h0, -⟩ | ⟨-, -, q, q1, q2, rfl⟩ | ⟨-, -, -, hno⟩
      · omega
      · rw [q2.uniq hv, r2]
        by_cases c : n < 0
        · simp only [c, decide_true, if_true]; rw [hS]; omega
        · simp only [c, decide_false, Bool.false_eq_true, if_false]
      · exact absurd hv (hno r r1)
    · rw [Bool.eq_iff_iff, decide_eq_true_iff, decide_eq_true_iff]; exact e2.symm

/-- The reference's Of, by its own Join. -/
theorem of_join32 {n : Int} (h1 : -9223372036854775808 ≤ n) (h2 : n ≤ 9223372036854775807) {k s t u : Nat} (h : HI false n.natAbs k s t u) (hs : s < 2 * 8388608) {z : Int} {o : Bool}
    (hz : Jn32 (decide (n < 0)) (s + if u < 2 * t ∨ 2 * t = u ∧ s % 2 = 1 then 1 else 0) k z o) : IOf false n z (decide (t = 0)) := by
  obtain ⟨r, r1, r2, r3⟩ := of_int false n h1 h2
  have hF : FULL false = 8388608 := by decide
  by_cases hn : n = 0
  · subst hn
    have h0 : s = 0 ∧ t = 0 ∧ 1 ≤ u := by
      obtain ⟨rfl, rfl, rfl, -⟩ := h
      exact ⟨by simp, by simp, Nat.two_pow_pos _⟩
    obtain ⟨rfl, rfl, hu⟩ := h0
    rw [if_neg (by omega)] at hz
    rcases hz with ⟨-, rfl, -⟩ | ⟨h, -⟩ | ⟨h, -⟩
    · exact ⟨by decide +kernel, by decide +kernel⟩
    · omega
    · omega
  · obtain ⟨e1, e2⟩ := h.fin (by rw [hF]; exact hs) (by omega)
    rw [e1, Nat.mul_assoc, ← Nat.pow_add] at r3
    have hv : VR false r (s + if u < 2 * t ∨ 2 * t = u ∧ s % 2 = 1 then 1 else 0) k := by
      unfold VR
      rw [r3, show (-((k : Int) + lw false)).toNat = 0 by omega, Nat.pow_zero, Nat.mul_one]
      congr 2
    have hS : S false = 2147483648 := by decide
    have hpos : 0 < s + if u < 2 * t ∨ 2 * t = u ∧ s % 2 = 1 then 1 else 0 := by
      refine Nat.pos_of_ne_zero fun e => ?_
      rw [e] at e1
      have : 0 < n.natAbs := by omega
      have k1 : rnd (fr false) n.natAbs = 0 := by rw [e1]; simp
      unfold rnd at k1
      split at k1
      · omega
      · have k2 := Nat.log2_self_le (n := n.natAbs) (by omega)
        have k3 : 2 ^ fr false ≤ halve n.natAbs (n.natAbs.log2 - fr false) := le_halve (by rw [← Nat.pow_add, show fr false + (n.natAbs.log2 - fr false) = n.natAbs.log2 by omega]; exact k2)
        have k4 : 0 < halve n.natAbs (n.natAbs.log2 - fr false) * 2 ^ (n.natAbs.log2 - fr false) := Nat.mul_pos (Nat.lt_of_lt_of_le (Nat.two_pow_pos _) k3) (Nat.two_pow_pos _)
        omega
    refine ⟨?_, ?_⟩
    · rcases hz with ⟨h0, -⟩ | ⟨-, -, q, q1, q2, rfl⟩ | ⟨-, -, -, hno⟩
      · omega
      · rw [q2.uniq hv, r2]
        by_cases c : n < 0
        · simp only [c, decide_true, if_true]; rw [hS]; omega
        · simp only [c, decide_false, Bool.false_eq_true, if_false]
      · exact absurd hv (hno r r1)
    · rw [Bool.eq_iff_iff, decide_eq_true_iff, decide_eq_true_iff]; exact e2.symm

end Vg

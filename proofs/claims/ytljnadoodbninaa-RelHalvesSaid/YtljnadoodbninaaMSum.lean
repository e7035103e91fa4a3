/- Rounding a natural number of a format's least units: the nearest rung, between which two it lies, and a number's half. Plain arithmetic. -/
import Derived.Test.YtljnadoodbninaaMNear
import Derived.Test.YtljnadoodbninaaMIv
import Derived.Laws.FloatArith
namespace Vg
open Go Ieee

/-- The rung that so many least units are rounded to, infinity not yet cut off. -/
def U (f : Format) (V : Nat) : Nat := (V.log2 - f.fractionBits) * f.binade + halve V (V.log2 - f.fractionBits)

theorem log2_mid {n F : Nat} (h1 : 2 ^ F ≤ n) (h2 : n < 2 ^ (F + 1)) : n.log2 = F := by
  have hn : n ≠ 0 := by have := Nat.two_pow_pos F; omega
  have a := (Nat.le_log2 hn).2 h1
  have b := (Nat.log2_lt hn).2 h2
  omega

theorem log2_mul_two_pow {n : Nat} (h : 0 < n) (k : Nat) : (n * 2 ^ k).log2 = n.log2 + k := by
  refine log2_mid ?_ ?_
  · rw [Nat.pow_add]; exact Nat.mul_le_mul_right _ (Nat.log2_self_le (by omega))
  · rw [show n.log2 + k + 1 = n.log2 + 1 + k by omega, Nat.pow_add]
    exact Nat.mul_lt_mul_of_pos_right Nat.lt_log2_self (Nat.two_pow_pos _)
theorem halve_scale (n k d : Nat) : halve (n * 2 ^ k) (d + k) = halve n d := by
  have hk : 0 < 2 ^ k := Nat.two_pow_pos _
  have e1 : n * 2 ^ k / 2 ^ (d + k) = n / 2 ^ d := by rw [Nat.pow_add, Nat.mul_div_mul_right _ _ hk]
  have e2 : n * 2 ^ k % 2 ^ (d + k) = n % 2 ^ d * 2 ^ k := by rw [Nat.pow_add, Nat.mul_mod_mul_right]
  have e3 : 2 ^ (d + k) < 2 * (n % 2 ^ d * 2 ^ k) ↔ 2 ^ d < 2 * (n % 2 ^ d) := by
    rw [Nat.pow_add, ← Nat.mul_assoc]; exact Nat.mul_lt_mul_right hk
  have e4 : 2 ^ (d + k) = 2 * (n % 2 ^ d * 2 ^ k) ↔ 2 ^ d = 2 * (n % 2 ^ d) := by
    rw [Nat.pow_add, ← Nat.mul_assoc]; exact ⟨fun h => Nat.eq_of_mul_eq_mul_right hk h, fun h => congrArg (· * 2 ^ k) h⟩
  unfold halve
  rw [e1, e2]
  simp only [e3, e4]

/-- What a number is written as: by its units. -/
theorem nearest_units (f : Format) (s : Bool) (m L : Nat) : f.nearest s m (f.leastPlace + L) = f.word s (min (U f (m * 2 ^ L)) f.infRung) := by
  by_cases h0 : m = 0
  · subst h0
    unfold Format.nearest U
    rw [if_pos rfl, Nat.zero_mul, show Nat.log2 0 = 0 by decide, Nat.zero_sub, halve_zero]
    simp
  · have hl := log2_mul_two_pow (n := m) (by omega) L
    unfold Format.nearest U
    rw [if_neg h0, hl]
    simp only [cut_even]
    congr 2
    by_cases c : m.log2 + L ≤ f.fractionBits
    · rw [show max (f.leastPlace + (L : Int) + (m.log2 : Int) - (f.fractionBits : Int)) f.leastPlace = f.leastPlace by omega, show m.log2 + L - f.fractionBits = 0 by omega, halve_zero, show (f.leastPlace + (L : Int) - f.leastPlace).toNat = L by omega, show (f.leastPlace - (f.leastPlace + (L : Int))).toNat = 0 by omega, halve_zero, Nat.shiftLeft_eq]
      simp
    · rw [show max (f.leastPlace + (L : Int) + (m.log2 : Int) - (f.fractionBits : Int)) f.leastPlace = f.leastPlace + (L : Int) + (m.log2 : Int) - (f.fractionBits : Int) by omega]
      rw [show (f.leastPlace + (L : Int) + (m.log2 : Int) - (f.fractionBits : Int) - f.leastPlace).toNat = m.log2 + L - f.fractionBits by omega]
      congr 1
      rw [Nat.shiftLeft_eq]
      by_cases d : f.fractionBits ≤ m.log2
      · rw [show (f.leastPlace + (L : Int) - (f.leastPlace + (L : Int) + (m.log2 : Int) - (f.fractionBits : Int))).toNat = 0 by omega, Nat.pow_zero, Nat.mul_one, show (f.leastPlace + (L : Int) + (m.log2 : Int) - (f.fractionBits : Int) - (f.leastPlace + (L : Int))).toNat = m.log2 - f.fractionBits by omega, show m.log2 + L - f.fractionBits = m.log2 - f.fractionBits + L by omega, halve_scale]
      · rw [show (f.leastPlace + (L : Int) + (m.log2 : Int) - (f.fractionBits : Int) - (f.leastPlace + (L : Int))).toNat = 0 by omega, halve_zero, show (f.leastPlace + (L : Int) - (f.leastPlace + (L : Int) + (m.log2 : Int) - (f.fractionBits : Int))).toNat = f.fractionBits - m.log2 by omega]
        symm
        refine halve_exact ?_
        rw [Nat.mul_assoc, ← Nat.pow_add, show f.fractionBits - m.log2 + (m.log2 + L - f.fractionBits) = L by omega]
/-- A number whose digits are all shifted is written the same. -/
theorem nearest_shift (f : Format) (s : Bool) (m k : Nat) (P : Int) : f.nearest s (m * 2 ^ k) P = f.nearest s m (P + k) := by
  by_cases h0 : m = 0
  · subst h0; simp [Format.nearest]
  · have hk : 0 < 2 ^ k := Nat.two_pow_pos _
    have hl := log2_mul_two_pow (n := m) (by omega) k
    have hm : 0 < m * 2 ^ k := Nat.mul_pos (by omega) hk
    unfold Format.nearest
    rw [if_neg h0, if_neg (by omega), hl]
    simp only [cut_even]
    have e : P + ((m.log2 + k : Nat) : Int) - (f.fractionBits : Int) = P + (k : Int) + (m.log2 : Int) - (f.fractionBits : Int) := by omega
    rw [e]
    generalize max (P + (k : Int) + (m.log2 : Int) - (f.fractionBits : Int)) f.leastPlace = last
    congr 3
    rw [Nat.shiftLeft_eq, Nat.shiftLeft_eq]
    by_cases c : last ≤ P
    · rw [show (last - P).toNat = 0 by omega, show (last - (P + (k : Int))).toNat = 0 by omega, halve_zero, halve_zero, Nat.mul_assoc, ← Nat.pow_add]
      congr 2; omega
    · rw [show (P - last).toNat = 0 by omega, Nat.pow_zero, Nat.mul_one]
      by_cases d : last ≤ P + k
      · rw [show (last - (P + (k : Int))).toNat = 0 by omega, halve_zero]
        refine halve_exact ?_
        rw [Nat.mul_assoc, ← Nat.pow_add]
        congr 2; omega
      · rw [show (P + (k : Int) - last).toNat = 0 by omega, Nat.pow_zero, Nat.mul_one, show (last - P).toNat = (last - (P + (k : Int))).toNat + k by omega, halve_scale]

section
variable (f : Format)
theorem U_small {V : Nat} (h : V < 2 * f.binade) : U f V = V := by
  by_cases h0 : V = 0
  · subst h0; unfold U; rw [show Nat.log2 0 = 0 by decide, Nat.zero_sub, halve_zero]; simp
  · have : V.log2 < f.fractionBits + 1 := (Nat.log2_lt h0).2 (by unfold Format.binade at h; rw [Nat.pow_succ, Nat.mul_comm]; exact h)
    unfold U
    rw [show V.log2 - f.fractionBits = 0 by omega, halve_zero]; simp
theorem U_parts {V : Nat} (h : 2 * f.binade ≤ V) : ∃ d k, 0 < d ∧ V.log2 = f.fractionBits + d ∧ k = halve V d ∧ U f V = d * f.binade + k ∧ f.binade ≤ k ∧ k ≤ 2 * f.binade ∧ f.binade * 2 ^ d ≤ V ∧ V < 2 * f.binade * 2 ^ d := by
  have hB := binade_pos f
  have h1 : 2 ^ V.log2 ≤ V := Nat.log2_self_le (by omega)
  have h2 : V < 2 ^ (V.log2 + 1) := Nat.lt_log2_self
  have h3 : f.fractionBits + 1 ≤ V.log2 := by
    have := (Nat.le_log2 (n := V) (k := f.fractionBits + 1) (by omega)).2 (by unfold Format.binade at h; rw [Nat.pow_succ, Nat.mul_comm]; exact h)
    exact this
  obtain ⟨d, hd⟩ : ∃ d, V.log2 = f.fractionBits + d := ⟨V.log2 - f.fractionBits, by omega⟩
  have b1 : f.binade * 2 ^ d ≤ V := by unfold Format.binade; rw [← Nat.pow_add, ← hd]; exact h1
  have b2 : V < 2 * f.binade * 2 ^ d := by
    unfold Format.binade
    rw [Nat.mul_comm 2, ← Nat.pow_succ, ← Nat.pow_add, show f.fractionBits + 1 + d = V.log2 + 1 by omega]; exact h2
  refine ⟨d, halve V d, by omega, hd, rfl, ?_, le_halve b1, halve_le b2, b1, b2⟩
  unfold U
  rw [show V.log2 - f.fractionBits = d by omega]
/-- A half away at most. -/
theorem halve_near (n d : Nat) : 2 * n ≤ (2 * halve n d + 1) * 2 ^ d ∧ (2 * halve n d) * 2 ^ d ≤ 2 * n + 2 ^ d := by
  have e := Nat.div_add_mod n (2 ^ d)
  have hm := Nat.mod_lt n (Nat.two_pow_pos d)
  unfold halve
  generalize n / 2 ^ d = q at *
  generalize n % 2 ^ d = t at *
  generalize 2 ^ d = g at *
  have c : q * g = g * q := Nat.mul_comm _ _
  generalize hx : g * q = x at *
  split
  · rw [show (2 * (q + 1) + 1) * g = 2 * (q * g) + 3 * g by rw [Nat.add_mul, Nat.mul_assoc, Nat.add_mul]; omega, show 2 * (q + 1) * g = 2 * (q * g) + 2 * g by rw [Nat.mul_assoc, Nat.add_mul]; omega, c]
    omega
  · rw [show (2 * (q + 0) + 1) * g = 2 * (q * g) + g by rw [Nat.add_mul, Nat.mul_assoc, Nat.add_zero]; omega, show 2 * (q + 0) * g = 2 * (q * g) by rw [Nat.mul_assoc, Nat.add_zero], c]
    omega
theorem U_le {V r : Nat} (h : 2 * V < val f r + val f (r + 1)) : U f V ≤ r := by
  have hB := binade_pos f
  refine Classical.byContradiction fun c => ?_
  have c : r + 1 ≤ U f V := by omega
  rcases Nat.lt_or_ge V (2 * f.binade) with hV | hV
  · rw [U_small f hV] at c
    have e : ∀ x, x < 2 * f.binade → val f x = x := fun x hx => by have := val_rung f 0 x (.inl rfl) (by omega); simpa using this
    rw [e r (by omega), e (r + 1) (by omega)] at h
    omega
  · obtain ⟨d, k, d0, -, hk, hU, k1, k2, b1, b2⟩ := U_parts f hV
    have n2 := (halve_near V d).2
    rw [← hk] at n2
    have v1 : val f (U f V) = k * 2 ^ d := by rw [hU]; exact val_rung f d k (.inr k1) k2
    have m1 : val f (r + 1) ≤ val f (U f V) := by
      rcases Nat.lt_or_ge (r + 1) (U f V) with h | h
      · exact Nat.le_of_lt (val_lt f h)
      · rw [show r + 1 = U f V by omega]; exact Nat.le_refl _
    have m0 : val f r < val f (r + 1) := val_lt f (by omega)
    by_cases hkB : k = f.binade
    · rw [hkB] at v1
      omega
    · obtain ⟨j, rfl⟩ : ∃ j, k = j + 1 := ⟨k - 1, by omega⟩
      have v2 : val f (U f V - 1) = j * 2 ^ d := by rw [hU, show d * f.binade + (j + 1) - 1 = d * f.binade + j by omega]; exact val_rung f d j (.inr (by omega)) (by omega)
      have m2 : val f r ≤ val f (U f V - 1) := by
        rcases Nat.lt_or_ge r (U f V - 1) with h | h
        · exact Nat.le_of_lt (val_lt f h)
        · rw [show r = U f V - 1 by omega]; exact Nat.le_refl _
      rw [Nat.mul_assoc, Nat.add_mul] at n2
      rw [Nat.add_mul] at v1
      omega
theorem le_U {V r : Nat} (h : val f r + val f (r + 1) < 2 * V) : r + 1 ≤ U f V := by
  have hB := binade_pos f
  refine Classical.byContradiction fun c => ?_
  have c : U f V ≤ r := by omega
  have m1 : val f (U f V) ≤ val f r := by
    rcases Nat.lt_or_ge (U f V) r with h | h
    · exact Nat.le_of_lt (val_lt f h)
    · rw [show r = U f V by omega]; exact Nat.le_refl _
  have m2 : val f (U f V + 1) ≤ val f (r + 1) := by
    rcases Nat.lt_or_ge (U f V) r with h | h
    · exact Nat.le_of_lt (val_lt f (by omega))
    · rw [show r = U f V by omega]; exact Nat.le_refl _
  have m0 : val f r < val f (r + 1) := val_lt f (by omega)
  rcases Nat.lt_or_ge V (2 * f.binade) with hV | hV
  · have e : val f V = V := by have := val_rung f 0 V (.inl rfl) (by omega); simpa using this
    rw [U_small f hV, e] at m1
    rw [U_small f hV] at m2
    have := val_lt f (r := V) (s := V + 1) (by omega)
    omega
  · obtain ⟨d, k, d0, -, hk, hU, k1, k2, b1, b2⟩ := U_parts f hV
    have n1 := (halve_near V d).1
    rw [← hk] at n1
    have v1 : val f (U f V) = k * 2 ^ d := by rw [hU]; exact val_rung f d k (.inr k1) k2
    by_cases hkB : k = 2 * f.binade
    · rw [hkB] at v1
      omega
    · have v2 : val f (U f V + 1) = (k + 1) * 2 ^ d := by rw [hU, Nat.add_assoc]; exact val_rung f d (k + 1) (.inr (by omega)) (by omega)
      rw [Nat.add_mul, Nat.mul_assoc] at n1
      rw [Nat.add_mul] at v2
      omega
theorem U_val (r : Nat) : U f (val f r) = r := by
  have a : U f (val f r) ≤ r := U_le f (by have := val_lt f (r := r) (s := r + 1) (by omega); omega)
  rcases Nat.eq_zero_or_pos r with h | h
  · omega
  · obtain ⟨t, rfl⟩ : ∃ t, r = t + 1 := ⟨r - 1, by omega⟩
    have b : t + 1 ≤ U f (val f (t + 1)) := le_U f (by have := val_lt f (r := t) (s := t + 1) (by omega); omega)
    omega
theorem U_le_val {V r : Nat} (h : V ≤ val f r) : U f V ≤ r := U_le f (by have := val_lt f (r := r) (s := r + 1) (by omega); omega)
theorem val_le_U {V r : Nat} (h : val f r ≤ V) : r ≤ U f V := by
  rcases Nat.eq_zero_or_pos r with h0 | h0
  · omega
  · obtain ⟨t, rfl⟩ : ∃ t, r = t + 1 := ⟨r - 1, by omega⟩
    exact le_U f (by have := val_lt f (r := t) (s := t + 1) (by omega); omega)
theorem val_small {r : Nat} (h : r ≤ 2 * f.binade) : val f r = r := by have := val_rung f 0 r (.inl rfl) h; simpa using this
theorem val_dbl {r : Nat} (h : f.binade ≤ r) : val f (r + f.binade) = 2 * val f r := by
  have hB := binade_pos f
  unfold val
  rw [if_neg (by omega), if_neg (by omega), Nat.add_mod_right, Nat.add_div_right _ hB]
  have : 1 ≤ r / f.binade := (Nat.le_div_iff_mul_le hB).2 (by omega)
  rw [show (r / f.binade).succ - 1 = r / f.binade - 1 + 1 by omega, Nat.pow_succ, Nat.mul_comm (2 ^ _) 2, ← Nat.mul_assoc, ← Nat.mul_assoc, Nat.mul_comm _ 2]

/-- The rung of a number's half. -/
def RH (s : Nat) : Nat := if s < 2 * f.binade then halve s 1 else s - f.binade
theorem halve_one (s : Nat) : 2 * halve s 1 ≤ s + 1 ∧ s ≤ 2 * halve s 1 + 1 := by
  have := halve_near s 1
  omega
theorem RH_le (s : Nat) : RH f s ≤ s ∧ (0 < s → RH f s < s) := by
  have hB := binade_pos f
  have := halve_one s
  unfold RH
  split
  · refine ⟨by omega, fun h => ?_⟩
    by_cases e : s = 1
    · subst e; decide
    · omega
  · omega
/-- The middle of two that are not neighbours lies between them. -/
theorem between_sum {P Q V : Nat} (h : P + 2 ≤ Q) (hV : V = val f P + val f Q) : P + 1 ≤ RH f (U f V) ∧ RH f (U f V) + 1 ≤ Q := by
  have hB := binade_pos f
  have vQ : val f (P + 1) < val f Q := val_lt f (by omega)
  have vP : val f P < val f (P + 1) := val_lt f (by omega)
  have vq : val f (Q - 1) < val f Q := val_lt f (by omega)
  have vp : val f P < val f (Q - 1) := val_lt f (by omega)
  rcases Nat.lt_or_ge V (2 * f.binade) with c | c
  · have hQ : Q < 2 * f.binade := by
      rcases Nat.lt_or_ge Q (2 * f.binade) with d | d
      · exact d
      · have := val_small f (r := 2 * f.binade) (Nat.le_refl _)
        have : val f (2 * f.binade) ≤ val f Q := by
          rcases Nat.lt_or_ge (2 * f.binade) Q with h | h
          · exact Nat.le_of_lt (val_lt f h)
          · rw [show Q = 2 * f.binade by omega]; exact Nat.le_refl _
        omega
    rw [val_small f (r := P) (by omega), val_small f (r := Q) (by omega)] at hV
    rw [U_small f c]
    unfold RH
    rw [if_pos c]
    have n := halve_one V
    refine ⟨le_halve (by omega), ?_⟩
    rcases Nat.lt_or_ge V ((Q - 1) * 2) with d | d
    · have := halve_le (n := V) (drop := 1) (B := Q - 1) (by omega); omega
    · have := halve_exact (n := V) (drop := 1) (k := Q - 1) (by omega); omega
  · have hU : 2 * f.binade ≤ U f V := val_le_U f (by rw [val_small f (Nat.le_refl _)]; exact c)
    unfold RH
    rw [if_neg (by omega)]
    have hQ : f.binade + 1 ≤ Q := by
      refine Classical.byContradiction fun d => ?_
      rw [val_small f (r := P) (by omega), val_small f (r := Q) (by omega)] at hV
      omega
    constructor
    · rcases Nat.lt_or_ge P f.binade with d | d
      · omega
      · have := le_U f (V := V) (r := P + f.binade) (by rw [show P + f.binade + 1 = P + 1 + f.binade by omega, val_dbl f d, val_dbl f (r := P + 1) (by omega)]; omega)
        omega
    · have := U_le f (V := V) (r := Q - 1 + f.binade) (by rw [show Q - 1 + f.binade + 1 = Q + f.binade by omega, val_dbl f (r := Q - 1) (by omega), val_dbl f (r := Q) (by omega)]; omega)
      omega
/-- The same by halves. -/
theorem between_halves {P Q V : Nat} (h : P + 2 ≤ Q) (hV : 2 * V = val f P + val f Q) : P + 1 ≤ U f V ∧ U f V + 1 ≤ Q := by
  have vQ : val f (P + 1) < val f Q := val_lt f (by omega)
  have vp : val f P < val f (Q - 1) := val_lt f (by omega)
  refine ⟨le_U f (by omega), ?_⟩
  have := U_le f (V := V) (r := Q - 1) (by rw [show Q - 1 + 1 = Q by omega]; omega)
  omega
theorem RH_val {P : Nat} (h : 2 * f.binade ≤ P) : 2 * val f (RH f P) = val f P := by
  unfold RH
  rw [if_neg (by omega)]
  obtain ⟨t, rfl⟩ : ∃ t, P = t + f.binade := ⟨P - f.binade, by omega⟩
  rw [Nat.add_sub_cancel, val_dbl f (by omega)]
end
/-- A place's signed number of units. -/
def sv (p : Int) : Int := if p < 0 then -(val FloatKind.f64.format p.natAbs : Int) else val FloatKind.f64.format p.natAbs

theorem f64_word (n : Bool) {r : Nat} (h : r ≤ 9218868437227405312) : FloatKind.f64.format.word n r ≤ 18446744073709551615 ∧ rg true (FloatKind.f64.format.word n r) = r ∧ pl true (FloatKind.f64.format.word n r) = (if n then -(r : Int) else r) ∧ nn true (FloatKind.f64.format.word n r) = false := by
  have e : FloatKind.f64.format.word n r = (if n then 9223372036854775808 + r else r) := rfl
  rw [e]
  cases n <;> simp [rg, pl, nn, ng, S, INF] <;> omega
theorem f64_neg (b : Nat) (hb : b ≤ 18446744073709551615) : neg FloatKind.f64.format b = ng true b := by
  have e : neg FloatKind.f64.format b = (b / 9223372036854775808 % 2 == 1) := rfl
  rw [e]
  unfold ng
  simp only [S, if_true]
  rw [Bool.eq_iff_iff]
  simp only [beq_iff_eq, decide_eq_true_eq]
  omega
theorem f64_rung (b : Nat) : rung FloatKind.f64.format b = rg true b := rfl
theorem f64_inf : FloatKind.f64.format.infRung = 9218868437227405312 := by decide
theorem f64_B : FloatKind.f64.format.binade = 4503599627370496 := by decide

/-- A number's units, with their sign. -/
def su (b : Nat) : Int := if ng true b then -(val FloatKind.f64.format (rg true b) : Int) else val FloatKind.f64.format (rg true b)
theorem su_atn {p : Int} (h : Pl p) : su (atn true p) = sv p := by
  have e := pl_atn h
  unfold su sv
  have hb := h.bd
  unfold pl at e
  by_cases c : p < 0
  · rw [if_pos c]
    cases hn : ng true (atn true p)
    · rw [hn] at e; simp at e; omega
    · rw [hn] at e; simp at e; rw [if_pos rfl, show rg true (atn true p) = p.natAbs by omega]
  · rw [if_neg c]
    cases hn : ng true (atn true p)
    · rw [hn] at e; simp at e; simp; rw [show rg true (atn true p) = p.natAbs by omega]
    · rw [hn] at e; simp at e; rw [if_pos rfl, show rg true (atn true p) = 0 by omega, show p.natAbs = 0 by omega, val_zero]; rfl

theorem abs_mul_pow (s : Bool) (m k : Nat) : (if s then -((m * 2 ^ k : Nat) : Int) else ((m * 2 ^ k : Nat) : Int)) = (if s then -(m : Int) else m) * 2 ^ k := by
  cases s
  · simp
  · simp [Int.neg_mul]
/-- The sum of two numbers. -/
theorem add_num (x y : Nat) (hx : x ≤ 18446744073709551615) (hy : y ≤ 18446744073709551615) (fx : rg true x < 9218868437227405312) (fy : rg true y < 9218868437227405312) :
    ∃ n, floatBits .add .f64 x y = some (FloatKind.f64.format.word n (min (U FloatKind.f64.format (su x + su y).natAbs) 9218868437227405312)) ∧ (su x + su y < 0 → n = true) ∧ (0 < su x + su y → n = false) := by
  obtain ⟨m, i, rx, li, mi⟩ := read_number FloatKind.f64.format x (by rw [f64_rung, f64_inf]; exact fx)
  obtain ⟨k, j, ry, lj, mj⟩ := read_number FloatKind.f64.format y (by rw [f64_rung, f64_inf]; exact fy)
  rw [f64_rung] at mi mj
  rw [f64_neg x hx] at rx
  rw [f64_neg y hy] at ry
  have e : floatBits .add .f64 x y = ((FloatKind.f64.format.read x).sum (FloatKind.f64.format.read y)).map FloatKind.f64.format.write := rfl
  rw [e, rx, ry]
  simp only [Datum.sum, Option.map_some, Format.write, signed_eq, abs_mul_pow]
  obtain ⟨L, hL⟩ : ∃ L : Nat, min i j = FloatKind.f64.format.leastPlace + L := ⟨(min i j - FloatKind.f64.format.leastPlace).toNat, by omega⟩
  have ei : (i - FloatKind.f64.format.leastPlace).toNat = (i - min i j).toNat + L := by omega
  have ej : (j - FloatKind.f64.format.leastPlace).toNat = (j - min i j).toNat + L := by omega
  have u1 : su x = (if ng true x then -(m : Int) else m) * 2 ^ (i - min i j).toNat * 2 ^ L := by
    unfold su; rw [← mi, ei, abs_mul_pow, Int.pow_add, Int.mul_assoc]
  have u2 : su y = (if ng true y then -(k : Int) else k) * 2 ^ (j - min i j).toNat * 2 ^ L := by
    unfold su; rw [← mj, ej, abs_mul_pow, Int.pow_add, Int.mul_assoc]
  generalize (if ng true x then -(m : Int) else m) * 2 ^ (i - min i j).toNat = A at *
  generalize (if ng true y then -(k : Int) else k) * 2 ^ (j - min i j).toNat = C at *
  have u3 : su x + su y = (A + C) * 2 ^ L := by rw [u1, u2, Int.add_mul]
  have hp : (0 : Int) < 2 ^ L := Int.pow_pos (by decide)
  rw [hL, nearest_units, f64_inf]
  have u4 : (su x + su y).natAbs = (A + C).natAbs * 2 ^ L := by
    rw [u3, Int.natAbs_mul, Int.natAbs_pow]; rfl
  rw [u4]
  refine ⟨_, rfl, ?_, ?_⟩
  · intro h
    have : A + C < 0 := by
      refine Classical.byContradiction fun c => ?_
      have := Int.mul_nonneg (show 0 ≤ A + C by omega) (Int.le_of_lt hp)
      omega
    rw [if_neg (by omega)]; exact decide_eq_true this
  · intro h
    have : 0 < A + C := by
      refine Classical.byContradiction fun c => ?_
      have := Int.mul_nonneg (show 0 ≤ -(A + C) by omega) (Int.le_of_lt hp)
      rw [Int.neg_mul] at this
      omega
    rw [if_neg (by omega)]; exact decide_eq_false (by omega)
theorem read_half (b : Nat) (hb : b ≤ 18446744073709551615) (h : rg true b < 9218868437227405312) : ∃ m i, FloatKind.f64.format.read b = .number (ng true b) m i ∧ m < 9007199254740992 ∧
    (i = FloatKind.f64.format.leastPlace ∧ m = rg true b ∧ rg true b < 9007199254740992 ∨ 9007199254740992 ≤ rg true b ∧ FloatKind.f64.format.leastPlace + 1 ≤ i ∧ m * 2 ^ (i - FloatKind.f64.format.leastPlace).toNat = val FloatKind.f64.format (rg true b)) := by
  obtain ⟨m, i, rx, li, mi⟩ := read_number FloatKind.f64.format b (by rw [f64_rung, f64_inf]; exact h)
  rw [f64_neg b hb] at rx
  rw [f64_rung] at mi
  have e2 : FloatKind.f64.format.read b = .number (ng true b) (if rg true b < 4503599627370496 then rg true b else 4503599627370496 + rg true b % 4503599627370496) (if rg true b < 4503599627370496 then FloatKind.f64.format.leastPlace else FloatKind.f64.format.leastPlace + (rg true b / 4503599627370496 - 1 : Nat)) := by
    have e := f64_neg b hb
    unfold neg at e
    unfold Format.read
    rw [e, f64_B, f64_inf]
    have e3 : b % FloatKind.f64.format.signWeight = rg true b := rfl
    simp only [e3]
    by_cases c : rg true b < 4503599627370496
    · simp only [c, if_true]
    · simp only [c, h, if_true, if_false]
  rw [e2] at rx
  injection rx with _ hm hi
  refine ⟨m, i, by rw [e2, hm, hi], by rw [← hm]; split <;> omega, ?_⟩
  by_cases c : rg true b < 9007199254740992
  · refine .inl ⟨?_, ?_, c⟩
    · rw [← hi]; split <;> omega
    · rw [← hm]; split <;> omega
  · refine .inr ⟨by omega, ?_, mi⟩
    rw [← hi, if_neg (by omega)]; omega
theorem RH_le_r (r : Nat) : RH FloatKind.f64.format r ≤ r := (RH_le _ r).1
/-- A number's half. -/
theorem quo_two (b : Nat) (hb : b ≤ 18446744073709551615) (h : rg true b < 9218868437227405312) : floatBits .quo .f64 b 4611686018427387904 = some (FloatKind.f64.format.word (ng true b) (RH FloatKind.f64.format (rg true b))) := by
  obtain ⟨m, i, rx, hm, hc⟩ := read_half b hb h
  have e : floatBits .quo .f64 b 4611686018427387904 = ((FloatKind.f64.format.read b).quotient 54 (.number false 4503599627370496 (-51))).map FloatKind.f64.format.write := rfl
  rw [e, rx]
  simp only [Datum.quotient]
  rw [if_neg (by decide)]
  have hl : m.log2 ≤ 52 := by
    by_cases h0 : m = 0
    · subst h0; decide
    · have := (Nat.log2_lt h0 (k := 53)).2 (by omega); omega
  have l2 : Nat.log2 4503599627370496 = 52 := by decide +kernel
  rw [l2, Nat.shiftLeft_eq]
  obtain ⟨k, hk⟩ : ∃ k, 54 + 52 - m.log2 = 52 + k := ⟨54 - m.log2, by omega⟩
  rw [hk, show m * 2 ^ (52 + k) = m * 2 ^ k * 4503599627370496 by rw [Nat.add_comm, Nat.pow_add, ← Nat.mul_assoc], Nat.mul_div_cancel _ (by decide), Nat.mul_mod_left]
  rw [show 2 * (m * 2 ^ k) + ((0 : Nat) != 0).toNat = m * 2 ^ (k + 1) by rw [Nat.pow_succ, ← Nat.mul_assoc m, Nat.mul_comm (m * 2 ^ k) 2]; rfl]
  rw [Option.map_some, Format.write, nearest_shift, show i - -51 - ((52 + k : Nat) : Int) - 1 + ((k + 1 : Nat) : Int) = i - 1 by omega, Bool.xor_false]
  congr 1
  rcases hc with ⟨rfl, rfl, c⟩ | ⟨c, hi, hv⟩
  · unfold RH
    rw [f64_B, if_pos c]
    unfold Format.nearest
    by_cases h0 : rg true b = 0
    · rw [if_pos h0, h0]; rfl
    · rw [if_neg h0]
      have hF : FloatKind.f64.format.fractionBits = 52 := rfl
      rw [hF]
      rw [show max (FloatKind.f64.format.leastPlace - 1 + ((rg true b).log2 : Int) - ((52 : Nat) : Int)) FloatKind.f64.format.leastPlace = FloatKind.f64.format.leastPlace by omega]
      simp only [cut_even]
      rw [show (FloatKind.f64.format.leastPlace - 1 - FloatKind.f64.format.leastPlace).toNat = 0 by omega, show (FloatKind.f64.format.leastPlace - (FloatKind.f64.format.leastPlace - 1)).toNat = 1 by omega, Int.sub_self, f64_inf]
      have := (halve_one (rg true b)).1
      simp only [Int.toNat_zero, Nat.zero_mul, Nat.zero_add, Nat.shiftLeft_zero]
      rw [Nat.min_eq_left (by omega)]
  · obtain ⟨L, hL⟩ : ∃ L : Nat, i - 1 = FloatKind.f64.format.leastPlace + L := ⟨(i - 1 - FloatKind.f64.format.leastPlace).toNat, by omega⟩
    rw [hL, nearest_units, f64_inf]
    have r2 := RH_val FloatKind.f64.format (P := rg true b) (by rw [f64_B]; omega)
    have e4 : m * 2 ^ L = val FloatKind.f64.format (RH FloatKind.f64.format (rg true b)) := by
      rw [show (i - FloatKind.f64.format.leastPlace).toNat = L + 1 by omega, Nat.pow_succ, ← Nat.mul_assoc] at hv
      omega
    have := RH_le_r (rg true b)
    rw [e4, U_val, Nat.min_eq_left (by omega)]

/-- What the program's middle of two numbers is made of. -/
def Cen (p q c : Int) : Prop := ∃ s, s ≤ 18446744073709551615 ∧ floatBits .add .f64 (atn true p) (atn true q) = some s ∧
    (infb s = false ∧ (∃ d, d ≤ 18446744073709551615 ∧ floatBits .quo .f64 s 4611686018427387904 = some d ∧ plainb true d = atn true c) ∨
     infb s = true ∧ ∃ x y, floatBits .quo .f64 (atn true p) 4611686018427387904 = some x ∧ floatBits .quo .f64 (atn true q) 4611686018427387904 = some y ∧ floatBits .add .f64 x y = some (atn true c))

theorem sv_pos {p : Int} (h : 0 ≤ p) : sv p = val FloatKind.f64.format p.natAbs := by unfold sv; rw [if_neg (by omega)]
theorem sv_neg {p : Int} (h : p ≤ 0) : sv p = -(val FloatKind.f64.format p.natAbs : Int) := by
  unfold sv
  split
  · rfl
  · rw [show p.natAbs = 0 by omega, val_zero]; rfl
theorem atn_neg_word {c : Int} (h : c < 0) : atn true c = FloatKind.f64.format.word true c.natAbs := by
  have e : FloatKind.f64.format.word true c.natAbs = 9223372036854775808 + c.natAbs := rfl
  rw [e]; unfold atn; simp only [S, if_true]; rw [if_pos h]; omega
theorem atn_pos_word {c : Int} (h : 0 ≤ c) : atn true c = FloatKind.f64.format.word false c.natAbs := by
  have e : FloatKind.f64.format.word false c.natAbs = c.natAbs := rfl
  rw [e]; unfold atn; rw [if_neg (by omega)]; omega
theorem rg_atn {p : Int} (h : Pl p) : rg true (atn true p) = p.natAbs := by
  have e := pl_atn h
  unfold pl at e
  split at e <;> omega
theorem ng_word64 (n : Bool) {r : Nat} (h : r ≤ 9218868437227405312) : ng true (FloatKind.f64.format.word n r) = n := by
  have e : FloatKind.f64.format.word n r = (if n then 9223372036854775808 + r else r) := rfl
  rw [e]
  cases n <;> simp [ng, S] <;> omega
theorem su_word (n : Bool) {r : Nat} (h : r ≤ 9218868437227405312) : su (FloatKind.f64.format.word n r) = if n then -(val FloatKind.f64.format r : Int) else val FloatKind.f64.format r := by
  unfold su; rw [ng_word64 n h, (f64_word n h).2.1]
theorem ng_atn {p : Int} (h : Pl p) : ng true (atn true p) = decide (p < 0) := by
  by_cases c : p < 0
  · rw [atn_neg_word c, ng_word64 _ (by have := h.bd; omega), decide_eq_true c]
  · rw [atn_pos_word (by omega), ng_word64 _ (by have := h.bd; omega), decide_eq_false c]
/-- No infinity comes of two of which one is small. -/
theorem over_big {P Q : Nat} (hQ : Q < 9218868437227405312) (ho : 9218868437227405312 ≤ U FloatKind.f64.format (val FloatKind.f64.format P + val FloatKind.f64.format Q)) : 9007199254740992 ≤ P := by
  refine Classical.byContradiction fun c => ?_
  have h1 : val FloatKind.f64.format P < val FloatKind.f64.format 9007199254740992 := val_lt _ (by omega)
  have h2 : val FloatKind.f64.format Q ≤ val FloatKind.f64.format 9218868437227405311 := by
    rcases Nat.lt_or_ge Q 9218868437227405311 with d | d
    · exact Nat.le_of_lt (val_lt _ d)
    · rw [show Q = 9218868437227405311 by omega]; exact Nat.le_refl _
  have h3 : 2 * (val FloatKind.f64.format 9007199254740992 + val FloatKind.f64.format 9218868437227405311) < val FloatKind.f64.format 9218868437227405311 + val FloatKind.f64.format (9218868437227405311 + 1) := by decide +kernel
  have := U_le FloatKind.f64.format (V := val FloatKind.f64.format P + val FloatKind.f64.format Q) (r := 9218868437227405311) (by omega)
  omega

theorem cen (p q : Int) (h1 : -PI < p) (h2 : q < PI) (h : p + 1 < q) : ∃ c, Cen p q c ∧ p < c ∧ c < q := by
  rw [PI_eq] at h1 h2
  have hp : Pl p := by unfold Pl; rw [PI_eq]; omega
  have hq : Pl q := by unfold Pl; rw [PI_eq]; omega
  have ap := atn_le hp
  have aq := atn_le hq
  have rp := rg_atn hp
  have rq := rg_atn hq
  obtain ⟨n, hs, n1, n2⟩ := add_num _ _ ap aq (by omega) (by omega)
  rw [su_atn hp, su_atn hq] at hs n1 n2
  -- what the sum's rung is, by its signs
  have key : ∀ (V : Nat), (sv p + sv q).natAbs = V → U FloatKind.f64.format V < 9218868437227405312 → ∀ c, c = (if n then -(RH FloatKind.f64.format (U FloatKind.f64.format V) : Int) else RH FloatKind.f64.format (U FloatKind.f64.format V)) → Cen p q c := by
    intro V hV hU c hc
    rw [hV, Nat.min_eq_left (by omega)] at hs
    obtain ⟨w1, w2, w3, w4⟩ := f64_word n (r := U FloatKind.f64.format V) (by omega)
    refine ⟨_, w1, hs, .inl ⟨?_, ?_⟩⟩
    · unfold infb; rw [w2]; exact decide_eq_false (by omega)
    · have hq2 := quo_two _ w1 (by rw [w2]; exact hU)
      have hr := RH_le_r (U FloatKind.f64.format V)
      obtain ⟨v1, v2, v3, v4⟩ := f64_word (ng true (FloatKind.f64.format.word n (U FloatKind.f64.format V))) (r := RH FloatKind.f64.format (U FloatKind.f64.format V)) (by omega)
      rw [w2] at hq2
      refine ⟨_, v1, hq2, ?_⟩
      rw [plain_atn v1 v4, v3, hc]
      congr 1
      have hng : ng true (FloatKind.f64.format.word n (U FloatKind.f64.format V)) = n := by
        have e : FloatKind.f64.format.word n (U FloatKind.f64.format V) = (if n then 9223372036854775808 + U FloatKind.f64.format V else U FloatKind.f64.format V) := rfl
        rw [e]
        cases n <;> simp [ng, S] <;> omega
      rw [hng]
  have over : ∀ (V : Nat), (sv p + sv q).natAbs = V → 9218868437227405312 ≤ U FloatKind.f64.format V → ∀ c, (∃ x y, floatBits .quo .f64 (atn true p) 4611686018427387904 = some x ∧ floatBits .quo .f64 (atn true q) 4611686018427387904 = some y ∧ floatBits .add .f64 x y = some (atn true c)) → Cen p q c := by
    intro V hV hU c hc
    rw [hV, Nat.min_eq_right hU] at hs
    obtain ⟨w1, w2, w3, w4⟩ := f64_word n (r := 9218868437227405312) (by omega)
    refine ⟨_, w1, hs, .inr ⟨?_, hc⟩⟩
    unfold infb; rw [w2]; rfl
  have half : ∀ {r : Int} (hr : Pl r), r.natAbs < 9218868437227405312 → ∃ x, floatBits .quo .f64 (atn true r) 4611686018427387904 = some x ∧ x ≤ 18446744073709551615 ∧ rg true x < 9218868437227405312 ∧ (0 ≤ r → su x = val FloatKind.f64.format (RH FloatKind.f64.format r.natAbs)) ∧ (r ≤ 0 → su x = -(val FloatKind.f64.format (RH FloatKind.f64.format r.natAbs) : Int)) := by
    intro r hr hi
    have e := quo_two _ (atn_le hr) (by rw [rg_atn hr]; exact hi)
    rw [rg_atn hr] at e
    have hl := RH_le_r r.natAbs
    obtain ⟨v1, v2, v3, v4⟩ := f64_word (ng true (atn true r)) (r := RH FloatKind.f64.format r.natAbs) (by omega)
    refine ⟨_, e, v1, by omega, ?_, ?_⟩
    all_goals
      intro h0
      rw [su_word _ (by omega), ng_atn hr]
    · rw [decide_eq_false (by omega)]; rfl
    · by_cases h1 : r < 0
      · rw [decide_eq_true h1]; rfl
      · rw [decide_eq_false h1, show r.natAbs = 0 by omega]
        have : RH FloatKind.f64.format 0 = 0 := by decide
        rw [this, val_zero]; rfl
  -- both of one sign
  have one : ∀ {P Q : Nat}, P + 2 ≤ Q → Q < 9218868437227405312 → (sv p + sv q = (val FloatKind.f64.format P + val FloatKind.f64.format Q : Nat) ∧ n = false ∧ 0 ≤ p ∧ P = p.natAbs ∧ Q = q.natAbs ∨ sv p + sv q = -((val FloatKind.f64.format P + val FloatKind.f64.format Q : Nat) : Int) ∧ n = true ∧ q ≤ 0 ∧ P = q.natAbs ∧ Q = p.natAbs) → ∃ c, Cen p q c ∧ p < c ∧ c < q := by
    intro P Q hPQ hQ hc
    have bs := between_sum FloatKind.f64.format hPQ rfl
    rcases Nat.lt_or_ge (U FloatKind.f64.format (val FloatKind.f64.format P + val FloatKind.f64.format Q)) 9218868437227405312 with o | o
    · refine ⟨_, key (val FloatKind.f64.format P + val FloatKind.f64.format Q) (by omega) o _ rfl, ?_⟩
      rcases hc with ⟨-, rfl, hc⟩ | ⟨-, rfl, hc⟩
      · simp only [Bool.false_eq_true, if_false]; omega
      · simp only [if_true]; omega
    · have ob := over_big hQ o
      have r1 := RH_val FloatKind.f64.format (P := P) (by rw [f64_B]; omega)
      have r2 := RH_val FloatKind.f64.format (P := Q) (by rw [f64_B]; omega)
      have bh := between_halves FloatKind.f64.format hPQ (V := val FloatKind.f64.format (RH FloatKind.f64.format P) + val FloatKind.f64.format (RH FloatKind.f64.format Q)) (by omega)
      have vp : val FloatKind.f64.format P < val FloatKind.f64.format Q := val_lt _ (by omega)
      obtain ⟨x, hx, x1, x2, x3, x4⟩ := half hp (by omega)
      obtain ⟨y, hy, y1, y2, y3, y4⟩ := half hq (by omega)
      obtain ⟨k, ha, k1, k2⟩ := add_num x y x1 y1 x2 y2
      rcases hc with ⟨hv, -, h0, e1, e2⟩ | ⟨hv, -, h0, e1, e2⟩
      · have y3 := y3 (by omega)
        have x3 := x3 h0
        rw [← e1] at x3
        rw [← e2] at y3
        have kk := k2 (by omega)
        rw [kk, show (su x + su y).natAbs = val FloatKind.f64.format (RH FloatKind.f64.format P) + val FloatKind.f64.format (RH FloatKind.f64.format Q) by omega, Nat.min_eq_left (by omega)] at ha
        refine ⟨(U FloatKind.f64.format (val FloatKind.f64.format (RH FloatKind.f64.format P) + val FloatKind.f64.format (RH FloatKind.f64.format Q)) : Nat), over _ (by omega) o _ ⟨x, y, hx, hy, ?_⟩, by omega, by omega⟩
        rw [ha, atn_pos_word (by omega), Int.natAbs_natCast]
      · have y4 := y4 h0
        have x4 := x4 (by omega)
        rw [← e2] at x4
        rw [← e1] at y4
        have kk := k1 (by omega)
        rw [kk, show (su x + su y).natAbs = val FloatKind.f64.format (RH FloatKind.f64.format P) + val FloatKind.f64.format (RH FloatKind.f64.format Q) by omega, Nat.min_eq_left (by omega)] at ha
        refine ⟨-((U FloatKind.f64.format (val FloatKind.f64.format (RH FloatKind.f64.format P) + val FloatKind.f64.format (RH FloatKind.f64.format Q)) : Nat) : Int), over _ (by omega) o _ ⟨x, y, hx, hy, ?_⟩, by omega, by omega⟩
        rw [ha, atn_neg_word (by omega), Int.natAbs_neg, Int.natAbs_natCast]
  by_cases c1 : 0 ≤ p
  · have v : val FloatKind.f64.format p.natAbs < val FloatKind.f64.format q.natAbs := val_lt _ (by omega)
    have s1 := sv_pos c1
    have s2 := sv_pos (p := q) (by omega)
    exact one (P := p.natAbs) (Q := q.natAbs) (by omega) (by omega) (.inl ⟨by omega, n2 (by omega), c1, rfl, rfl⟩)
  · by_cases c2 : q ≤ 0
    · have v : val FloatKind.f64.format q.natAbs < val FloatKind.f64.format p.natAbs := val_lt _ (by omega)
      have s1 := sv_neg c2
      have s2 := sv_neg (p := p) (by omega)
      exact one (P := q.natAbs) (Q := p.natAbs) (by omega) (by omega) (.inr ⟨by omega, n1 (by omega), c2, rfl, rfl⟩)
    · have s1 := sv_pos (p := q) (by omega)
      have s2 := sv_neg (p := p) (by omega)
      have z1 : U FloatKind.f64.format (sv p + sv q).natAbs ≤ p.natAbs ∨ U FloatKind.f64.format (sv p + sv q).natAbs ≤ q.natAbs := by
        by_cases d : 0 ≤ sv p + sv q
        · exact .inr (U_le_val _ (by omega))
        · exact .inl (U_le_val _ (by omega))
      have zr := RH_le FloatKind.f64.format (U FloatKind.f64.format (sv p + sv q).natAbs)
      refine ⟨_, key _ rfl (by omega) _ rfl, ?_⟩
      by_cases d : 0 ≤ sv p + sv q
      · have z2 : U FloatKind.f64.format (sv p + sv q).natAbs ≤ q.natAbs := U_le_val _ (by omega)
        by_cases d0 : sv p + sv q = 0
        · have : U FloatKind.f64.format (sv p + sv q).natAbs = 0 := by rw [d0]; decide
          rw [this] at zr ⊢
          have : RH FloatKind.f64.format 0 = 0 := by omega
          rw [this]
          cases n <;> simp <;> omega
        · rw [n2 (by omega)]
          simp only [Bool.false_eq_true, if_false]
          omega
      · have z2 : U FloatKind.f64.format (sv p + sv q).natAbs ≤ p.natAbs := U_le_val _ (by omega)
        rw [n1 (by omega)]
        simp only [if_true]
        omega
end Vg

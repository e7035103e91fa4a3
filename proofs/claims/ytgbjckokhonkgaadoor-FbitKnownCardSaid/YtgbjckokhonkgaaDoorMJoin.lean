/- Which pattern a significand and an exponent make, if one does. Plain arithmetic. -/
import Derived.Test.YtgbjckokhonkgaaDoorMWholeR
namespace Vg
open Go

/-- The magnitude of rung r is s 2^x. -/
def VR (l : Bool) (r s : Nat) (x : Int) : Prop := vl l r * 2 ^ (-(x + lw l)).toNat = s * 2 ^ (x + lw l).toNat
section
variable {l : Bool} {r s : Nat} {x : Int}
theorem VR.at (N : Nat) (h : 0 ≤ N + (x + lw l)) : VR l r s x ↔ vl l r * 2 ^ N = s * 2 ^ (N + (x + lw l)).toNat := by
  unfold VR
  rcases Int.le_total 0 (x + lw l) with c | c
  · rw [show (-(x + lw l)).toNat = 0 by omega, show (N + (x + lw l)).toNat = (x + lw l).toNat + N by omega, Nat.pow_add, Nat.pow_zero, Nat.mul_one, ← Nat.mul_assoc]
    exact ⟨fun h => by rw [h], fun h => Nat.eq_of_mul_eq_mul_right (Nat.two_pow_pos _) h⟩
  · rw [show (x + lw l).toNat = 0 by omega, Nat.pow_zero, Nat.mul_one]
    have e : (2 : Nat) ^ N = 2 ^ (-(x + lw l)).toNat * 2 ^ (N + (x + lw l)).toNat := by rw [← Nat.pow_add]; congr 1; omega
    rw [e, ← Nat.mul_assoc]
    exact ⟨fun h => by rw [h], fun h => Nat.eq_of_mul_eq_mul_right (Nat.two_pow_pos _) h⟩
theorem VR.shift (j : Nat) : VR l r (s * 2 ^ j) x ↔ VR l r s (x + j) := by
  have h1 : 0 ≤ ((-(x + lw l)).toNat : Int) + (x + lw l) := by omega
  rw [VR.at (-(x + lw l)).toNat h1, VR.at (-(x + lw l)).toNat (by omega), Nat.mul_assoc, ← Nat.pow_add]
  rw [show j + ((-(x + lw l)).toNat + (x + lw l)).toNat = ((-(x + lw l)).toNat + (x + j + lw l)).toNat by omega]
theorem VR.uniq {q : Nat} (h : VR l r s x) (k : VR l q s x) : r = q := vl_inj l (Nat.eq_of_mul_eq_mul_right (Nat.two_pow_pos _) (Eq.trans h (Eq.symm k)))

theorem vl_form (l : Bool) (r : Nat) : ∃ t y, t < 2 * FULL l ∧ vl l r = t * 2 ^ y := by
  have hB : (fm l).format.binade = FULL l := by cases l <;> decide
  unfold vl val
  rw [hB]
  have h0 : 0 < FULL l := by cases l <;> decide
  by_cases c : r < FULL l
  · rw [if_pos c]; exact ⟨r, 0, by omega, by simp⟩
  · rw [if_neg c]
    have := Nat.mod_lt r h0
    exact ⟨FULL l + r % FULL l, _, by omega, rfl⟩

theorem VR.odd_full (h : VR l r s x) (ho : s % 2 = 1) : s < 2 * FULL l := by
  obtain ⟨t, y, ht, hv⟩ := vl_form l r
  unfold VR at h
  rw [hv, Nat.mul_assoc, ← Nat.pow_add] at h
  generalize y + (-(x + lw l)).toNat = a at h
  generalize (x + lw l).toNat = b at h
  rcases Nat.lt_or_ge b a with c | c
  · rw [show a = (a - b - 1) + 1 + b by omega, Nat.pow_add, ← Nat.mul_assoc] at h
    have h2 := Nat.eq_of_mul_eq_mul_right (Nat.two_pow_pos _) h
    rw [Nat.pow_succ, ← Nat.mul_assoc] at h2
    omega
  · rw [show b = (b - a) + a by omega, Nat.pow_add, ← Nat.mul_assoc] at h
    have h2 := Nat.eq_of_mul_eq_mul_right (Nat.two_pow_pos _) h
    have : s ≤ s * 2 ^ (b - a) := Nat.le_mul_of_pos_right _ (Nat.two_pow_pos _)
    omega
theorem VR.odd_least (h : VR l r s x) (ho : s % 2 = 1) : -(lw l : Int) ≤ x := by
  refine Classical.byContradiction fun c => ?_
  unfold VR at h
  rw [show (x + lw l).toNat = 0 by omega, show (-(x + lw l)).toNat = ((-(x + lw l)).toNat - 1) + 1 by omega, Nat.pow_succ, ← Nat.mul_assoc] at h
  omega
end

theorem vl_top64 : vl true (INF true) = 4503599627370496 * 2 ^ (971 + 1 + lw true) := by
  have hB : (fm true).format.binade = 4503599627370496 := by decide
  unfold vl val
  rw [hB, if_neg (by decide), show INF true % 4503599627370496 = 0 by decide, Nat.add_zero]
  congr 2
/-- The rung of a significand that stands as a number's does. -/
theorem vl_fi64 {g : Nat} {x : Int} (h1 : g < 2 * 4503599627370496) (h2 : -1074 ≤ x) (h4 : 4503599627370496 ≤ g ∨ x = -1074) : vl true (if 4503599627370496 ≤ g then (x - (-1074) + 1) * 4503599627370496 + g - 4503599627370496 else (g : Int)).toNat = g * 2 ^ (x + lw true).toNat := by
  have hl := lw64
  have hB : (fm true).format.binade = 4503599627370496 := by decide
  unfold vl
  by_cases c : 4503599627370496 ≤ g
  · rw [if_pos c]
    obtain ⟨q, hq⟩ : ∃ q : Nat, x = -1074 + q := ⟨(x - (-1074)).toNat, by omega⟩
    have e := val_rung (fm true).format q g (.inr (by rw [hB]; exact c)) (by rw [hB]; omega)
    rw [hB] at e
    rw [show ((x - (-1074) + 1) * 4503599627370496 + g - 4503599627370496 : Int).toNat = q * 4503599627370496 + g by omega, e]
    congr 2; omega
  · rw [if_neg c]
    have hx : x = -1074 := by omega
    rw [Int.toNat_natCast, show (x + lw true).toNat = 0 by omega]
    unfold val
    rw [hB, if_pos (by omega)]; simp
theorem VR.top64 {r s : Nat} {x : Int} (h : VR true r s x) (hr : r < INF true) (hs : 4503599627370496 ≤ s) : x ≤ 971 := by
  refine Classical.byContradiction fun c => ?_
  have hl := lw64
  have ht := (vl_lt_iff true).2 hr
  rw [vl_top64] at ht
  unfold VR at h
  rw [show (-(x + lw true)).toNat = 0 by omega, Nat.pow_zero, Nat.mul_one] at h
  have h1 : 2 ^ (971 + 1 + lw true) ≤ 2 ^ (x + lw true).toNat := Nat.pow_le_pow_right (by decide) (by omega)
  have h2 : 4503599627370496 * 2 ^ (971 + 1 + lw true) ≤ s * 2 ^ (x + lw true).toNat := Nat.mul_le_mul hs h1
  omega
theorem VR.high64 {r s : Nat} {x : Int} (h : VR true r s x) (hr : r < INF true) (hs : 0 < s) : x ≤ 971 + 64 := by
  refine Classical.byContradiction fun c => ?_
  have e : x = (x - 64) + (64 : Nat) := by omega
  rw [e, ← VR.shift] at h
  have := VR.top64 h hr (by omega)
  omega
/-- What Join tells of a sign, a significand and an exponent. -/
def Jn64 (n : Bool) (s : Nat) (x : Int) (z : Int) (o : Bool) : Prop :=
  s = 0 ∧ z = 0 ∧ o = true ∨ 0 < s ∧ o = true ∧ (∃ r : Nat, r < INF true ∧ VR true r s x ∧ z = (if n then 9223372036854775808 + (r : Int) else r)) ∨ 0 < s ∧ o = false ∧ z = 0 ∧ ∀ r : Nat, r < INF true → ¬ VR true r s x
theorem Jn64.same {n : Bool} {s : Nat} {x z y : Int} {o u : Bool} (h : Jn64 n s x z o) (k : Jn64 n s x y u) : z = y ∧ o = u := by
  rcases h with ⟨h0, rfl, rfl⟩ | ⟨h0, rfl, r, h1, h2, rfl⟩ | ⟨h0, rfl, rfl, h1⟩ <;> rcases k with ⟨k0, rfl, rfl⟩ | ⟨k0, rfl, q, k1, k2, rfl⟩ | ⟨k0, rfl, rfl, k1⟩
  any_goals omega
  · exact ⟨rfl, rfl⟩
  · rw [h2.uniq k2]; exact ⟨rfl, rfl⟩
  · exact absurd h2 (k1 r h1)
  · exact absurd k2 (h1 q k1)
  · exact ⟨rfl, rfl⟩
theorem Jn64.bd {n : Bool} {s : Nat} {x z : Int} {o : Bool} (h : Jn64 n s x z o) : 0 ≤ z ∧ z ≤ 18446744073709551615 ∧ nn true z.toNat = false := by
  have e : nn true z.toNat = false ↔ ¬ 9218868437227405312 < z.toNat % 9223372036854775808 := by simp only [nn, rg, S, INF, if_true, decide_eq_false_iff_not]
  rw [e]
  rcases h with ⟨h0, rfl, rfl⟩ | ⟨h0, rfl, r, h1, h2, rfl⟩ | ⟨h0, rfl, rfl, h1⟩
  · omega
  · simp only [INF, if_true] at h1
    split <;> omega
  · omega

theorem vl_top32 : vl false (INF false) = 8388608 * 2 ^ (104 + 1 + lw false) := by
  have hB : (fm false).format.binade = 8388608 := by decide
  unfold vl val
  rw [hB, if_neg (by decide), show INF false % 8388608 = 0 by decide, Nat.add_zero]
  congr 2
/-- The rung of a significand that stands as a number's does. -/
theorem vl_fi32 {g : Nat} {x : Int} (h1 : g < 2 * 8388608) (h2 : -149 ≤ x) (h4 : 8388608 ≤ g ∨ x = -149) : vl false (if 8388608 ≤ g then (x - (-149) + 1) * 8388608 + g - 8388608 else (g : Int)).toNat = g * 2 ^ (x + lw false).toNat := by
  have hl := lw32
  have hB : (fm false).format.binade = 8388608 := by decide
  unfold vl
  by_cases c : 8388608 ≤ g
  · rw [if_pos c]
    obtain ⟨q, hq⟩ : ∃ q : Nat, x = -149 + q := ⟨(x - (-149)).toNat, by omega⟩
    have e := val_rung (fm false).format q g (.inr (by rw [hB]; exact c)) (by rw [hB]; omega)
    rw [hB] at e
    rw [show ((x - (-149) + 1) * 8388608 + g - 8388608 : Int).toNat = q * 8388608 + g by omega, e]
    congr 2; omega
  · rw [if_neg c]
    have hx : x = -149 := by omega
    rw [Int.toNat_natCast, show (x + lw false).toNat = 0 by omega]
    unfold val
    rw [hB, if_pos (by omega)]; simp
theorem VR.top32 {r s : Nat} {x : Int} (h : VR false r s x) (hr : r < INF false) (hs : 8388608 ≤ s) : x ≤ 104 := by
  refine Classical.byContradiction fun c => ?_
  have hl := lw32
  have ht := (vl_lt_iff false).2 hr
  rw [vl_top32] at ht
  unfold VR at h
  rw [show (-(x + lw false)).toNat = 0 by omega, Nat.pow_zero, Nat.mul_one] at h
  have h1 : 2 ^ (104 + 1 + lw false) ≤ 2 ^ (x + lw false).toNat := Nat.pow_le_pow_right (by decide) (by omega)
  have h2 : 8388608 * 2 ^ (104 + 1 + lw false) ≤ s * 2 ^ (x + lw false).toNat := Nat.mul_le_mul hs h1
  omega
theorem VR.high32 {r s : Nat} {x : Int} (h : VR false r s x) (hr : r < INF false) (hs : 0 < s) : x ≤ 104 + 64 := by
  refine Classical.byContradiction fun c => ?_
  have e : x = (x - 64) + (64 : Nat) := by omega
  rw [e, ← VR.shift] at h
  have := VR.top32 h hr (by omega)
  omega
/-- What Join tells of a sign, a significand and an exponent. -/
def Jn32 (n : Bool) (s : Nat) (x : Int) (z : Int) (o : Bool) : Prop :=
  s = 0 ∧ z = 0 ∧ o = true ∨ 0 < s ∧ o = true ∧ (∃ r : Nat, r < INF false ∧ VR false r s x ∧ z = (if n then 2147483648 + (r : Int) else r)) ∨ 0 < s ∧ o = false ∧ z = 0 ∧ ∀ r : Nat, r < INF false → ¬ VR false r s x
theorem Jn32.same {n : Bool} {s : Nat} {x z y : Int} {o u : Bool} (h : Jn32 n s x z o) (k : Jn32 n s x y u) : z = y ∧ o = u := by
  rcases h with ⟨h0, rfl, rfl⟩ | ⟨h0, rfl, r, h1, h2, rfl⟩ | ⟨h0, rfl, rfl, h1⟩ <;> rcases k with ⟨k0, rfl, rfl⟩ | ⟨k0, rfl, q, k1, k2, rfl⟩ | ⟨k0, rfl, rfl, k1⟩
  any_goals omega
  · exact ⟨rfl, rfl⟩
  · rw [h2.uniq k2]; exact ⟨rfl, rfl⟩
  · exact absurd h2 (k1 r h1)
  · exact absurd k2 (h1 q k1)
  · exact ⟨rfl, rfl⟩
theorem Jn32.bd {n : Bool} {s : Nat} {x z : Int} {o : Bool} (h : Jn32 n s x z o) : 0 ≤ z ∧ z ≤ 4294967295 ∧ nn false z.toNat = false := by
  have e : nn false z.toNat = false ↔ ¬ 2139095040 < z.toNat % 2147483648 := by simp only [nn, rg, S, INF, Bool.false_eq_true, if_false, decide_eq_false_iff_not]
  rw [e]
  rcases h with ⟨h0, rfl, rfl⟩ | ⟨h0, rfl, r, h1, h2, rfl⟩ | ⟨h0, rfl, rfl, h1⟩
  · omega
  · simp only [INF, Bool.false_eq_true, if_false] at h1
    split <;> omega
  · omega

/-- s 2^x and z 2^y are the same magnitude. -/
def LJ (l : Bool) (s : Nat) (x z y : Int) : Prop := ∀ r, VR l r s x ↔ VR l r z.toNat y
/-- z 2^i is not above s. -/
def LB (s : Nat) (z i : Int) : Prop := z.toNat * 2 ^ i.toNat ≤ s
section
variable {l : Bool} {s : Nat} {x z y i : Int}
theorem LJ.start (l : Bool) (s : Nat) (x : Int) : LJ l s x s x := fun r => by rw [Int.toNat_natCast]
theorem LB.start (s : Nat) : LB s s 0 := by unfold LB; simp
theorem LJ.half (h : LJ l s x z y) (hz : 0 ≤ z) (he : z % 2 = 0) : LJ l s x (z / 2) (y + 1) := by
  have e : z.toNat = (z / 2).toNat * 2 ^ 1 := by omega
  intro r
  rw [h r, e, VR.shift]; rfl
theorem LB.half (h : LB s z i) (hz : 0 ≤ z) (hi : 0 ≤ i) (he : z % 2 = 0) : LB s (z / 2) (i + 1) := by
  have e : z.toNat = (z / 2).toNat * 2 ^ 1 := by omega
  unfold LB at h ⊢
  rw [show (i + 1).toNat = 1 + i.toNat by omega, Nat.pow_add, ← Nat.mul_assoc, ← e]; exact h
theorem LJ.dbl (h : LJ l s x z y) (hz : 0 ≤ z) : LJ l s x (z * 2) (y - 1) := fun r => by
  rw [h r, show (z * 2).toNat = z.toNat * 2 ^ 1 by omega, VR.shift, show y - 1 + ((1 : Nat) : Int) = y by omega]
theorem LB.end64 (h : LB s z i) (hi : 64 ≤ i) (hs : s ≤ 18446744073709551615) (hz : 0 < z) : False := by
  unfold LB at h
  have : 2 ^ 64 ≤ 2 ^ i.toNat := Nat.pow_le_pow_right (by decide) (by omega)
  have := Nat.mul_le_mul (show 1 ≤ z.toNat by omega) this
  omega
end

theorem LJ.no64 {n : Bool} {s : Nat} {x z y : Int} (h : LJ true s x z y) (hs : 0 < s) (hz : 0 < z) (c : z % 2 = 1 ∧ (2 * 4503599627370496 ≤ z ∨ y < -1074) ∨ 971 + 64 < y ∨ 4503599627370496 ≤ z ∧ 971 < y) : Jn64 n s x 0 false := by
  refine .inr (.inr ⟨hs, rfl, rfl, fun r hr hv => ?_⟩)
  rw [h r] at hv
  have hl := lw64
  have hF : FULL true = 4503599627370496 := by decide
  rcases c with ⟨ho, c | c⟩ | c | ⟨c1, c2⟩
  · have := hv.odd_full (by omega)
    omega
  · have := hv.odd_least (by omega)
    omega
  · have := VR.high64 hv hr (by omega)
    omega
  · have := VR.top64 hv hr (by omega)
    omega
theorem LJ.yes64 {n : Bool} {s : Nat} {x z y w : Int} (h : LJ true s x z y) (hs : 0 < s) (z0 : 0 < z) (z1 : z < 2 * 4503599627370496) (y0 : -1074 ≤ y) (y1 : y ≤ 971) (c : 4503599627370496 ≤ z ∨ y = -1074)
    (hw : w = if 4503599627370496 ≤ z then (y - (-1074) + 1) * 4503599627370496 + z - 4503599627370496 else z) : Jn64 n s x (if n then w + 9223372036854775808 else w) true := by
  have hl := lw64
  obtain ⟨g, rfl⟩ := Int.eq_ofNat_of_zero_le (show 0 ≤ z by omega)
  have e := vl_fi64 (g := g) (x := y) (by omega) y0 (by omega)
  have ew : w = (if 4503599627370496 ≤ g then (y - (-1074) + 1) * 4503599627370496 + g - 4503599627370496 else (g : Int)) := by rw [hw]; split <;> split <;> omega
  have hb : 0 ≤ w ∧ w < 9218868437227405312 := by rw [hw]; split <;> omega
  rw [← ew] at e
  refine .inr (.inl ⟨hs, rfl, w.toNat, by simp only [INF, if_true]; omega, ?_, ?_⟩)
  · rw [h, Int.toNat_natCast]
    unfold VR
    rw [e, show (-(y + lw true)).toNat = 0 by omega, Nat.pow_zero, Nat.mul_one]
  · cases n <;> simp <;> omega

theorem LJ.no32 {n : Bool} {s : Nat} {x z y : Int} (h : LJ false s x z y) (hs : 0 < s) (hz : 0 < z) (c : z % 2 = 1 ∧ (2 * 8388608 ≤ z ∨ y < -149) ∨ 104 + 64 < y ∨ 8388608 ≤ z ∧ 104 < y) : Jn32 n s x 0 false := by
  refine .inr (.inr ⟨hs, rfl, rfl, fun r hr hv => ?_⟩)
  rw [h r] at hv
  have hl := lw32
  have hF : FULL false = 8388608 := by decide
  rcases c with ⟨ho, c | c⟩ | c | ⟨c1, c2⟩
  · have := hv.odd_full (by omega)
    omega
  · have := hv.odd_least (by omega)
    omega
  · have := VR.high32 hv hr (by omega)
    omega
  · have := VR.top32 hv hr (by omega)
    omega
theorem LJ.yes32 {n : Bool} {s : Nat} {x z y w : Int} (h : LJ false s x z y) (hs : 0 < s) (z0 : 0 < z) (z1 : z < 2 * 8388608) (y0 : -149 ≤ y) (y1 : y ≤ 104) (c : 8388608 ≤ z ∨ y = -149)
    (hw : w = if 8388608 ≤ z then (y - (-149) + 1) * 8388608 + z - 8388608 else z) : Jn32 n s x (if n then w + 2147483648 else w) true := by
  have hl := lw32
  obtain ⟨g, rfl⟩ := Int.eq_ofNat_of_zero_le (show 0 ≤ z by omega)
  have e := vl_fi32 (g := g) (x := y) (by omega) y0 (by omega)
  have ew : w = (if 8388608 ≤ g then (y - (-149) + 1) * 8388608 + g - 8388608 else (g : Int)) := by rw [hw]; split <;> split <;> omega
  have hb : 0 ≤ w ∧ w < 2139095040 := by rw [hw]; split <;> omega
  rw [← ew] at e
  refine .inr (.inl ⟨hs, rfl, w.toNat, by simp only [INF, Bool.false_eq_true, if_false]; omega, ?_, ?_⟩)
  · rw [h, Int.toNat_natCast]
    unfold VR
    rw [e, show (-(y + lw false)).toNat = 0 by omega, Nat.pow_zero, Nat.mul_one]
  · cases n <;> simp <;> omega

end Vg

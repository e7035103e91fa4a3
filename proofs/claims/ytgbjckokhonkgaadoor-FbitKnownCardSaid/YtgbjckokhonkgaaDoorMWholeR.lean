/- Significands that are halved and doubled, beside a pattern's magnitude. Plain arithmetic. -/
import Derived.Test.YtgbjckokhonkgaaDoorMWhole
namespace Vg
open Go

/-- s 2^x is the magnitude of a rung, x from the least place on. -/
def WI (l : Bool) (r s : Nat) (x : Int) : Prop := -(lw l : Int) ≤ x ∧ s * 2 ^ (x + lw l).toNat = vl l r
section
variable {l : Bool} {r s : Nat} {x : Int}
theorem WI.half (h : WI l r s x) (hs : s % 2 = 0) : WI l r (s / 2) (x + 1) := by
  obtain ⟨h1, h2⟩ := h
  refine ⟨by omega, ?_⟩
  rw [← h2, show (x + 1 + lw l).toNat = (x + lw l).toNat + 1 by omega, Nat.pow_succ, Nat.mul_comm (2 ^ _) 2, ← Nat.mul_assoc, show s / 2 * 2 = s by omega]
theorem WI.dbl (h : WI l r s x) (hx : -(lw l : Int) < x) : WI l r (2 * s) (x - 1) := by
  obtain ⟨h1, h2⟩ := h
  refine ⟨by omega, ?_⟩
  rw [← h2, show (x + lw l).toNat = (x - 1 + lw l).toNat + 1 by omega, Nat.pow_succ, Nat.mul_comm (2 ^ _) 2, ← Nat.mul_assoc, Nat.mul_comm s 2]
theorem WI.at0 (h : WI l r s 0) : vl l r = s * 2 ^ lw l := by
  rw [← h.2]; congr 2; omega
theorem WI.odd (h : WI l r s x) (hx : x < 0) (ho : s % 2 = 1) (k : Nat) : vl l r ≠ k * 2 ^ lw l := by
  obtain ⟨h1, h2⟩ := h
  intro hk
  rw [hk, show (2 : Nat) ^ lw l = 2 ^ ((lw l - (x + lw l).toNat - 1) + 1 + (x + lw l).toNat) by congr 1; omega, Nat.pow_add, ← Nat.mul_assoc] at h2
  have h3 := Nat.eq_of_mul_eq_mul_right (Nat.two_pow_pos _) h2
  rw [Nat.pow_succ, ← Nat.mul_assoc] at h3
  omega
theorem WI.big (h : WI l r s x) (hx : 0 < x) (hs : 9223372036854775808 ≤ s) (k : Nat) (hk : vl l r = k * 2 ^ lw l) : 18446744073709551616 ≤ k := by
  obtain ⟨h1, h2⟩ := h
  rw [hk, show (x + lw l).toNat = (x.toNat - 1) + 1 + lw l by omega, Nat.pow_add, ← Nat.mul_assoc] at h2
  have h3 := Nat.eq_of_mul_eq_mul_right (Nat.two_pow_pos _) h2
  rw [Nat.pow_succ] at h3
  have : 1 ≤ 2 ^ (x.toNat - 1) := Nat.two_pow_pos _
  calc 18446744073709551616 ≤ s * (1 * 2) := by omega
    _ ≤ s * (2 ^ (x.toNat - 1) * 2) := Nat.mul_le_mul_left _ (by omega)
    _ = k := by rw [h3]
end

/-- Whole, of a finite pattern whose magnitude is s. -/
theorem wh_fin {l : Bool} {b s : Nat} (hr : rg l b < INF l) (h : vl l (rg l b) = s * 2 ^ lw l) (h1 : -9223372036854775808 ≤ (if ng l b then -(s : Int) else s)) (h2 : (if ng l b then -(s : Int) else s) ≤ 9223372036854775807) : Wh l b (if ng l b then -(s : Int) else s) true :=
  .inl ⟨s, hr, h, rfl, h1, h2, rfl⟩
theorem wh_none {l : Bool} {b : Nat} (h : ∀ k, rg l b < INF l → vl l (rg l b) = k * 2 ^ lw l → ¬ (-9223372036854775808 ≤ (if ng l b then -(k : Int) else k) ∧ (if ng l b then -(k : Int) else k) ≤ 9223372036854775807)) : Wh l b 0 false :=
  .inr ⟨h, rfl, rfl⟩
theorem wh_wild {l : Bool} {b : Nat} (h : INF l ≤ rg l b) : Wh l b 0 false := wh_none fun _ h1 => by omega
theorem wh_over {l : Bool} {b s : Nat} (h : vl l (rg l b) = s * 2 ^ lw l) (hs : 9223372036854775808 ≤ s) (hn : ng l b = false ∨ 9223372036854775808 < s) : Wh l b 0 false :=
  wh_none fun k _ h2 h3 => by
    have e := Nat.eq_of_mul_eq_mul_right (Nat.two_pow_pos _) (h.symm.trans h2)
    subst e
    rcases hn with hn | hn
    · rw [hn] at h3; simp only [Bool.false_eq_true, if_false] at h3; omega
    · split at h3 <;> omega
theorem WI.wh_odd {l : Bool} {b s : Nat} {x : Int} (h : WI l (rg l b) s x) (hx : x < 0) (ho : s % 2 = 1) : Wh l b 0 false := wh_none fun k _ h2 => absurd h2 (h.odd hx ho k)
/-- The ways at the end of the reference's Whole. -/
theorem WI.ends {l : Bool} {b : Nat} {z : Int} (h : WI l (rg l b) z.toNat 0) (hr : rg l b < INF l) (hz : 0 ≤ z) :
    ng l b = true ∧ z = 9223372036854775808 ∧ Wh l b (-9223372036854775808) true ∨ ng l b = true ∧ 9223372036854775808 < z ∧ Wh l b 0 false ∨ ng l b = true ∧ z < 9223372036854775808 ∧ Wh l b (-z) true ∨
    ng l b = false ∧ 9223372036854775808 ≤ z ∧ Wh l b 0 false ∨ ng l b = false ∧ z < 9223372036854775808 ∧ Wh l b z true := by
  obtain ⟨m, rfl⟩ := Int.eq_ofNat_of_zero_le hz
  rw [Int.toNat_natCast] at h
  have h0 := h.at0
  have w1 := wh_fin hr h0
  cases hn : ng l b <;> rw [hn] at w1 <;> simp only [if_true, Bool.false_eq_true, if_false] at w1
  · right; right; right
    by_cases c : 9223372036854775808 ≤ m
    · left; exact ⟨rfl, by omega, wh_over h0 c (.inl hn)⟩
    · right; exact ⟨rfl, by omega, w1 (by omega) (by omega)⟩
  · rcases Nat.lt_trichotomy m 9223372036854775808 with c | c | c
    · right; right; left; exact ⟨rfl, by omega, w1 (by omega) (by omega)⟩
    · left; subst c; exact ⟨rfl, rfl, w1 (by omega) (by omega)⟩
    · right; left; exact ⟨rfl, by omega, wh_over h0 (by omega) (.inr c)⟩
theorem WI.halfz {l : Bool} {r : Nat} {z x : Int} (h : WI l r z.toNat x) (h0 : 0 ≤ z) (hs : z % 2 = 0) : WI l r (z / 2).toNat (x + 1) := by
  have := h.half (by omega)
  rwa [show z.toNat / 2 = (z / 2).toNat by omega] at this
theorem WI.dblz {l : Bool} {r : Nat} {z x : Int} (h : WI l r z.toNat x) (h0 : 0 ≤ z) (hx : -(lw l : Int) < x) : WI l r (z * 2).toNat (x - 1) := by
  have := h.dbl hx
  rwa [show 2 * z.toNat = (z * 2).toNat by omega] at this
theorem WI.wh_big {l : Bool} {b s : Nat} {x : Int} (h : WI l (rg l b) s x) (hx : 0 < x) (hs : 9223372036854775808 ≤ s) : Wh l b 0 false :=
  wh_none fun k _ h2 h3 => by have := h.big hx hs k h2; split at h3 <;> omega

theorem lw64 : (lw true : Int) = -(-1074) := by decide +kernel
theorem WI.start64 {r : Nat} {g x : Int} (h : 0 < r / 4503599627370496 ∧ g = (r % 4503599627370496 + 4503599627370496 : Nat) ∧ x = -1074 + (r / 4503599627370496 : Nat) - 1 ∨ r / 4503599627370496 = 0 ∧ g = (r % 4503599627370496 : Nat) ∧ x = -1074) : WI true r g.toNat x := by
  have hl := lw64
  have hB : (fm true).format.binade = 4503599627370496 := by decide
  unfold WI vl val
  rw [hB]
  rcases h with ⟨h1, rfl, rfl⟩ | ⟨h1, rfl, rfl⟩
  · refine ⟨by omega, ?_⟩
    rw [if_neg (by omega), Int.toNat_natCast, Nat.add_comm (r % _)]
    congr 2
    omega
  · refine ⟨by omega, ?_⟩
    rw [if_pos (by omega), Int.toNat_natCast, show ((-1074 : Int) + lw true).toNat = 0 by omega]
    omega

theorem lw32 : (lw false : Int) = -(-149) := by decide +kernel
theorem WI.start32 {r : Nat} {g x : Int} (h : 0 < r / 8388608 ∧ g = (r % 8388608 + 8388608 : Nat) ∧ x = -149 + (r / 8388608 : Nat) - 1 ∨ r / 8388608 = 0 ∧ g = (r % 8388608 : Nat) ∧ x = -149) : WI false r g.toNat x := by
  have hl := lw32
  have hB : (fm false).format.binade = 8388608 := by decide
  unfold WI vl val
  rw [hB]
  rcases h with ⟨h1, rfl, rfl⟩ | ⟨h1, rfl, rfl⟩
  · refine ⟨by omega, ?_⟩
    rw [if_neg (by omega), Int.toNat_natCast, Nat.add_comm (r % _)]
    congr 2
    omega
  · refine ⟨by omega, ?_⟩
    rw [if_pos (by omega), Int.toNat_natCast, show ((-149 : Int) + lw false).toNat = 0 by omega]
    omega

end Vg

/- What lies in what two intervals have in common, and in their hull. -/
import Derived.Test.YtljnadoodbninaaWHolds
namespace Vg
open Go
theorem icmp_le {a b : Int} : icmp a b ≤ 0 ↔ a ≤ b := by
  unfold icmp
  by_cases h1 : a < b
  · rw [if_pos h1]; omega
  · rw [if_neg h1]
    by_cases h2 : b < a
    · rw [if_pos h2]; omega
    · rw [if_neg h2]; omega
theorem Lo_bot {Z : Int} {Q : Nat} : Lo (-PI) Z Q := by unfold Lo ecmp; rw [ei_bot, if_pos (by decide)]; decide
theorem Lo_top {Z : Int} {Q : Nat} : ¬ Lo PI Z Q := by unfold Lo ecmp; rw [ei_top, if_neg (by decide), if_pos (by decide)]; decide
theorem Hi_top {Z : Int} {Q : Nat} : Hi PI Z Q := by unfold Hi ecmp; rw [ei_top, if_pos (by decide)]; decide
theorem Hi_bot {Z : Int} {Q : Nat} : ¬ Hi (-PI) Z Q := by unfold Hi ecmp; rw [ei_bot, if_neg (by decide), if_pos (by decide)]; decide
theorem Lo_mid {p Z : Int} {Q : Nat} (h1 : p ≠ PI) (h2 : p ≠ -PI) : Lo p Z Q ↔ sv p * Q ≤ Z * LP := by
  unfold Lo ecmp; rw [ei_mid h1 h2, eZ_mid h1 h2, if_neg (by decide), if_neg (by decide), if_pos rfl, icmp_le]
theorem Hi_mid {p Z : Int} {Q : Nat} (h1 : p ≠ PI) (h2 : p ≠ -PI) : Hi p Z Q ↔ Z * LP ≤ sv p * Q := by
  unfold Hi ecmp; rw [ei_mid h1 h2, eZ_mid h1 h2, if_neg (by decide), if_neg (by decide), if_pos rfl, icmp_le]
theorem val_le (f : Ieee.Format) {r s : Nat} (h : r ≤ s) : val f r ≤ val f s := by
  rcases Nat.lt_or_ge r s with c | c
  · exact Nat.le_of_lt (val_lt f c)
  · rw [show r = s by omega]; exact Nat.le_refl _
theorem sv_mono {p r : Int} (h : p ≤ r) : sv p ≤ sv r := by
  by_cases h1 : 0 ≤ p
  · rw [sv_pos h1, sv_pos (by omega)]
    have := val_le FloatKind.f64.format (r := p.natAbs) (s := r.natAbs) (by omega)
    omega
  · by_cases h2 : 0 ≤ r
    · rw [sv_neg (p := p) (by omega), sv_pos h2]; omega
    · rw [sv_neg (p := p) (by omega), sv_neg (p := r) (by omega)]
      have := val_le FloatKind.f64.format (r := r.natAbs) (s := p.natAbs) (by omega)
      omega
theorem Lo_mono {p r Z : Int} {Q : Nat} (hp : Pl p) (hr : Pl r) (h : p ≤ r) (k : Lo r Z Q) : Lo p Z Q := by
  have bp := hp.bd
  have br := hr.bd
  by_cases p1 : p = -PI
  · subst p1; exact Lo_bot
  by_cases r1 : r = PI
  · subst r1; exact absurd k Lo_top
  rw [PI_eq] at p1 r1
  rw [Lo_mid (by rw [PI_eq]; omega) (by rw [PI_eq]; omega)] at k
  rw [Lo_mid (by rw [PI_eq]; omega) (by rw [PI_eq]; omega)]
  exact Int.le_trans (Int.mul_le_mul_of_nonneg_right (sv_mono h) (by omega)) k
theorem Hi_mono {p r Z : Int} {Q : Nat} (hp : Pl p) (hr : Pl r) (h : p ≤ r) (k : Hi p Z Q) : Hi r Z Q := by
  have bp := hp.bd
  have br := hr.bd
  by_cases r1 : r = PI
  · subst r1; exact Hi_top
  by_cases p1 : p = -PI
  · subst p1; exact absurd k Hi_bot
  rw [PI_eq] at p1 r1
  rw [Hi_mid (by rw [PI_eq]; omega) (by rw [PI_eq]; omega)] at k
  rw [Hi_mid (by rw [PI_eq]; omega) (by rw [PI_eq]; omega)]
  exact Int.le_trans k (Int.mul_le_mul_of_nonneg_right (sv_mono h) (by omega))
/-- What lies between two places: the ends stand rightly. -/
theorem Lo_Hi {p q Z : Int} {Q : Nat} (hp : Pl p) (hq : Pl q) (hQ : 0 < Q) (h1 : Lo p Z Q) (h2 : Hi q Z Q) : p ≤ q := by
  refine Classical.byContradiction fun c => ?_
  have k1 := Lo_mono hq hp (by omega) h1
  have k2 := Hi_mono hq hp (by omega) h2
  have bp := hp.bd
  have bq := hq.bd
  by_cases p1 : p = PI
  · subst p1; exact Lo_top h1
  by_cases q1 : q = -PI
  · subst q1; exact Hi_bot h2
  rw [PI_eq] at p1 q1
  rw [Lo_mid (by rw [PI_eq]; omega) (by rw [PI_eq]; omega)] at h1
  rw [Hi_mid (by rw [PI_eq]; omega) (by rw [PI_eq]; omega)] at h2
  have hs : sv q < sv p := by
    by_cases a : 0 ≤ q
    · rw [sv_pos a, sv_pos (p := p) (by omega)]
      have := val_lt FloatKind.f64.format (r := q.natAbs) (s := p.natAbs) (by omega)
      omega
    · by_cases b : 0 < p
      · rw [sv_neg (p := q) (by omega), sv_pos (p := p) (by omega)]
        have := val_lt FloatKind.f64.format (r := 0) (s := p.natAbs) (by omega)
        omega
      · rw [sv_neg (p := q) (by omega), sv_neg (p := p) (by omega)]
        have := val_lt FloatKind.f64.format (r := p.natAbs) (s := q.natAbs) (by omega)
        omega
  have := Int.mul_lt_mul_of_pos_right hs (show (0 : Int) < Q by omega)
  omega
theorem Hol.iff {p q Z : Int} {Q : Nat} (hp : Pl p) (hq : Pl q) (hQ : 0 < Q) : Hol p q Z Q ↔ Lo p Z Q ∧ Hi q Z Q := ⟨fun h => h.2, fun h => ⟨Lo_Hi hp hq hQ h.1 h.2, h⟩⟩
/-- What lies in both. -/
theorem hol_meet {p q r s x y Z : Int} {Q : Nat} (hQ : 0 < Q) (h1 : Iv p q) (h2 : Iv r s) (h3 : Iv x y) (hm : min q s < max p r ∧ x = PI ∧ y = -PI ∨ max p r ≤ min q s ∧ x = max p r ∧ y = min q s) : Hol x y Z Q ↔ Hol p q Z Q ∧ Hol r s Z Q := by
  rw [Hol.iff h3.lo h3.hi hQ, Hol.iff h1.lo h1.hi hQ, Hol.iff h2.lo h2.hi hQ]
  rcases hm with ⟨hlt, rfl, rfl⟩ | ⟨hle, rfl, rfl⟩
  · refine ⟨fun h => absurd h.1 Lo_top, fun ⟨⟨a, b⟩, c, d⟩ => ?_⟩
    have e1 := Lo_Hi h1.lo h1.hi hQ a b
    have e2 := Lo_Hi h2.lo h2.hi hQ c d
    have e3 := Lo_Hi h1.lo h2.hi hQ a d
    have e4 := Lo_Hi h2.lo h1.hi hQ c b
    omega
  · constructor
    · intro ⟨a, b⟩
      exact ⟨⟨Lo_mono h1.lo h3.lo (by omega) a, Hi_mono h3.hi h1.hi (by omega) b⟩, Lo_mono h2.lo h3.lo (by omega) a, Hi_mono h3.hi h2.hi (by omega) b⟩
    · intro ⟨⟨a, b⟩, c, d⟩
      refine ⟨?_, ?_⟩
      · rcases Int.le_total p r with k | k
        · rwa [Int.max_eq_right k]
        · rwa [Int.max_eq_left k]
      · rcases Int.le_total q s with k | k
        · rwa [Int.min_eq_left k]
        · rwa [Int.min_eq_right k]
/-- What lies in one lies in the hull. -/
theorem hol_join {p q r s x y Z : Int} {Q : Nat} (hQ : 0 < Q) (h1 : Iv p q) (h2 : Iv r s) (h3 : Iv x y) (hx : x = min p r) (hy : y = max q s) (h : Hol p q Z Q ∨ Hol r s Z Q) : Hol x y Z Q := by
  rw [Hol.iff h3.lo h3.hi hQ]
  rcases h with h | h
  · exact ⟨Lo_mono h3.lo h1.lo (by omega) h.2.1, Hi_mono h1.hi h3.hi (by omega) h.2.2⟩
  · exact ⟨Lo_mono h3.lo h2.lo (by omega) h.2.1, Hi_mono h2.hi h3.hi (by omega) h.2.2⟩
/-- Two reals by the ends of what they lie in: Z by Q is below the place q, Y by P above the place r, and q below r. -/
theorem hi_lo {q r Z Y : Int} {Q P : Nat} (hq : Pl q) (hr : Pl r) (h1 : Hi q Z Q) (h2 : Lo r Y P) (h : q ≤ r) : Z * P ≤ Y * Q := by
  have bq := hq.bd
  have br := hr.bd
  by_cases q1 : q = -PI
  · subst q1; exact absurd h1 Hi_bot
  by_cases r1 : r = PI
  · subst r1; exact absurd h2 Lo_top
  rw [PI_eq] at q1 r1
  rw [Hi_mid (by rw [PI_eq]; omega) (by rw [PI_eq]; omega)] at h1
  rw [Lo_mid (by rw [PI_eq]; omega) (by rw [PI_eq]; omega)] at h2
  have hL := LP_pos
  have e1 := Int.mul_le_mul_of_nonneg_right h1 (show (0 : Int) ≤ P by omega)
  have e2 := Int.mul_le_mul_of_nonneg_right (Int.mul_le_mul_of_nonneg_right (sv_mono h) (show (0 : Int) ≤ Q by omega)) (show (0 : Int) ≤ P by omega)
  have e3 := Int.mul_le_mul_of_nonneg_right h2 (show (0 : Int) ≤ Q by omega)
  have e4 : sv r * Q * P = sv r * P * Q := Int.mul_right_comm _ _ _
  refine Int.le_of_mul_le_mul_right (a := (LP : Int)) ?_ (by omega)
  rw [Int.mul_right_comm Z, Int.mul_right_comm Y]
  omega
theorem hi_lo_lt {q r Z Y : Int} {Q P : Nat} (hq : Pl q) (hr : Pl r) (hQ : 0 < Q) (hP : 0 < P) (h1 : Hi q Z Q) (h2 : Lo r Y P) (h : q < r) : Z * P < Y * Q := by
  have h3 := hi_lo hq hr h1 h2 (by omega)
  rcases Int.lt_or_eq_of_le h3 with c | c
  · exact c
  · exfalso
    -- the same real: it lies at both ends
    have bq := hq.bd
    have br := hr.bd
    by_cases q1 : q = -PI
    · subst q1; exact Hi_bot h1
    by_cases r1 : r = PI
    · subst r1; exact Lo_top h2
    rw [PI_eq] at q1 r1
    have k : Lo r Z Q := by
      rw [Lo_mid (by rw [PI_eq]; omega) (by rw [PI_eq]; omega)] at h2 ⊢
      have e := Int.mul_le_mul_of_nonneg_right h2 (show (0 : Int) ≤ Q by omega)
      have e1 : Y * LP * Q = Z * LP * P := by rw [Int.mul_right_comm Y, Int.mul_right_comm Z, c]
      rw [e1] at e
      have e2 : sv r * P * Q = sv r * Q * P := Int.mul_right_comm _ _ _
      rw [e2] at e
      exact Int.le_of_mul_le_mul_right e (by omega)
    have := Lo_Hi hr hq hQ k h1
    omega
end Vg

/- Contracts of Class: the program's and the reference's. -/
import Derived.Test.YtgbjckokhonkgaaDoorWPlace
namespace Go.Proofs.YtgbjckokhonkgaaDoor
open Go.RowKit

/-- How far from a zero a rung's class lies. -/
def far64 (r : Nat) : Int := if r = 9218868437227405312 then 3 else if 4503599627370496 ≤ r then 2 else if 0 < r then 1 else 0
/-- What Class tells of a pattern. -/
def IsCl64 (b : Nat) (c : Int) : Prop := c = if Vg.nn true b then 0 else if Vg.ng true b then 4 - far64 (Vg.rg true b) else 5 + far64 (Vg.rg true b)
theorem IsCl64.same {b : Nat} {p q : Int} (h : IsCl64 b p) (k : IsCl64 b q) : p = q := Eq.trans h (Eq.symm k)

theorem IsCl64.of {b : Nat} {k : Int} {s : Bool} {g x : Int} (h : Num64 b k s g x) (hb : b ≤ 18446744073709551615) :
    k = 2 ∧ IsCl64 b 0 ∨ k = 1 ∧ IsCl64 b (if s then 1 else 8) ∨ k = 0 ∧ g = 0 ∧ IsCl64 b (if s then 4 else 5) ∨
    k = 0 ∧ (g == 0) = false ∧ decide (g < 4503599627370496) = true ∧ IsCl64 b (if s then 3 else 6) ∨ k = 0 ∧ (g == 0) = false ∧ decide (g < 4503599627370496) = false ∧ IsCl64 b (if s then 2 else 7) := by
  obtain ⟨h1, h2, h3, h4⟩ := h
  obtain ⟨hr, -⟩ := sign64 b hb
  subst h1 h2 h3
  unfold IsCl64 kd64 sg64 far64
  simp only [beq_eq_false_iff_ne, ne_eq, decide_eq_false_iff_not, Vg.nn, Vg.INF, if_true, decide_eq_true_eq]
  generalize Vg.rg true b = r at *
  generalize hq : (r : Int) / 4503599627370496 = q
  generalize ht : (r : Int) % 4503599627370496 = t
  have h0 : (r : Int) = 4503599627370496 * q + t := by omega
  have t0 : 0 ≤ t ∧ t < 4503599627370496 := by omega
  clear hq ht h4
  cases Vg.ng true b
  all_goals
    by_cases c1 : q = 2047
    · by_cases c2 : t = 0
      · right; left
        have d1 : ¬ 9218868437227405312 < r := by omega
        have d2 : r = 9218868437227405312 := by omega
        simp only [if_pos c1, if_pos c2, if_neg d1, if_pos d2, if_true, Bool.false_eq_true, if_false, true_and]; omega
      · left
        have d1 : 9218868437227405312 < r := by omega
        simp only [if_pos c1, if_neg c2, if_pos d1, and_self]
    · have d1 : ¬ 9218868437227405312 < r := by omega
      have d2 : ¬ r = 9218868437227405312 := by omega
      right; right
      by_cases c4 : 0 < q
      · have d3 : 4503599627370496 ≤ r := by omega
        right; right
        simp only [if_neg c1, if_pos c4, if_neg d1, if_neg d2, if_pos d3, if_true, Bool.false_eq_true, if_false, true_and]; omega
      · have d3 : ¬ 4503599627370496 ≤ r := by omega
        by_cases c5 : 0 < r
        · right; left
          simp only [if_neg c1, if_neg c4, if_neg d1, if_neg d2, if_neg d3, if_pos c5, if_true, Bool.false_eq_true, if_false, true_and]; omega
        · left
          simp only [if_neg c1, if_neg c4, if_neg d1, if_neg d2, if_neg d3, if_neg c5, if_true, Bool.false_eq_true, if_false, true_and]; omega

/-- How far from a zero a rung's class lies. -/
def far32 (r : Nat) : Int := if r = 2139095040 then 3 else if 8388608 ≤ r then 2 else if 0 < r then 1 else 0
/-- What Class tells of a pattern. -/
def IsCl32 (b : Nat) (c : Int) : Prop := c = if Vg.nn false b then 0 else if Vg.ng false b then 4 - far32 (Vg.rg false b) else 5 + far32 (Vg.rg false b)
theorem IsCl32.same {b : Nat} {p q : Int} (h : IsCl32 b p) (k : IsCl32 b q) : p = q := Eq.trans h (Eq.symm k)

theorem IsCl32.of {b : Nat} {k : Int} {s : Bool} {g x : Int} (h : Num32 b k s g x) (hb : b ≤ 4294967295) :
    k = 2 ∧ IsCl32 b 0 ∨ k = 1 ∧ IsCl32 b (if s then 1 else 8) ∨ k = 0 ∧ g = 0 ∧ IsCl32 b (if s then 4 else 5) ∨
    k = 0 ∧ (g == 0) = false ∧ decide (g < 8388608) = true ∧ IsCl32 b (if s then 3 else 6) ∨ k = 0 ∧ (g == 0) = false ∧ decide (g < 8388608) = false ∧ IsCl32 b (if s then 2 else 7) := by
  obtain ⟨h1, h2, h3, h4⟩ := h
  obtain ⟨hr, -⟩ := sign32 b hb
  subst h1 h2 h3
  unfold IsCl32 kd32 sg32 far32
  simp only [beq_eq_false_iff_ne, ne_eq, decide_eq_false_iff_not, Vg.nn, Vg.INF, Bool.false_eq_true, if_false, decide_eq_true_eq]
  generalize Vg.rg false b = r at *
  generalize hq : (r : Int) / 8388608 = q
  generalize ht : (r : Int) % 8388608 = t
  have h0 : (r : Int) = 8388608 * q + t := by omega
  have t0 : 0 ≤ t ∧ t < 8388608 := by omega
  clear hq ht h4
  cases Vg.ng false b
  all_goals
    by_cases c1 : q = 255
    · by_cases c2 : t = 0
      · right; left
        have d1 : ¬ 2139095040 < r := by omega
        have d2 : r = 2139095040 := by omega
        simp only [if_pos c1, if_pos c2, if_neg d1, if_pos d2, if_true, Bool.false_eq_true, if_false, true_and]; omega
      · left
        have d1 : 2139095040 < r := by omega
        simp only [if_pos c1, if_neg c2, if_pos d1, and_self]
    · have d1 : ¬ 2139095040 < r := by omega
      have d2 : ¬ r = 2139095040 := by omega
      right; right
      by_cases c4 : 0 < q
      · have d3 : 8388608 ≤ r := by omega
        right; right
        simp only [if_neg c1, if_pos c4, if_neg d1, if_neg d2, if_pos d3, if_true, Bool.false_eq_true, if_false, true_and]; omega
      · have d3 : ¬ 8388608 ≤ r := by omega
        by_cases c5 : 0 < r
        · right; left
          simp only [if_neg c1, if_neg c4, if_neg d1, if_neg d2, if_neg d3, if_pos c5, if_true, Bool.false_eq_true, if_false, true_and]; omega
        · left
          simp only [if_neg c1, if_neg c4, if_neg d1, if_neg d2, if_neg d3, if_neg c5, if_true, Bool.false_eq_true, if_false, true_and]; omega

end Go.Proofs.YtgbjckokhonkgaaDoor

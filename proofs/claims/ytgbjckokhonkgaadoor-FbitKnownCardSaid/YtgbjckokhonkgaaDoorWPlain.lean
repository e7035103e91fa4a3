/- Contracts of Plain: the program's and the reference's. -/
import Derived.Test.YtgbjckokhonkgaaDoorWIs
import Derived.Test.YtgbjckokhonkgaaDoorMSpec
namespace Go.Proofs.YtgbjckokhonkgaaDoor
open Go.RowKit

theorem bch {w w1 w2 : World} (h1 : Below w.heap.size w w1) (h2 : Below w1.heap.size w1 w2) : Below w.heap.size w w2 := h1.trans (h2.mono h1.size)
theorem below_two {w w' w1 : World} {o : Obj} (h1 : Below w.heap.size w w') (h2 : Below (w'.alloc o).heap.size (w'.alloc o) w1) : Below w.heap.size w w1 :=
  (h1.alloc h1.size o).trans (h2.mono (by simp; exact Nat.le_succ_of_le h1.size))

theorem zero_eq64 (x : Nat) (hx : x ≤ 18446744073709551615) : (FloatKind.f64.format.order x 0 == some Ordering.eq) = decide (Vg.rg true x = 0) := by
  have h := Vg.eq_iff true x 0 (by simp only [Vg.S, if_true]; omega) (by simp only [Vg.S, if_true]; omega)
  refine Eq.trans h ?_
  rw [Bool.eq_iff_iff]
  simp only [Bool.and_eq_true, Bool.not_eq_true', decide_eq_true_eq, Vg.nn, Vg.pl, Vg.ng, Vg.rg, Vg.S, Vg.INF, if_true, decide_eq_false_iff_not]
  (repeat' split) <;> omega

theorem zero_eq32 (x : Nat) (hx : x ≤ 4294967295) : (FloatKind.f32.format.order x 0 == some Ordering.eq) = decide (Vg.rg false x = 0) := by
  have h := Vg.eq_iff false x 0 (by simp only [Vg.S, Bool.false_eq_true, if_false]; omega) (by simp only [Vg.S, Bool.false_eq_true, if_false]; omega)
  refine Eq.trans h ?_
  rw [Bool.eq_iff_iff]
  simp only [Bool.and_eq_true, Bool.not_eq_true', decide_eq_true_eq, Vg.nn, Vg.pl, Vg.ng, Vg.rg, Vg.S, Vg.INF, Bool.false_eq_true, if_false, decide_eq_false_iff_not]
  (repeat' split) <;> omega

/-- The reference's Plain: of a NaN a fixed one. -/
def RPlain64 (b : Nat) (z : Int) : Prop := z = if Vg.nn true b then (9218868437227405312 + 4503599627370496 / 2 : Int) else (Vg.plainb true b : Int)

theorem RPlain64.ok {b : Nat} {z : Int} (h : RPlain64 b z) (hb : b ≤ 18446744073709551615) : IsOk64 (Vg.plainb true b) z := by
  unfold RPlain64 at h
  subst h
  unfold IsOk64 Vg.plainb
  simp only [Vg.nn, Vg.rg, Vg.S, Vg.INF, if_true, decide_eq_true_eq, decide_eq_false_iff_not]
  (repeat' split) <;> omega

theorem sign64 (b : Nat) (hb : b ≤ 18446744073709551615) : Vg.rg true b ≤ 9223372036854775807 ∧ (Vg.ng true b = true ∧ b = Vg.rg true b + 9223372036854775808 ∨ Vg.ng true b = false ∧ b = Vg.rg true b) := by
  simp only [Vg.ng, Vg.rg, Vg.S, if_true, decide_eq_true_eq, decide_eq_false_iff_not]
  omega

theorem RPlain64.of {b : Nat} {k : Int} {s : Bool} {g x : Int} (h : Num64 b k s g x) (hb : b ≤ 18446744073709551615) :
    k = 2 ∧ RPlain64 b (9218868437227405312 + 4503599627370496 / 2) ∨ k = 1 ∧ RPlain64 b (sn64 s 9218868437227405312) ∨
    k = 0 ∧ g = 0 ∧ x = -1074 ∧ RPlain64 b (sn64 false (fi64 0 x)) ∨ k = 0 ∧ (g == 0) = false ∧ 0 ≤ g ∧ g < 2 * 4503599627370496 ∧ -1074 ≤ x ∧ x ≤ 971 ∧ RPlain64 b (sn64 s (fi64 g x)) := by
  obtain ⟨h1, h2, h3, h4⟩ := h
  obtain ⟨hr, hs⟩ := sign64 b hb
  subst h1 h2 h3 h4
  unfold RPlain64 sn64 fi64 Vg.plainb kd64 sg64 ex64
  simp only [Vg.nn, Vg.INF, if_true, decide_eq_true_eq, beq_eq_false_iff_ne, ne_eq]
  generalize Vg.rg true b = r at *
  generalize hq : (r : Int) / 4503599627370496 = q
  generalize ht : (r : Int) % 4503599627370496 = t
  have h0 : (r : Int) = 4503599627370496 * q + t := by omega
  have t0 : 0 ≤ t ∧ t < 4503599627370496 := by omega
  clear hq ht
  rcases hs with ⟨hs, hb'⟩ | ⟨hs, hb'⟩ <;> rw [hs]
  all_goals
    by_cases c1 : q = 2047
    · by_cases c2 : t = 0
      · right; left
        refine ⟨by simp only [if_pos c1, if_pos c2], ?_⟩
        have d1 : ¬ 9218868437227405312 < r := by omega
        have d2 : ¬ r = 0 := by omega
        simp only [if_neg d1, if_neg d2, if_true, Bool.false_eq_true, if_false]; omega
      · left
        refine ⟨by simp only [if_pos c1, if_neg c2], ?_⟩
        rw [if_pos (by omega)]
    · have c3 : ¬ 9218868437227405312 < r := by omega
      by_cases c2 : r = 0
      · right; right; left
        have c4 : ¬ 0 < q := by omega
        simp only [if_neg c1, if_neg c4, if_neg c3, if_pos c2]
        refine ⟨trivial, by omega, trivial, by simp⟩
      · right; right; right
        simp only [if_neg c1, if_neg c3, if_neg c2]
        by_cases c4 : 0 < q
        · simp only [if_pos c4, if_true, Bool.false_eq_true, if_false]
          refine ⟨trivial, by omega, by omega, by omega, by omega, by omega, ?_⟩
          rw [if_pos (by omega)]; omega
        · simp only [if_neg c4, if_true, Bool.false_eq_true, if_false]
          refine ⟨trivial, by omega, by omega, by omega, by omega, by omega, ?_⟩
          rw [if_neg (by omega)]; omega

/-- The reference's Plain: of a NaN a fixed one. -/
def RPlain32 (b : Nat) (z : Int) : Prop := z = if Vg.nn false b then (2139095040 + 8388608 / 2 : Int) else (Vg.plainb false b : Int)

theorem RPlain32.ok {b : Nat} {z : Int} (h : RPlain32 b z) (hb : b ≤ 4294967295) : IsOk32 (Vg.plainb false b) z := by
  unfold RPlain32 at h
  subst h
  unfold IsOk32 Vg.plainb
  simp only [Vg.nn, Vg.rg, Vg.S, Vg.INF, Bool.false_eq_true, if_false, decide_eq_true_eq, decide_eq_false_iff_not]
  (repeat' split) <;> omega

theorem sign32 (b : Nat) (hb : b ≤ 4294967295) : Vg.rg false b ≤ 2147483647 ∧ (Vg.ng false b = true ∧ b = Vg.rg false b + 2147483648 ∨ Vg.ng false b = false ∧ b = Vg.rg false b) := by
  simp only [Vg.ng, Vg.rg, Vg.S, Bool.false_eq_true, if_false, decide_eq_true_eq, decide_eq_false_iff_not]
  omega

theorem RPlain32.of {b : Nat} {k : Int} {s : Bool} {g x : Int} (h : Num32 b k s g x) (hb : b ≤ 4294967295) :
    k = 2 ∧ RPlain32 b (2139095040 + 8388608 / 2) ∨ k = 1 ∧ RPlain32 b (sn32 s 2139095040) ∨
    k = 0 ∧ g = 0 ∧ x = -149 ∧ RPlain32 b (sn32 false (fi32 0 x)) ∨ k = 0 ∧ (g == 0) = false ∧ 0 ≤ g ∧ g < 2 * 8388608 ∧ -149 ≤ x ∧ x ≤ 104 ∧ RPlain32 b (sn32 s (fi32 g x)) := by
  obtain ⟨h1, h2, h3, h4⟩ := h
  obtain ⟨hr, hs⟩ := sign32 b hb
  subst h1 h2 h3 h4
  unfold RPlain32 sn32 fi32 Vg.plainb kd32 sg32 ex32
  simp only [Vg.nn, Vg.INF, Bool.false_eq_true, if_false, decide_eq_true_eq, beq_eq_false_iff_ne, ne_eq]
  generalize Vg.rg false b = r at *
  generalize hq : (r : Int) / 8388608 = q
  generalize ht : (r : Int) % 8388608 = t
  have h0 : (r : Int) = 8388608 * q + t := by omega
  have t0 : 0 ≤ t ∧ t < 8388608 := by omega
  clear hq ht
  rcases hs with ⟨hs, hb'⟩ | ⟨hs, hb'⟩ <;> rw [hs]
  all_goals
    by_cases c1 : q = 255
    · by_cases c2 : t = 0
      · right; left
        refine ⟨by simp only [if_pos c1, if_pos c2], ?_⟩
        have d1 : ¬ 2139095040 < r := by omega
        have d2 : ¬ r = 0 := by omega
        simp only [if_neg d1, if_neg d2, if_true, Bool.false_eq_true, if_false]; omega
      · left
        refine ⟨by simp only [if_pos c1, if_neg c2], ?_⟩
        rw [if_pos (by omega)]
    · have c3 : ¬ 2139095040 < r := by omega
      by_cases c2 : r = 0
      · right; right; left
        have c4 : ¬ 0 < q := by omega
        simp only [if_neg c1, if_neg c4, if_neg c3, if_pos c2]
        refine ⟨trivial, by omega, trivial, by simp⟩
      · right; right; right
        simp only [if_neg c1, if_neg c3, if_neg c2]
        by_cases c4 : 0 < q
        · simp only [if_pos c4, if_true, Bool.false_eq_true, if_false]
          refine ⟨trivial, by omega, by omega, by omega, by omega, by omega, ?_⟩
          rw [if_pos (by omega)]; omega
        · simp only [if_neg c4, if_true, Bool.false_eq_true, if_false]
          refine ⟨trivial, by omega, by omega, by omega, by omega, by omega, ?_⟩
          rw [if_neg (by omega)]; omega

end Go.Proofs.YtgbjckokhonkgaaDoor

/- Join of what Split tells; Split of what Join tells: plain laws. -/
import Derived.Test.YtmhmphkaejnojaaDoorWSplitP
import Derived.Test.YtmhmphkaejnojaaDoorWJoinP
namespace Go.Proofs.YtmhmphkaejnojaaDoor
open Go.RowKit

/-- The significand and the exponent of a rung make it. -/
theorem vr_of64 {r : Nat} (h : r < 9218868437227405312) : Vg.VR true r (sg64 r).toNat (ex64 r) ∧ 0 ≤ sg64 r ∧ sg64 r < 2 * 4503599627370496 ∧ -1074 ≤ ex64 r ∧ ex64 r ≤ 971 ∧ (sg64 r = 0 ↔ r = 0) := by
  have hq : ¬ (r : Int) / 4503599627370496 = 2047 := by omega
  obtain ⟨g, hg⟩ : ∃ g, sg64 r = g := ⟨_, rfl⟩
  obtain ⟨x, hx⟩ : ∃ x, ex64 r = x := ⟨_, rfl⟩
  rw [hg, hx]
  have hgx : 0 < r / 4503599627370496 ∧ g = (r % 4503599627370496 + 4503599627370496 : Nat) ∧ x = -1074 + (r / 4503599627370496 : Nat) - 1 ∨ r / 4503599627370496 = 0 ∧ g = (r % 4503599627370496 : Nat) ∧ x = -1074 := by
    rw [← hg, ← hx]
    unfold sg64 ex64
    rw [if_neg hq, if_neg hq]
    by_cases c : 0 < (r : Int) / 4503599627370496
    · left; rw [if_pos c, if_pos c]; omega
    · right; rw [if_neg c, if_neg c]; omega
  have hs := Vg.WI.start64 hgx
  have hl := Vg.lw64
  refine ⟨?_, by omega, by omega, by omega, by omega, by omega⟩
  unfold Vg.VR
  obtain ⟨h1, h2⟩ := hs
  rw [show (-(x + Vg.lw true)).toNat = 0 by omega, Nat.pow_zero, Nat.mul_one, h2]
/-- What Join tells of what Split told of b. -/
theorem jn_of64 {b : Nat} (hb : b ≤ 18446744073709551615) (hr : Vg.rg true b < 9218868437227405312) {s : Nat} {x : Int} (hv : Vg.VR true (Vg.rg true b) s x) (h0 : s = 0 ↔ Vg.rg true b = 0) {y : Nat} {o : Bool}
    (h : Vg.Jn64 (Vg.ng true b && decide (0 < Vg.rg true b)) s x y o) : o = true ∧ y ≤ 18446744073709551615 ∧ Vg.nn true y = false ∧ Vg.pl true y = Vg.pl true b := by
  have hbd := h.bd
  rw [Int.toNat_natCast] at hbd
  have hi : Vg.INF true = 9218868437227405312 := by decide
  rcases h with ⟨c, hy, rfl⟩ | ⟨c, rfl, r, h1, h2, hy⟩ | ⟨c, rfl, hy, h1⟩
  · refine ⟨rfl, by omega, hbd.2.2, ?_⟩
    obtain rfl : y = 0 := by omega
    have h2 := h0.1 c
    unfold Vg.pl
    rw [h2]
    cases Vg.ng true b <;> simp [Vg.rg, Vg.ng, Vg.S]
  · refine ⟨rfl, by omega, hbd.2.2, ?_⟩
    obtain rfl := h2.uniq hv
    have c2 : 0 < Vg.rg true b := by omega
    rw [decide_eq_true c2, Bool.and_true] at hy
    have e : y = b := by
      simp only [Vg.rg, Vg.ng, Vg.S, if_true] at *
      by_cases d : 9223372036854775808 ≤ b
      · rw [decide_eq_true d, if_pos rfl] at hy; omega
      · rw [decide_eq_false d, if_neg (by decide)] at hy; omega
    rw [e]
  · exact absurd hv (h1 _ (by omega))
/-- What Split tells of what Join told. -/
theorem sp_of64 {n : Bool} {s : Nat} {x : Int} {b : Nat} (h : Vg.Jn64 n s x b true) (h1 : s < 2 * 4503599627370496) (h2 : 4503599627370496 ≤ s ∨ x = -1074) (h3 : -1074 ≤ x) :
    b ≤ 18446744073709551615 ∧ IsSp64 b (n && decide (0 < s)) s x true := by
  have hbd := h.bd
  rw [Int.toNat_natCast] at hbd
  have hi : Vg.INF true = 9218868437227405312 := by decide
  refine ⟨by omega, ?_⟩
  rcases h with ⟨c, hy, -⟩ | ⟨c, -, r, r1, r2, hy⟩ | ⟨_, hc, _⟩
  · obtain rfl : b = 0 := by omega
    subst c
    obtain rfl : x = -1074 := by omega
    have e1 : Vg.rg true 0 = 0 := by decide
    have e2 : Vg.ng true 0 = false := by decide
    unfold IsSp64
    rw [e1, e2, if_neg (by omega)]
    refine ⟨by simp, ?_, ?_, rfl⟩
    · unfold sg64; simp
    · unfold ex64; simp
  · have hl := Vg.lw64
    have ht : 4503599627370496 ≤ s → x ≤ 971 := fun c => Vg.VR.top64 r2 r1 c
    have hx : x ≤ 971 := by omega
    have hv := Vg.vl_fi64 h1 h3 h2
    have hr : r = (if 4503599627370496 ≤ s then (x - (-1074) + 1) * 4503599627370496 + s - 4503599627370496 else (s : Int)).toNat := by
      refine Vg.vl_inj true ?_
      rw [hv]
      unfold Vg.VR at r2
      rwa [show (-(x + Vg.lw true)).toNat = 0 by omega, Nat.pow_zero, Nat.mul_one] at r2
    have er : Vg.rg true b = r := by
      simp only [Vg.rg, Vg.S, if_true]
      cases n <;> simp at hy <;> omega
    have en : Vg.ng true b = n := by
      simp only [Vg.ng, Vg.S, if_true]
      cases n
      · simp at hy; exact decide_eq_false (by omega)
      · simp at hy; exact decide_eq_true (by omega)
    have r0 : 0 < r := by rw [hr]; split <;> omega
    unfold IsSp64
    rw [er, en, if_neg (by omega), decide_eq_true r0, decide_eq_true c]
    refine ⟨rfl, ?_, ?_, rfl⟩
    · unfold sg64
      rw [hr]
      (repeat' split) <;> omega
    · unfold ex64
      rw [hr]
      (repeat' split) <;> omega
  · exact absurd hc (by decide)

/-- The significand and the exponent of a rung make it. -/
theorem vr_of32 {r : Nat} (h : r < 2139095040) : Vg.VR false r (sg32 r).toNat (ex32 r) ∧ 0 ≤ sg32 r ∧ sg32 r < 2 * 8388608 ∧ -149 ≤ ex32 r ∧ ex32 r ≤ 104 ∧ (sg32 r = 0 ↔ r = 0) := by
  have hq : ¬ (r : Int) / 8388608 = 255 := by omega
  obtain ⟨g, hg⟩ : ∃ g, sg32 r = g := ⟨_, rfl⟩
  obtain ⟨x, hx⟩ : ∃ x, ex32 r = x := ⟨_, rfl⟩
  rw [hg, hx]
  have hgx : 0 < r / 8388608 ∧ g = (r % 8388608 + 8388608 : Nat) ∧ x = -149 + (r / 8388608 : Nat) - 1 ∨ r / 8388608 = 0 ∧ g = (r % 8388608 : Nat) ∧ x = -149 := by
    rw [← hg, ← hx]
    unfold sg32 ex32
    rw [if_neg hq, if_neg hq]
    by_cases c : 0 < (r : Int) / 8388608
    · left; rw [if_pos c, if_pos c]; omega
    · right; rw [if_neg c, if_neg c]; omega
  have hs := Vg.WI.start32 hgx
  have hl := Vg.lw32
  refine ⟨?_, by omega, by omega, by omega, by omega, by omega⟩
  unfold Vg.VR
  obtain ⟨h1, h2⟩ := hs
  rw [show (-(x + Vg.lw false)).toNat = 0 by omega, Nat.pow_zero, Nat.mul_one, h2]
/-- What Join tells of what Split told of b. -/
theorem jn_of32 {b : Nat} (hb : b ≤ 4294967295) (hr : Vg.rg false b < 2139095040) {s : Nat} {x : Int} (hv : Vg.VR false (Vg.rg false b) s x) (h0 : s = 0 ↔ Vg.rg false b = 0) {y : Nat} {o : Bool}
    (h : Vg.Jn32 (Vg.ng false b && decide (0 < Vg.rg false b)) s x y o) : o = true ∧ y ≤ 4294967295 ∧ Vg.nn false y = false ∧ Vg.pl false y = Vg.pl false b := by
  have hbd := h.bd
  rw [Int.toNat_natCast] at hbd
  have hi : Vg.INF false = 2139095040 := by decide
  rcases h with ⟨c, hy, rfl⟩ | ⟨c, rfl, r, h1, h2, hy⟩ | ⟨c, rfl, hy, h1⟩
  · refine ⟨rfl, by omega, hbd.2.2, ?_⟩
    obtain rfl : y = 0 := by omega
    have h2 := h0.1 c
    unfold Vg.pl
    rw [h2]
    cases Vg.ng false b <;> simp [Vg.rg, Vg.ng, Vg.S]
  · refine ⟨rfl, by omega, hbd.2.2, ?_⟩
    obtain rfl := h2.uniq hv
    have c2 : 0 < Vg.rg false b := by omega
    rw [decide_eq_true c2, Bool.and_true] at hy
    have e : y = b := by
      simp only [Vg.rg, Vg.ng, Vg.S, Bool.false_eq_true, if_false] at *
      by_cases d : 2147483648 ≤ b
      · rw [decide_eq_true d, if_pos rfl] at hy; omega
      · rw [decide_eq_false d, if_neg (by decide)] at hy; omega
    rw [e]
  · exact absurd hv (h1 _ (by omega))
/-- What Split tells of what Join told. -/
theorem sp_of32 {n : Bool} {s : Nat} {x : Int} {b : Nat} (h : Vg.Jn32 n s x b true) (h1 : s < 2 * 8388608) (h2 : 8388608 ≤ s ∨ x = -149) (h3 : -149 ≤ x) :
    b ≤ 4294967295 ∧ IsSp32 b (n && decide (0 < s)) s x true := by
  have hbd := h.bd
  rw [Int.toNat_natCast] at hbd
  have hi : Vg.INF false = 2139095040 := by decide
  refine ⟨by omega, ?_⟩
  rcases h with ⟨c, hy, -⟩ | ⟨c, -, r, r1, r2, hy⟩ | ⟨_, hc, _⟩
  · obtain rfl : b = 0 := by omega
    subst c
    obtain rfl : x = -149 := by omega
    have e1 : Vg.rg false 0 = 0 := by decide
    have e2 : Vg.ng false 0 = false := by decide
    unfold IsSp32
    rw [e1, e2, if_neg (by omega)]
    refine ⟨by simp, ?_, ?_, rfl⟩
    · unfold sg32; simp
    · unfold ex32; simp
  · have hl := Vg.lw32
    have ht : 8388608 ≤ s → x ≤ 104 := fun c => Vg.VR.top32 r2 r1 c
    have hx : x ≤ 104 := by omega
    have hv := Vg.vl_fi32 h1 h3 h2
    have hr : r = (if 8388608 ≤ s then (x - (-149) + 1) * 8388608 + s - 8388608 else (s : Int)).toNat := by
      refine Vg.vl_inj false ?_
      rw [hv]
      unfold Vg.VR at r2
      rwa [show (-(x + Vg.lw false)).toNat = 0 by omega, Nat.pow_zero, Nat.mul_one] at r2
    have er : Vg.rg false b = r := by
      simp only [Vg.rg, Vg.S, Bool.false_eq_true, if_false]
      cases n <;> simp at hy <;> omega
    have en : Vg.ng false b = n := by
      simp only [Vg.ng, Vg.S, Bool.false_eq_true, if_false]
      cases n
      · simp at hy; exact decide_eq_false (by omega)
      · simp at hy; exact decide_eq_true (by omega)
    have r0 : 0 < r := by rw [hr]; split <;> omega
    unfold IsSp32
    rw [er, en, if_neg (by omega), decide_eq_true r0, decide_eq_true c]
    refine ⟨rfl, ?_, ?_, rfl⟩
    · unfold sg32
      rw [hr]
      (repeat' split) <;> omega
    · unfold ex32
      rw [hr]
      (repeat' split) <;> omega
  · exact absurd hc (by decide)

end Go.Proofs.YtmhmphkaejnojaaDoor

/- The middle of two numbers, rounded: its place. Plain arithmetic. -/
import Derived.Test.YtljnadoodbninaaMSum
namespace Vg
open Go Ieee
/-- The rung that so many halves of the least unit are rounded to. -/
def UH (V : Nat) : Nat := (V.log2 - 53) * 4503599627370496 + halve V (V.log2 - 53 + 1)
theorem UH_zero : UH 0 = 0 := by decide
theorem RH_U (V : Nat) : RH FloatKind.f64.format (U FloatKind.f64.format V) = UH V := by
  have hB := f64_B
  rcases Nat.lt_or_ge V (2 * FloatKind.f64.format.binade) with c | c
  · rw [U_small _ c]
    unfold RH UH
    rw [if_pos c]
    have : V.log2 - 53 = 0 := by
      by_cases h0 : V = 0
      · subst h0; decide
      · have := (Nat.log2_lt h0 (k := 53)).2 (by rw [hB] at c; omega)
        omega
    rw [this, Nat.zero_mul, Nat.zero_add, Nat.zero_add]
  · obtain ⟨d, k, d0, hd, hk, hU, k1, k2, b1, b2⟩ := U_parts _ c
    have hF : FloatKind.f64.format.fractionBits = 52 := rfl
    rw [hF] at hd
    rw [hB] at hU k1
    unfold RH UH
    rw [hU, hB]
    have hm : 4503599627370496 ≤ d * 4503599627370496 := by omega
    rw [if_neg (by omega), hd, show 52 + d - 53 + 1 = d by omega, ← hk, show 52 + d - 53 = d - 1 by omega]
    omega
theorem U_half (V : Nat) : UH (2 * V) = U FloatKind.f64.format V := by
  by_cases h0 : V = 0
  · subst h0; decide
  · have hl := log2_mul_two_pow (n := V) (by omega) 1
    rw [Nat.pow_one, Nat.mul_comm] at hl
    have hF : FloatKind.f64.format.fractionBits = 52 := rfl
    unfold UH U
    rw [hl, hF, f64_B, show V.log2 + 1 - 53 = V.log2 - 52 by omega]
    have e := halve_scale V 1 (V.log2 - 52)
    rw [Nat.pow_one, Nat.mul_comm V 2] at e
    rw [e]
/-- The place of the middle of two numbers. -/
def mdp (p q : Int) : Int := if sv p + sv q < 0 then -(UH (sv p + sv q).natAbs : Int) else UH (sv p + sv q).natAbs
theorem mdp_of {p q : Int} {n : Bool} (n1 : sv p + sv q < 0 → n = true) (n2 : 0 < sv p + sv q → n = false) : (if n then -(UH (sv p + sv q).natAbs : Int) else UH (sv p + sv q).natAbs) = mdp p q := by
  unfold mdp
  by_cases h : sv p + sv q < 0
  · rw [n1 h]; simp only [if_true, if_pos h]
  · rw [if_neg h]
    by_cases h0 : sv p + sv q = 0
    · rw [h0, show (0 : Int).natAbs = 0 from rfl, UH_zero]; cases n <;> simp
    · rw [n2 (by omega)]; simp only [Bool.false_eq_true, if_false]
theorem half_su {r : Int} (hr : Pl r) (hi : r.natAbs < 9218868437227405312) (hb : 9007199254740992 ≤ r.natAbs) : ∃ x, floatBits .quo .f64 (atn true r) 4611686018427387904 = some x ∧ x ≤ 18446744073709551615 ∧ rg true x < 9218868437227405312 ∧ 2 * su x = sv r := by
  have e := quo_two _ (atn_le hr) (by rw [rg_atn hr]; exact hi)
  rw [rg_atn hr] at e
  have hl := RH_le_r r.natAbs
  obtain ⟨v1, v2, v3, v4⟩ := f64_word (ng true (atn true r)) (r := RH FloatKind.f64.format r.natAbs) (by omega)
  have hv := RH_val FloatKind.f64.format (P := r.natAbs) (by rw [f64_B]; omega)
  generalize RH FloatKind.f64.format r.natAbs = R at *
  refine ⟨FloatKind.f64.format.word (ng true (atn true r)) R, e, v1, by rw [v2]; omega, ?_⟩
  rw [su_word _ (by omega), ng_atn hr]
  unfold sv
  generalize val FloatKind.f64.format R = A at *
  generalize val FloatKind.f64.format r.natAbs = B at *
  by_cases h : r < 0
  · rw [decide_eq_true h, if_pos h]; simp only [if_true]; omega
  · rw [decide_eq_false h, if_neg h]; simp only [Bool.false_eq_true, if_false]; omega
/-- Where the program's middle lies. -/
theorem cen_place {p q c : Int} (h : Cen p q c) (h1 : -PI < p) (h2 : q < PI) (h3 : p + 1 < q) (c1 : p < c) (c2 : c < q) : c = mdp p q := by
  rw [PI_eq] at h1 h2
  have hp : Pl p := by unfold Pl; rw [PI_eq]; omega
  have hq : Pl q := by unfold Pl; rw [PI_eq]; omega
  have hc : Pl c := by unfold Pl; rw [PI_eq]; omega
  have ap := atn_le hp
  have aq := atn_le hq
  have rp := rg_atn hp
  have rq := rg_atn hq
  obtain ⟨n, hs, n1, n2⟩ := add_num _ _ ap aq (by omega) (by omega)
  rw [su_atn hp, su_atn hq] at hs n1 n2
  have md := mdp_of n1 n2
  obtain ⟨s, s1, s2, hh⟩ := h
  obtain rfl := Option.some.inj (hs.symm.trans s2)
  by_cases hU : U FloatKind.f64.format (sv p + sv q).natAbs < 9218868437227405312
  · rw [Nat.min_eq_left (by omega)] at hh s1
    obtain ⟨w1, w2, w3, w4⟩ := f64_word n (r := U FloatKind.f64.format (sv p + sv q).natAbs) (by omega)
    rcases hh with ⟨-, d, d1, d2, d3⟩ | ⟨hi, -⟩
    · have hq2 := quo_two _ w1 (by rw [w2]; exact hU)
      have hr := RH_le_r (U FloatKind.f64.format (sv p + sv q).natAbs)
      rw [w2, ng_word64 n (by omega)] at hq2
      obtain ⟨v1, v2, v3, v4⟩ := f64_word n (r := RH FloatKind.f64.format (U FloatKind.f64.format (sv p + sv q).natAbs)) (by omega)
      obtain rfl := Option.some.inj (hq2.symm.trans d2)
      rw [plain_atn v1 v4, v3] at d3
      have e := atn_inj (by unfold Pl; rw [PI_eq]; cases n <;> simp <;> omega) hc d3
      rw [← e, ← md, RH_U]
    · unfold infb at hi; rw [w2] at hi
      have := of_decide_eq_true hi
      omega
  · rw [Nat.min_eq_right (by omega)] at hh s1
    obtain ⟨w1, w2, w3, w4⟩ := f64_word n (r := 9218868437227405312) (by omega)
    rcases hh with ⟨hi, -⟩ | ⟨-, x, y, x1, y1, m1⟩
    · unfold infb at hi; rw [w2] at hi; exact absurd rfl (of_decide_eq_false hi)
    · have big : 9007199254740992 ≤ p.natAbs ∧ 9007199254740992 ≤ q.natAbs := by
        by_cases d1 : 0 ≤ p
        · have s1 := sv_pos d1
          have s2 := sv_pos (p := q) (by omega)
          have e : (sv p + sv q).natAbs = val FloatKind.f64.format p.natAbs + val FloatKind.f64.format q.natAbs := by omega
          rw [e] at hU
          have := over_big (P := p.natAbs) (Q := q.natAbs) (by omega) (by omega)
          omega
        · by_cases d2 : q ≤ 0
          · have s1 := sv_neg d2
            have s2 := sv_neg (p := p) (by omega)
            have e : (sv p + sv q).natAbs = val FloatKind.f64.format q.natAbs + val FloatKind.f64.format p.natAbs := by omega
            rw [e] at hU
            have := over_big (P := q.natAbs) (Q := p.natAbs) (by omega) (by omega)
            omega
          · have s1 := sv_pos (p := q) (by omega)
            have s2 := sv_neg (p := p) (by omega)
            exfalso
            by_cases d : 0 ≤ sv p + sv q
            · have := U_le_val FloatKind.f64.format (V := (sv p + sv q).natAbs) (r := q.natAbs) (by omega); omega
            · have := U_le_val FloatKind.f64.format (V := (sv p + sv q).natAbs) (r := p.natAbs) (by omega); omega
      obtain ⟨x', hx, x2, x3, x4⟩ := half_su hp (by omega) big.1
      obtain ⟨y', hy, y2, y3, y4⟩ := half_su hq (by omega) big.2
      obtain rfl := Option.some.inj (hx.symm.trans x1)
      obtain rfl := Option.some.inj (hy.symm.trans y1)
      obtain ⟨k, ha, k1, k2⟩ := add_num x' y' x2 y2 x3 y3
      have hV : (sv p + sv q).natAbs = 2 * (su x' + su y').natAbs := by omega
      have hc3 := Option.some.inj (ha.symm.trans m1)
      have e0 := U_half (su x' + su y').natAbs
      rw [← hV] at e0
      obtain ⟨v1, v2, v3, v4⟩ := f64_word k (r := min (U FloatKind.f64.format (su x' + su y').natAbs) 9218868437227405312) (Nat.min_le_right _ _)
      have e := pl_atn hc
      rw [← hc3, v3, ← e0] at e
      have hlt : UH (sv p + sv q).natAbs < 9218868437227405312 := by
        refine Classical.byContradiction fun hh => ?_
        rw [Nat.min_eq_right (by omega)] at e
        cases k <;> simp at e <;> omega
      rw [Nat.min_eq_left (by omega)] at e
      have md2 := mdp_of (p := p) (q := q) (n := k) (fun h => k1 (by omega)) (fun h => k2 (by omega))
      rw [md2] at e
      exact e.symm
end Vg

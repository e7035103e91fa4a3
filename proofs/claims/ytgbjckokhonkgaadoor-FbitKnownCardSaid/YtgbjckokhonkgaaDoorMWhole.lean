import Derived.Test.YtgbjckokhonkgaaDoorMNum
import Derived.Test.YtgbjckokhonkgaaDoorMPat
import Derived.Laws.FloatArith
import Derived.Laws.Cover2
/- What Whole and Of tell: the integers among the patterns. Plain arithmetic. -/
namespace Vg
open Go Ieee

def vl (l : Bool) (r : Nat) : Nat := val (fm l).format r
def lw (l : Bool) : Nat := low (fm l).format
def fr (l : Bool) : Nat := (fm l).format.fractionBits
/-- The rung of 2^63. -/
def R63 (l : Bool) : Nat := if l then 4890909195324358656 else 1593835520

theorem vl_R63 (l : Bool) : vl l (R63 l) = 9223372036854775808 * 2 ^ lw l := by cases l <;> decide +kernel
theorem vl_lt_iff (l : Bool) {r s : Nat} : vl l r < vl l s ↔ r < s := val_lt_iff _
theorem vl_inj (l : Bool) {r s : Nat} (h : vl l r = vl l s) : r = s := val_inj _ h
theorem vl_zero (l : Bool) : vl l 0 = 0 := val_zero _
theorem R63_lt (l : Bool) : R63 l < INF l := by cases l <;> decide
theorem INF_lt (l : Bool) : INF l < S l := by cases l <;> decide
theorem INF_eq (l : Bool) : (fm l).format.infRung = INF l := by cases l <;> rfl

theorem neg_eq (l : Bool) (b : Nat) (hb : b < 2 * S l) : neg (fm l).format b = ng l b := by
  cases l <;> simp only [neg, ng, S, fm, FloatKind.format, Ieee.Format.signWeight, Ieee.single, Ieee.double] at * <;> (rw [Bool.eq_iff_iff]; simp only [beq_iff_eq, decide_eq_true_eq]; simp at *; omega)
theorem rung_eq (l : Bool) (b : Nat) : rung (fm l).format b = rg l b := by cases l <;> rfl

/-- What is left of a pattern's number, cut towards zero. -/
def cutv (l : Bool) (b : Nat) : Int := if ng l b then -((vl l (rg l b) / 2 ^ lw l : Nat) : Int) else ((vl l (rg l b) / 2 ^ lw l : Nat) : Int)

theorem cut_int (l : Bool) (b : Nat) (hb : b < 2 * S l) (hr : rg l b ≤ R63 l) (hp : ng l b = false → rg l b < R63 l) : floatToIntVal (fm l) b .i64 = some (cutv l b) ∧ -9223372036854775808 ≤ cutv l b ∧ cutv l b ≤ 9223372036854775807 := by
  have hP : 0 < 2 ^ lw l := Nat.two_pow_pos _
  have h1 : vl l (rg l b) ≤ 9223372036854775808 * 2 ^ lw l := by
    rw [← vl_R63]
    have := @vl_lt_iff l (R63 l) (rg l b)
    omega
  have h2 : vl l (rg l b) / 2 ^ lw l ≤ 9223372036854775808 := by
    have := Nat.div_le_div_right (c := 2 ^ lw l) h1
    rwa [Nat.mul_div_cancel _ hP] at this
  have h3 : ng l b = false → vl l (rg l b) / 2 ^ lw l < 9223372036854775808 := by
    intro h
    rw [Nat.div_lt_iff_lt_mul hP, ← vl_R63]
    exact (vl_lt_iff l).2 (hp h)
  have hb1 : -9223372036854775808 ≤ cutv l b ∧ cutv l b ≤ 9223372036854775807 := by
    unfold cutv
    generalize vl l (rg l b) / 2 ^ lw l = k at h2 h3
    cases hn : ng l b
    · have := h3 hn
      simp only [Bool.false_eq_true, if_false]; omega
    · simp only [if_true]; omega
  refine ⟨?_, hb1⟩
  have e := toInt_zero (fm l).format b (by rw [rung_eq, INF_eq]; have := R63_lt l; omega) (by cases l <;> decide)
  rw [neg_eq l b hb, rung_eq] at e
  unfold floatToIntVal FloatKind.decode
  rw [e]
  show (if IntKind.i64.min ≤ cutv l b ∧ cutv l b ≤ IntKind.i64.max then some (cutv l b) else none) = some (cutv l b)
  exact if_pos hb1

/-- What an integer becomes. -/
theorem of_int (l : Bool) (n : Int) (h1 : -9223372036854775808 ≤ n) (h2 : n ≤ 9223372036854775807) :
    ∃ r, r < INF l ∧ floatOfInt (fm l) n = (if n < 0 then S l + r else r) ∧ vl l r = rnd (fr l) n.natAbs * 2 ^ lw l := by
  by_cases h0 : n = 0
  · subst h0
    exact ⟨0, by cases l <;> decide, by cases l <;> decide +kernel, by rw [vl_zero]; cases l <;> decide +kernel⟩
  · obtain ⟨r, e1, e2, e3⟩ := nearest_int (fm l).format (decide (n < 0)) n.natAbs (by omega) (by omega) (by cases l <;> decide) (by cases l <;> decide) (by cases l <;> decide)
    refine ⟨r, by rw [← INF_eq]; exact e1, ?_, e3⟩
    show (fm l).format.nearest (decide (n < 0)) n.natAbs 0 = _
    rw [e2]
    unfold Format.word
    by_cases h : n < 0
    · simp only [h, decide_true, if_true]; cases l <;> rfl
    · simp only [h, decide_false, Bool.false_eq_true, if_false]

theorem log2_between {n F : Nat} (h1 : 2 ^ F ≤ n) (h2 : n < 2 ^ (F + 1)) : n.log2 = F := by
  have hn : n ≠ 0 := by have := Nat.two_pow_pos F; omega
  have a := (Nat.le_log2 hn).2 h1
  have b := (Nat.log2_lt hn).2 h2
  omega

/-- An integer that a pattern stands for is not rounded. -/
theorem rnd_exact (f : Format) (r k L : Nat) (h : val f r = k * 2 ^ L) : rnd f.fractionBits k = k := by
  unfold rnd
  by_cases hc : k.log2 ≤ f.fractionBits
  · rw [if_pos hc]
  · rw [if_neg hc]
    have hk : k ≠ 0 := by rintro rfl; simp at hc
    have l1 : 2 ^ (f.fractionBits + 1) ≤ k := (Nat.le_log2 hk).1 (by omega)
    have hB := binade_pos f
    have e2 : 2 ^ (f.fractionBits + 1) = 2 * f.binade := by rw [Nat.pow_succ, Nat.mul_comm]; rfl
    have hL : 0 < 2 ^ L := Nat.two_pow_pos _
    have hkL : k ≤ k * 2 ^ L := Nat.le_mul_of_pos_right _ hL
    unfold val at h
    by_cases hr : r < f.binade
    · rw [if_pos hr] at h
      omega
    · rw [if_neg hr] at h
      have ht : r % f.binade < f.binade := Nat.mod_lt _ hB
      generalize r / f.binade - 1 = q at h
      generalize hs : f.binade + r % f.binade = s at h
      have hq : L ≤ q := by
        refine Nat.le_of_not_lt fun hlt => ?_
        have e : 2 ^ L = 2 ^ (L - q) * 2 ^ q := by rw [← Nat.pow_add]; congr 1; omega
        rw [e, ← Nat.mul_assoc] at h
        have h3 := Nat.eq_of_mul_eq_mul_right (Nat.two_pow_pos q) h
        have : k ≤ k * 2 ^ (L - q) := Nat.le_mul_of_pos_right _ (Nat.two_pow_pos _)
        omega
      have e : 2 ^ q = 2 ^ (q - L) * 2 ^ L := by rw [← Nat.pow_add]; congr 1; omega
      rw [e, ← Nat.mul_assoc] at h
      have h3 := (Nat.eq_of_mul_eq_mul_right hL h).symm
      have hlog : k.log2 = f.fractionBits + (q - L) := by
        apply log2_between
        · rw [h3, Nat.pow_add]
          exact Nat.mul_le_mul_right _ (by rw [← hs]; exact Nat.le_add_right _ _)
        · rw [h3, show f.fractionBits + (q - L) + 1 = f.fractionBits + 1 + (q - L) by omega, Nat.pow_add]
          exact Nat.mul_lt_mul_of_pos_right (by omega) (Nat.two_pow_pos _)
      rw [hlog, show f.fractionBits + (q - L) - f.fractionBits = q - L by omega, halve_exact h3]
      exact h3.symm

theorem rg_word (l : Bool) (r : Nat) (s : Prop) [Decidable s] (h : r < INF l) : rg l (if s then S l + r else r) = r := by
  have := INF_lt l
  unfold rg
  split
  · rw [Nat.add_mod_left, Nat.mod_eq_of_lt (by omega)]
  · rw [Nat.mod_eq_of_lt (by omega)]
theorem ng_word (l : Bool) (r : Nat) (s : Prop) [Decidable s] (h : r < INF l) : ng l (if s then S l + r else r) = decide s := by
  have := INF_lt l
  unfold ng
  by_cases hs : s
  · simp [hs]
  · simp [hs]; omega

/-- It leads back just where nothing is cut off. -/
theorem back (l : Bool) (b : Nat) (hb : b < 2 * S l) (hr : rg l b ≤ R63 l) (hp : ng l b = false → rg l b < R63 l) :
    pl l (floatOfInt (fm l) (cutv l b)) = pl l b ↔ ∃ k, vl l (rg l b) = k * 2 ^ lw l := by
  have hP : 0 < 2 ^ lw l := Nat.two_pow_pos _
  obtain ⟨-, b1, b2⟩ := cut_int l b hb hr hp
  obtain ⟨r, e1, e2, e3⟩ := of_int l (cutv l b) b1 b2
  rw [e2]
  have na : (cutv l b).natAbs = vl l (rg l b) / 2 ^ lw l := by
    unfold cutv
    generalize vl l (rg l b) / 2 ^ lw l = k
    split <;> omega
  have hpl : pl l (if cutv l b < 0 then S l + r else r) = if cutv l b < 0 then -(r : Int) else r := by
    unfold pl; rw [rg_word l r _ e1, ng_word l r _ e1]; simp only [decide_eq_true_eq]
  rw [hpl]
  rw [na] at e3
  constructor
  · intro h
    by_cases hz : rg l b = 0
    · exact ⟨0, by rw [hz, vl_zero]; simp⟩
    · have hrr : r = rg l b := by
        unfold pl at h
        split at h <;> split at h <;> omega
      exact ⟨_, by rw [← hrr]; exact e3⟩
  · rintro ⟨k, hk⟩
    have h1 : vl l (rg l b) / 2 ^ lw l = k := by rw [hk, Nat.mul_div_cancel _ hP]
    rw [h1, show fr l = (fm l).format.fractionBits from rfl, rnd_exact _ _ _ _ hk, ← hk] at e3
    have h2 := vl_inj l e3
    subst h2
    unfold pl cutv
    rw [h1]
    cases hn : ng l b
    · simp only [Bool.false_eq_true, if_false]
      rw [if_neg (by omega)]
    · simp only [if_true]
      by_cases hk0 : k = 0
      · subst hk0
        have : rg l b = 0 := vl_inj l (by rw [hk, vl_zero]; simp)
        rw [this]; simp
      · rw [if_pos (by omega)]

/-- What Whole tells of a pattern. -/
def Wh (l : Bool) (b : Nat) (n : Int) (ok : Bool) : Prop :=
  (∃ k : Nat, rg l b < INF l ∧ vl l (rg l b) = k * 2 ^ lw l ∧ n = (if ng l b then -(k : Int) else k) ∧ -9223372036854775808 ≤ n ∧ n ≤ 9223372036854775807 ∧ ok = true) ∨
  ((∀ k : Nat, rg l b < INF l → vl l (rg l b) = k * 2 ^ lw l → ¬ (-9223372036854775808 ≤ (if ng l b then -(k : Int) else k) ∧ (if ng l b then -(k : Int) else k) ≤ 9223372036854775807)) ∧ n = 0 ∧ ok = false)

theorem Wh.same {l : Bool} {b : Nat} {n m : Int} {o p : Bool} (h : Wh l b n o) (g : Wh l b m p) : n = m ∧ o = p := by
  rcases h with ⟨k, h1, h2, rfl, h4, h5, rfl⟩ | ⟨h1, rfl, rfl⟩ <;> rcases g with ⟨j, g1, g2, rfl, g4, g5, rfl⟩ | ⟨g1, rfl, rfl⟩
  · have := Nat.eq_of_mul_eq_mul_right (Nat.two_pow_pos _) (h2.symm.trans g2)
    subst this; exact ⟨rfl, rfl⟩
  · exact absurd ⟨h4, h5⟩ (g1 k h1 h2)
  · exact absurd ⟨g4, g5⟩ (h1 j g1 g2)
  · exact ⟨rfl, rfl⟩

theorem wh_yes (l : Bool) (b : Nat) (hb : b < 2 * S l) (hr : rg l b ≤ R63 l) (hp : ng l b = false → rg l b < R63 l) (h : pl l (floatOfInt (fm l) (cutv l b)) = pl l b) : Wh l b (cutv l b) true := by
  obtain ⟨-, b1, b2⟩ := cut_int l b hb hr hp
  obtain ⟨k, hk⟩ := (back l b hb hr hp).1 h
  refine .inl ⟨k, by have := R63_lt l; omega, hk, ?_, b1, b2, rfl⟩
  unfold cutv
  rw [hk, Nat.mul_div_cancel _ (Nat.two_pow_pos _)]

theorem wh_no (l : Bool) (b : Nat) (hb : b < 2 * S l) (hr : rg l b ≤ R63 l) (hp : ng l b = false → rg l b < R63 l) (h : pl l (floatOfInt (fm l) (cutv l b)) ≠ pl l b) : Wh l b 0 false :=
  .inr ⟨fun k _ h2 _ => h ((back l b hb hr hp).2 ⟨k, h2⟩), rfl, rfl⟩

theorem wh_out (l : Bool) (b : Nat) (h : R63 l < rg l b ∨ ng l b = false ∧ R63 l ≤ rg l b) : Wh l b 0 false := by
  refine .inr ⟨fun k _ h2 h3 => ?_, rfl, rfl⟩
  have hP : 0 < 2 ^ lw l := Nat.two_pow_pos _
  have h63 := vl_R63 l
  rcases h with h | ⟨hn, h⟩
  · have h4 := (vl_lt_iff l).2 h
    rw [h63, h2] at h4
    have := Nat.lt_of_mul_lt_mul_right h4
    split at h3 <;> omega
  · have h4 : vl l (R63 l) ≤ vl l (rg l b) := by
      have := @vl_lt_iff l (rg l b) (R63 l)
      omega
    rw [h63, h2] at h4
    have := Nat.le_of_mul_le_mul_right h4 hP
    rw [hn] at h3
    simp only [Bool.false_eq_true, if_false] at h3
    omega
end Vg

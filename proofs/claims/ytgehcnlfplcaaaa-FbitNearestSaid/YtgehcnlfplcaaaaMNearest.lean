/- Rounding an integer: it rises, and nothing is nearer. Plain arithmetic. -/
import Derived.Test.YtgehcnlfplcaaaaMOf
import Derived.Test.YtgehcnlfplcaaaaMNext
namespace Vg
open Go Ieee

theorem halve_mono {n m k : Nat} (h : n ≤ m) : halve n k ≤ halve m k := by
  have hp : 0 < 2 ^ k := Nat.two_pow_pos _
  have hq : n / 2 ^ k ≤ m / 2 ^ k := Nat.div_le_div_right h
  have dn := Nat.div_add_mod n (2 ^ k)
  have dm := Nat.div_add_mod m (2 ^ k)
  unfold halve
  rcases Nat.lt_or_ge (n / 2 ^ k) (m / 2 ^ k) with c | c
  · split <;> split <;> omega
  · have e : n / 2 ^ k = m / 2 ^ k := by omega
    rw [e] at dn ⊢
    have ht : n % 2 ^ k ≤ m % 2 ^ k := by omega
    split <;> split <;> omega
theorem rnd_bd {F n : Nat} (hn : 0 < n) : 2 ^ n.log2 ≤ rnd F n ∧ rnd F n ≤ 2 ^ (n.log2 + 1) := by
  have l1 : 2 ^ n.log2 ≤ n := Nat.log2_self_le (by omega)
  have l2 : n < 2 ^ (n.log2 + 1) := Nat.lt_log2_self
  unfold rnd
  split
  · omega
  · have a : 2 ^ F ≤ halve n (n.log2 - F) := le_halve (by rw [← Nat.pow_add, show F + (n.log2 - F) = n.log2 by omega]; exact l1)
    have b : halve n (n.log2 - F) ≤ 2 ^ (F + 1) := halve_le (by rw [← Nat.pow_add, show F + 1 + (n.log2 - F) = n.log2 + 1 by omega]; exact l2)
    have c := Nat.mul_le_mul_right (2 ^ (n.log2 - F)) a
    have d := Nat.mul_le_mul_right (2 ^ (n.log2 - F)) b
    rw [← Nat.pow_add] at c d
    rw [show F + (n.log2 - F) = n.log2 by omega] at c
    rw [show F + 1 + (n.log2 - F) = n.log2 + 1 by omega] at d
    exact ⟨c, d⟩
theorem rnd_mono {F n m : Nat} (h : n ≤ m) : rnd F n ≤ rnd F m := by
  by_cases h0 : n = 0
  · subst h0; unfold rnd; simp
  · have bn := (rnd_bd (F := F) (n := n) (by omega)).2
    have bm := (rnd_bd (F := F) (n := m) (by omega)).1
    have hl : n.log2 ≤ m.log2 := (Nat.le_log2 (by omega)).2 (Nat.le_trans (Nat.log2_self_le h0) h)
    rcases Nat.lt_or_ge n.log2 m.log2 with c | c
    · exact Nat.le_trans bn (Nat.le_trans (Nat.pow_le_pow_right (by decide) c) bm)
    · have e : n.log2 = m.log2 := by omega
      unfold rnd
      rw [e]
      split
      · exact h
      · exact Nat.mul_le_mul_right _ (halve_mono h)

theorem of_pl (l : Bool) (n : Int) (h1 : -9223372036854775808 ≤ n) (h2 : n ≤ 9223372036854775807) :
    ∃ r : Nat, r < INF l ∧ floatOfInt (fm l) n = (if n < 0 then S l + r else r) ∧ vl l r = rnd (fr l) n.natAbs * 2 ^ lw l ∧ pl l (floatOfInt (fm l) n) = (if n < 0 then -(r : Int) else r) := by
  obtain ⟨r, r1, r2, r3⟩ := of_int l n h1 h2
  refine ⟨r, r1, r2, r3, ?_⟩
  unfold pl
  rw [r2, rg_word l r _ r1, ng_word l r _ r1]; simp only [decide_eq_true_eq]
theorem vl_le_iff (l : Bool) {r s : Nat} : vl l r ≤ vl l s ↔ r ≤ s := by
  have := @vl_lt_iff l s r
  omega
/-- Of rises. -/
theorem of_mono (l : Bool) {n m : Int} (h : n ≤ m) (h1 : -9223372036854775808 ≤ n) (h2 : m ≤ 9223372036854775807) : pl l (floatOfInt (fm l) n) ≤ pl l (floatOfInt (fm l) m) := by
  obtain ⟨r, r1, -, r3, r4⟩ := of_pl l n h1 (by omega)
  obtain ⟨s, s1, -, s3, s4⟩ := of_pl l m (by omega) h2
  rw [r4, s4]
  by_cases c : n < 0
  · rw [if_pos c]
    by_cases d : m < 0
    · rw [if_pos d]
      have := rnd_mono (F := fr l) (show m.natAbs ≤ n.natAbs by omega)
      have := Nat.mul_le_mul_right (2 ^ lw l) this
      rw [← r3, ← s3, vl_le_iff] at this
      omega
    · rw [if_neg d]; omega
  · rw [if_neg c, if_neg (by omega)]
    have := rnd_mono (F := fr l) (show n.natAbs ≤ m.natAbs by omega)
    have := Nat.mul_le_mul_right (2 ^ lw l) this
    rw [← r3, ← s3, vl_le_iff] at this
    omega
/-- Of goes by the sign. -/
theorem of_neg (l : Bool) {n : Int} (h1 : -9223372036854775808 < n) (h2 : n ≤ 9223372036854775807) (h0 : n ≠ 0) : pl l (floatOfInt (fm l) (-n)) = -pl l (floatOfInt (fm l) n) := by
  obtain ⟨r, r1, -, r3, r4⟩ := of_pl l n (by omega) (by omega)
  obtain ⟨s, s1, -, s3, s4⟩ := of_pl l (-n) (by omega) (by omega)
  rw [Int.natAbs_neg, ← r3] at s3
  have := vl_inj l s3
  rw [r4, s4, this]
  split <;> split <;> omega

/-- An integer that is rounded lies between two that are not, and the nearer of them is taken. -/
theorem between (l : Bool) {n r : Nat} (hn : n < 2 ^ 64) (h : rnd (fr l) n ≠ n) (hv : vl l r = rnd (fr l) n * 2 ^ lw l) :
    ∃ lo hi : Nat, lo < n ∧ n < hi ∧ hi ≤ 2 ^ 64 ∧ (rnd (fr l) n = lo ∧ n - lo ≤ hi - n ∧ vl l (r + 1) = hi * 2 ^ lw l ∨ rnd (fr l) n = hi ∧ hi - n ≤ n - lo ∧ 0 < r ∧ vl l (r - 1) = lo * 2 ^ lw l) := by
  have hn0 : n ≠ 0 := by rintro rfl; apply h; unfold rnd; simp
  have l1 : 2 ^ n.log2 ≤ n := Nat.log2_self_le hn0
  have l2 : n < 2 ^ (n.log2 + 1) := Nat.lt_log2_self
  have hB : (fm l).format.binade = 2 ^ fr l := rfl
  unfold rnd at h hv ⊢
  by_cases c : n.log2 ≤ fr l
  · rw [if_pos c] at h; exact absurd rfl h
  rw [if_neg c] at h hv ⊢
  obtain ⟨k, hk⟩ : ∃ k, n.log2 - fr l = k := ⟨_, rfl⟩
  rw [hk] at h hv ⊢
  have hp : 0 < 2 ^ k := Nat.two_pow_pos _
  have dn := Nat.div_add_mod n (2 ^ k)
  have ht := Nat.mod_lt n hp
  have q1 : 2 ^ fr l ≤ n / 2 ^ k := by rw [Nat.le_div_iff_mul_le hp, ← Nat.pow_add, show fr l + k = n.log2 by omega]; exact l1
  have q2 : n / 2 ^ k < 2 ^ (fr l + 1) := by rw [Nat.div_lt_iff_lt_mul hp, ← Nat.pow_add, show fr l + 1 + k = n.log2 + 1 by omega]; exact l2
  have q3 : (2 : Nat) ^ (fr l + 1) = 2 * 2 ^ fr l := by rw [Nat.pow_succ, Nat.mul_comm]
  generalize hq : n / 2 ^ k = q at *
  generalize n % 2 ^ k = t at *
  have e1 : (q + 1) * 2 ^ k = 2 ^ k * q + 2 ^ k := by rw [Nat.add_mul, Nat.one_mul, Nat.mul_comm]
  have e0 : q * 2 ^ k = 2 ^ k * q := Nat.mul_comm _ _
  have hh : halve n k = q ∧ 2 * t ≤ 2 ^ k ∨ halve n k = q + 1 ∧ 2 ^ k ≤ 2 * t := by
    unfold halve; rw [hq]
    have : n % 2 ^ k = t := by have := Nat.div_add_mod n (2 ^ k); rw [hq] at this; omega
    rw [this]
    split
    · right; exact ⟨rfl, by omega⟩
    · left; exact ⟨rfl, by omega⟩
  have t0 : 0 < t := by
    refine Nat.pos_of_ne_zero fun z => ?_
    rcases hh with ⟨a, b⟩ | ⟨a, b⟩
    · apply h; rw [a]; omega
    · omega
  have hi64 : (q + 1) * 2 ^ k ≤ 2 ^ 64 := by
    have hl63 : n.log2 ≤ 63 := by have := (Nat.log2_lt hn0).2 hn; omega
    have a : (q + 1) * 2 ^ k ≤ 2 ^ (fr l + 1) * 2 ^ k := Nat.mul_le_mul_right _ (by omega)
    rw [← Nat.pow_add] at a
    exact Nat.le_trans a (Nat.pow_le_pow_right (by decide) (by omega))
  have vr : ∀ s : Nat, 2 ^ fr l ≤ s → s ≤ 2 * 2 ^ fr l → vl l ((k + lw l) * 2 ^ fr l + s) = s * 2 ^ k * 2 ^ lw l := by
    intro s s1 s2
    have := val_rung (fm l).format (k + lw l) s (.inr (by rw [hB]; exact s1)) (by rw [hB]; exact s2)
    rw [hB] at this
    rw [Nat.mul_assoc, ← Nat.pow_add]; exact this
  refine ⟨q * 2 ^ k, (q + 1) * 2 ^ k, by omega, by omega, hi64, ?_⟩
  rcases hh with ⟨a, b⟩ | ⟨a, b⟩
  · left
    rw [a] at hv ⊢
    have er := vl_inj l (hv.trans (vr q q1 (by omega)).symm)
    refine ⟨rfl, by omega, ?_⟩
    rw [er, Nat.add_assoc]
    exact vr (q + 1) (by omega) (by omega)
  · right
    rw [a] at hv ⊢
    have er := vl_inj l (hv.trans (vr (q + 1) (by omega) (by omega)).symm)
    refine ⟨rfl, by omega, by omega, ?_⟩
    rw [er, show (k + lw l) * 2 ^ fr l + (q + 1) - 1 = (k + lw l) * 2 ^ fr l + q by omega]
    exact vr q q1 (by omega)

theorem wh_val {l : Bool} {u : Nat} {a : Int} (h : Wh l u a true) : ∃ k : Nat, vl l (pl l u).natAbs = k * 2 ^ lw l ∧ (0 < pl l u → a = k) ∧ (pl l u < 0 → a = -(k : Int)) ∧ (pl l u = 0 → a = 0) := by
  rcases h with ⟨k, -, h2, rfl, -, -, -⟩ | ⟨-, -, h⟩
  · have e : (pl l u).natAbs = rg l u := by unfold pl; split <;> omega
    refine ⟨k, by rw [e]; exact h2, ?_, ?_, ?_⟩
    · intro h; unfold pl at h; split at h
      · omega
      · rw [if_neg ‹_›]
    · intro h; unfold pl at h; split at h
      · rw [if_pos ‹_›]
      · omega
    · intro h
      have h0 : rg l u = 0 := by omega
      rw [h0, vl_zero] at h2
      have : k = 0 := by
        rcases Nat.eq_zero_or_pos k with c | c
        · exact c
        · have := Nat.mul_pos c (Nat.two_pow_pos (lw l)); omega
      subst this; split <;> rfl
  · cases h
theorem cancel_two {a b n : Nat} (h : a * 2 ^ n = b * 2 ^ n) : a = b := Nat.eq_of_mul_eq_mul_right (Nat.two_pow_pos _) h
/-- The neighbour on an integer's other side is not nearer. -/
theorem near_up (l : Bool) {n w a : Int} (h1 : -9223372036854775808 ≤ n) (h2 : n ≤ 9223372036854775807) (hw : Wh l (floatOfInt (fm l) n) w true) {u : Nat} (hu : pl l u = pl l (floatOfInt (fm l) n) + 1) (ha : Wh l u a true) (hlt : w < n) : n < a ∧ n - w ≤ a - n := by
  obtain ⟨r, r1, -, r3, r4⟩ := of_pl l n h1 h2
  obtain ⟨k, k1, k2, k3, k4⟩ := wh_val hw
  obtain ⟨j, j1, j2, j3, j4⟩ := wh_val ha
  rw [hu] at j1 j2 j3 j4
  rw [r4] at k1 k2 k3 k4 j1 j2 j3 j4
  have hr0 : r = 0 → rnd (fr l) n.natAbs = 0 := by
    rintro rfl
    rw [vl_zero] at r3
    rcases Nat.eq_zero_or_pos (rnd (fr l) n.natAbs) with c | c
    · exact c
    · have := Nat.mul_pos c (Nat.two_pow_pos (lw l)); omega
  by_cases c : n < 0
  · rw [if_pos c] at k1 k2 k3 k4 j1 j2 j3 j4
    rw [show (-(r : Int)).natAbs = r by omega, r3] at k1
    have ek := cancel_two k1
    have hne : rnd (fr l) n.natAbs ≠ n.natAbs := by
      intro e; by_cases z : r = 0
      · have := hr0 z; omega
      · have := k3 (by omega); omega
    obtain ⟨lo, hi, b1, b2, -, ⟨b3, b4, b5⟩ | ⟨b3, b4, b5, b6⟩⟩ := between l (by omega) hne r3
    · by_cases z : r = 0
      · have := k4 (by omega); omega
      · have := k3 (by omega); omega
    · rw [show (-(r : Int) + 1).natAbs = r - 1 by omega, b6] at j1
      have ej := cancel_two j1
      have := k3 (by omega)
      rcases Nat.lt_or_ge 1 r with z | z
      · have := j3 (by omega); omega
      · have := j4 (by omega)
        have : r - 1 = 0 := by omega
        rw [this, vl_zero] at b6
        have : lo = 0 := by
          rcases Nat.eq_zero_or_pos lo with c | c
          · exact c
          · have := Nat.mul_pos c (Nat.two_pow_pos (lw l)); omega
        omega
  · rw [if_neg c] at k1 k2 k3 k4 j1 j2 j3 j4
    rw [show (r : Int).natAbs = r by omega, r3] at k1
    have ek := cancel_two k1
    have hw' : w = k := by
      by_cases z : r = 0
      · have := k4 (by omega); have := hr0 z; omega
      · exact k2 (by omega)
    have hne : rnd (fr l) n.natAbs ≠ n.natAbs := by intro e; omega
    obtain ⟨lo, hi, b1, b2, -, ⟨b3, b4, b5⟩ | ⟨b3, b4, b5, b6⟩⟩ := between l (by omega) hne r3
    · rw [show ((r : Int) + 1).natAbs = r + 1 by omega, b5] at j1
      have ej := cancel_two j1
      have := j2 (by omega)
      omega
    · omega
theorem near_down (l : Bool) {n w a : Int} (h1 : -9223372036854775808 ≤ n) (h2 : n ≤ 9223372036854775807) (hw : Wh l (floatOfInt (fm l) n) w true) {u : Nat} (hu : pl l u = pl l (floatOfInt (fm l) n) - 1) (ha : Wh l u a true) (hlt : n < w) : a < n ∧ w - n ≤ n - a := by
  obtain ⟨r, r1, -, r3, r4⟩ := of_pl l n h1 h2
  obtain ⟨k, k1, k2, k3, k4⟩ := wh_val hw
  obtain ⟨j, j1, j2, j3, j4⟩ := wh_val ha
  rw [hu] at j1 j2 j3 j4
  rw [r4] at k1 k2 k3 k4 j1 j2 j3 j4
  have hr0 : r = 0 → rnd (fr l) n.natAbs = 0 := by
    rintro rfl
    rw [vl_zero] at r3
    rcases Nat.eq_zero_or_pos (rnd (fr l) n.natAbs) with c | c
    · exact c
    · have := Nat.mul_pos c (Nat.two_pow_pos (lw l)); omega
  by_cases c : n < 0
  · rw [if_pos c] at k1 k2 k3 k4 j1 j2 j3 j4
    rw [show (-(r : Int)).natAbs = r by omega, r3] at k1
    have ek := cancel_two k1
    have hw' : w = -(k : Int) := by
      by_cases z : r = 0
      · have := k4 (by omega); have := hr0 z; omega
      · exact k3 (by omega)
    have hne : rnd (fr l) n.natAbs ≠ n.natAbs := by intro e; omega
    obtain ⟨lo, hi, b1, b2, -, ⟨b3, b4, b5⟩ | ⟨b3, b4, b5, b6⟩⟩ := between l (by omega) hne r3
    · rw [show (-(r : Int) - 1).natAbs = r + 1 by omega, b5] at j1
      have ej := cancel_two j1
      have := j3 (by omega)
      omega
    · omega
  · rw [if_neg c] at k1 k2 k3 k4 j1 j2 j3 j4
    rw [show (r : Int).natAbs = r by omega, r3] at k1
    have ek := cancel_two k1
    have hne : rnd (fr l) n.natAbs ≠ n.natAbs := by
      intro e; by_cases z : r = 0
      · have := hr0 z; have := k4 (by omega); omega
      · have := k2 (by omega); omega
    obtain ⟨lo, hi, b1, b2, -, ⟨b3, b4, b5⟩ | ⟨b3, b4, b5, b6⟩⟩ := between l (by omega) hne r3
    · by_cases z : r = 0
      · have := k4 (by omega); have := hr0 z; omega
      · have := k2 (by omega); omega
    · rw [show ((r : Int) - 1).natAbs = r - 1 by omega, b6] at j1
      have ej := cancel_two j1
      have := k2 (by omega)
      rcases Nat.lt_or_ge 1 r with z | z
      · have := j2 (by omega); omega
      · have := j4 (by omega)
        have : r - 1 = 0 := by omega
        rw [this, vl_zero] at b6
        have : lo = 0 := by
          rcases Nat.eq_zero_or_pos lo with c | c
          · exact c
          · have := Nat.mul_pos c (Nat.two_pow_pos (lw l)); omega
        omega

end Vg

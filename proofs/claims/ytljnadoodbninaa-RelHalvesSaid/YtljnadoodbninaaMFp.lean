import Ieee.Arith
namespace Vg
open Ieee

/-- The magnitude of a rung, in units of the least place; infinity's rung goes on as if it were a number. -/
def val (f : Format) (r : Nat) : Nat := if r < f.binade then r else (f.binade + r % f.binade) * 2 ^ (r / f.binade - 1)

theorem binade_pos (f : Format) : 0 < f.binade := Nat.two_pow_pos _

theorem val_bounds (f : Format) {r : Nat} (h : f.binade ≤ r) : f.binade * 2 ^ (r / f.binade - 1) ≤ val f r ∧ val f r < f.binade * 2 ^ (r / f.binade) := by
  have hB := binade_pos f
  have hq : 1 ≤ r / f.binade := (Nat.one_le_div_iff hB).2 h
  have ht : r % f.binade < f.binade := Nat.mod_lt _ hB
  have e : 2 ^ (r / f.binade) = 2 * 2 ^ (r / f.binade - 1) := by
    obtain ⟨k, hk⟩ : ∃ k, r / f.binade = k + 1 := ⟨r / f.binade - 1, by omega⟩
    rw [hk, Nat.add_sub_cancel, Nat.pow_succ, Nat.mul_comm]
  unfold val
  rw [if_neg (by omega), e]
  have hp : 0 < 2 ^ (r / f.binade - 1) := Nat.two_pow_pos _
  constructor
  · exact Nat.mul_le_mul_right _ (by omega)
  · rw [← Nat.mul_assoc]
    exact Nat.mul_lt_mul_of_pos_right (by omega) hp

theorem val_lt (f : Format) {r s : Nat} (h : r < s) : val f r < val f s := by
  have hB := binade_pos f
  by_cases hs : s < f.binade
  · unfold val; rw [if_pos (by omega), if_pos hs]; exact h
  · have bs := val_bounds f (Nat.le_of_not_lt hs)
    by_cases hr : r < f.binade
    · have e : val f r = r := by unfold val; rw [if_pos hr]
      have : f.binade * 1 ≤ f.binade * 2 ^ (s / f.binade - 1) := Nat.mul_le_mul_left _ (Nat.two_pow_pos _)
      omega
    · have br := val_bounds f (Nat.le_of_not_lt hr)
      have hq : r / f.binade ≤ s / f.binade := Nat.div_le_div_right (by omega)
      rcases Nat.lt_or_ge (r / f.binade) (s / f.binade) with hlt | hge
      · have : f.binade * 2 ^ (r / f.binade) ≤ f.binade * 2 ^ (s / f.binade - 1) := Nat.mul_le_mul_left _ (Nat.pow_le_pow_right (by omega) (by omega))
        omega
      · have he : r / f.binade = s / f.binade := by omega
        have dr := Nat.div_add_mod r f.binade
        have ds := Nat.div_add_mod s f.binade
        rw [he] at dr
        have hm : r % f.binade < s % f.binade := by omega
        unfold val
        rw [if_neg hr, if_neg hs, he]
        exact Nat.mul_lt_mul_of_pos_right (by omega) (Nat.two_pow_pos _)

theorem val_lt_iff (f : Format) {r s : Nat} : val f r < val f s ↔ r < s := by
  constructor
  · intro h
    rcases Nat.lt_trichotomy r s with h1 | h1 | h1
    · exact h1
    · subst h1; omega
    · have := val_lt f h1; omega
  · exact val_lt f

theorem val_inj (f : Format) {r s : Nat} (h : val f r = val f s) : r = s := by
  rcases Nat.lt_trichotomy r s with h1 | h1 | h1
  · have := val_lt f h1; omega
  · exact h1
  · have := val_lt f h1; omega

theorem val_zero (f : Format) : val f 0 = 0 := by unfold val; rw [if_pos (binade_pos f)]

def neg (f : Format) (w : Nat) : Bool := w / f.signWeight % 2 == 1
def rung (f : Format) (w : Nat) : Nat := w % f.signWeight
def nan (f : Format) (w : Nat) : Bool := decide (f.infRung < rung f w)
def place (f : Format) (w : Nat) : Int := if neg f w then -(rung f w : Int) else rung f w
def sval (f : Format) (w : Nat) : Int := if neg f w then -(val f (rung f w) : Int) else val f (rung f w)

theorem compare_sval (f : Format) (x y : Nat) : compare (sval f x) (sval f y) = compare (place f x) (place f y) := by
  have key : ∀ a b c d : Int, (a < b ↔ c < d) → (a = b ↔ c = d) → compare a b = compare c d := by
    intro a b c d h1 h2
    simp only [compare, compareOfLessAndEq, h1, h2]
  have l1 := @val_lt_iff f (rung f x) (rung f y)
  have l2 := @val_lt_iff f (rung f y) (rung f x)
  have z1 := @val_lt_iff f 0 (rung f x)
  have z2 := @val_lt_iff f 0 (rung f y)
  rw [val_zero] at z1 z2
  unfold sval place
  apply key <;> (cases neg f x <;> cases neg f y <;> simp <;> omega)

/-- What a word that is no NaN and no infinity is read as: so many of the least place's units. -/
theorem read_number (f : Format) (w : Nat) (h : rung f w < f.infRung) :
    ∃ m i, f.read w = .number (neg f w) m i ∧ f.leastPlace ≤ i ∧ m * 2 ^ (i - f.leastPlace).toNat = val f (rung f w) := by
  have hB := binade_pos f
  unfold rung at h
  unfold Format.read rung neg
  by_cases h1 : w % f.signWeight < f.binade
  · refine ⟨w % f.signWeight, f.leastPlace, by simp [h1], by omega, ?_⟩
    unfold val
    rw [if_pos h1]; simp
  · refine ⟨f.binade + w % f.signWeight % f.binade, f.leastPlace + (w % f.signWeight / f.binade - 1 : Nat), by simp [h1, h], by omega, ?_⟩
    unfold val
    rw [if_neg h1, show (f.leastPlace + ((w % f.signWeight / f.binade - 1 : Nat) : Int) - f.leastPlace).toNat = w % f.signWeight / f.binade - 1 from by omega]

theorem binade_le_inf (f : Format) (he : 0 < f.exponentBits) : f.binade ≤ f.infRung := by
  unfold Format.infRung
  have : 2 ^ 1 ≤ 2 ^ f.exponentBits := Nat.pow_le_pow_right (by omega) he
  have h2 : 1 ≤ 2 ^ f.exponentBits - 1 := by omega
  have := Nat.mul_le_mul_right f.binade h2
  omega

theorem read_inf (f : Format) (w : Nat) (he : 0 < f.exponentBits) (h : rung f w = f.infRung) : f.read w = .infinity (neg f w) := by
  have hB := binade_le_inf f he
  unfold rung at h
  unfold Format.read neg
  simp only [h]
  rw [if_neg (by omega), if_neg (by omega)]
  simp

theorem read_nan (f : Format) (w : Nat) (he : 0 < f.exponentBits) (h : f.infRung < rung f w) : f.read w = .nan (neg f w) (rung f w - f.infRung) := by
  have hB := binade_le_inf f he
  unfold rung at h
  unfold Format.read neg rung
  simp only
  rw [if_neg (by omega), if_neg (by omega), if_neg (by omega)]

theorem signed_eq (s : Bool) (m k : Nat) : signed s m k = if s then -((m * 2 ^ k : Nat) : Int) else ((m * 2 ^ k : Nat) : Int) := by
  unfold signed; rw [Nat.shiftLeft_eq]

theorem order_eq (f : Format) (he : 0 < f.exponentBits) (x y : Nat) :
    f.order x y = if nan f x || nan f y then none else some (compare (place f x) (place f y)) := by
  rw [← compare_sval]
  unfold Format.order nan
  rcases Nat.lt_trichotomy (rung f x) f.infRung with hx | hx | hx
  · obtain ⟨m, i, rx, li, mi⟩ := read_number f x hx
    rcases Nat.lt_trichotomy (rung f y) f.infRung with hy | hy | hy
    · obtain ⟨n, j, ry, lj, nj⟩ := read_number f y hy
      rw [rx, ry, if_neg (by simp; omega)]
      simp only [Datum.order]
      have key : ∀ (a b c d : Int) (k : Nat), c = a * 2 ^ k → d = b * 2 ^ k → compare a b = compare c d := by
        intro a b c d k h1 h2
        have hp : (0 : Int) < 2 ^ k := Int.pow_pos (by decide)
        simp only [compare, compareOfLessAndEq]
        have e1 : (a < b) ↔ (c < d) := by rw [h1, h2]; exact (Int.mul_lt_mul_right hp).symm
        have e2 : (a = b) ↔ (c = d) := by rw [h1, h2]; exact ⟨fun h => by rw [h], fun h => Int.eq_of_mul_eq_mul_right (by omega) h⟩
        simp only [e1, e2]
      congr 1
      refine key _ _ _ _ (min i j - f.leastPlace).toNat ?_ ?_
      · rw [signed_eq]; unfold sval; rw [← mi]
        have : (i - f.leastPlace).toNat = (i - min i j).toNat + (min i j - f.leastPlace).toNat := by omega
        rw [this, Nat.pow_add, ← Nat.mul_assoc]
        cases neg f x <;> simp [Int.neg_mul]
      · rw [signed_eq]; unfold sval; rw [← nj]
        have : (j - f.leastPlace).toNat = (j - min i j).toNat + (min i j - f.leastPlace).toNat := by omega
        rw [this, Nat.pow_add, ← Nat.mul_assoc]
        cases neg f y <;> simp [Int.neg_mul]
    · rw [rx, read_inf f y he hy, if_neg (by simp; omega)]
      have := val_lt f (show rung f x < rung f y by omega)
      simp only [Datum.order]
      congr 1
      unfold sval
      simp only [compare, compareOfLessAndEq]
      cases neg f x <;> cases neg f y <;> simp <;> (repeat (first | omega | split)) <;> simp_all <;> omega
    · rw [rx, read_nan f y he hy, if_pos (by simp; omega)]
      simp only [Datum.order]
  · rw [read_inf f x he hx]
    rcases Nat.lt_trichotomy (rung f y) f.infRung with hy | hy | hy
    · obtain ⟨n, j, ry, lj, nj⟩ := read_number f y hy
      rw [ry, if_neg (by simp; omega)]
      have := val_lt f (show rung f y < rung f x by omega)
      simp only [Datum.order]
      congr 1
      unfold sval
      simp only [compare, compareOfLessAndEq]
      cases neg f x <;> cases neg f y <;> simp <;> (repeat (first | omega | split)) <;> simp_all <;> omega
    · rw [read_inf f y he hy, if_neg (by simp; omega)]
      have h0 := val_lt f (show 0 < rung f x by have := binade_le_inf f he; have := binade_pos f; omega)
      have hxy : rung f x = rung f y := by omega
      rw [val_zero] at h0
      simp only [Datum.order]
      congr 1
      unfold sval
      rw [← hxy]
      simp only [compare, compareOfLessAndEq]
      cases neg f x <;> cases neg f y <;> simp <;> (repeat (first | omega | split)) <;> simp_all <;> omega
    · rw [read_nan f y he hy, if_pos (by simp; omega)]
      simp only [Datum.order]
  · rw [read_nan f x he hx, if_pos (by simp; omega)]
    cases f.read y <;> simp only [Datum.order]

end Vg

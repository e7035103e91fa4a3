/- Contracts of Place: the program's and the reference's. -/
import Derived.Test.YtgbjckokhonkgaaDoorWPlain
import Derived.Test.YtgbjckokhonkgaaDoorMBit
namespace Go.Proofs.YtgbjckokhonkgaaDoor
open Go.RowKit

/-- What Place tells of a pattern. -/
def IsPl64 (b : Nat) (p : Int) (o : Bool) : Prop := o = !Vg.nn true b ∧ p = if Vg.nn true b then 0 else Vg.pl true b
theorem IsPl64.same {b : Nat} {p q : Int} {o u : Bool} (h : IsPl64 b p o) (k : IsPl64 b q u) : p = q ∧ o = u := ⟨h.2.trans k.2.symm, h.1.trans k.1.symm⟩

theorem IsPl64.of {b : Nat} {k : Int} {s : Bool} {g x : Int} (h : Num64 b k s g x) (hb : b ≤ 18446744073709551615) :
    k = 2 ∧ IsPl64 b 0 false ∨ k = 1 ∧ IsPl64 b (if s then -9218868437227405312 else 9218868437227405312) true ∨
    k = 0 ∧ 0 ≤ g ∧ g < 2 * 4503599627370496 ∧ -1074 ≤ x ∧ x ≤ 971 ∧ IsPl64 b (if s then -(g + (x - (-1074)) * 4503599627370496) else g + (x - (-1074)) * 4503599627370496) true := by
  obtain ⟨h1, h2, h3, h4⟩ := h
  obtain ⟨hr, -⟩ := sign64 b hb
  subst h1 h2 h3 h4
  unfold IsPl64 kd64 sg64 ex64 Vg.pl
  simp only [Vg.nn, Vg.INF, if_true, decide_eq_true_eq]
  generalize Vg.rg true b = r at *
  generalize hq : (r : Int) / 4503599627370496 = q
  generalize ht : (r : Int) % 4503599627370496 = t
  have h0 : (r : Int) = 4503599627370496 * q + t := by omega
  have t0 : 0 ≤ t ∧ t < 4503599627370496 := by omega
  clear hq ht
  cases Vg.ng true b
  all_goals
    by_cases c1 : q = 2047
    · by_cases c2 : t = 0
      · right; left
        have d1 : ¬ 9218868437227405312 < r := by omega
        simp only [if_pos c1, if_pos c2, if_neg d1, if_true, Bool.false_eq_true, if_false, decide_eq_false d1, Bool.not_false, true_and]
        omega
      · left
        have d1 : 9218868437227405312 < r := by omega
        simp only [if_pos c1, if_neg c2, if_pos d1, decide_eq_true d1, Bool.not_true, true_and]
    · have d1 : ¬ 9218868437227405312 < r := by omega
      right; right
      simp only [if_neg c1, if_neg d1, if_true, Bool.false_eq_true, if_false, decide_eq_false d1, Bool.not_false, true_and]
      by_cases c4 : 0 < q
      · simp only [if_pos c4]; omega
      · simp only [if_neg c4]; omega

/-- What Place tells of a pattern. -/
def IsPl32 (b : Nat) (p : Int) (o : Bool) : Prop := o = !Vg.nn false b ∧ p = if Vg.nn false b then 0 else Vg.pl false b
theorem IsPl32.same {b : Nat} {p q : Int} {o u : Bool} (h : IsPl32 b p o) (k : IsPl32 b q u) : p = q ∧ o = u := ⟨h.2.trans k.2.symm, h.1.trans k.1.symm⟩

theorem IsPl32.of {b : Nat} {k : Int} {s : Bool} {g x : Int} (h : Num32 b k s g x) (hb : b ≤ 4294967295) :
    k = 2 ∧ IsPl32 b 0 false ∨ k = 1 ∧ IsPl32 b (if s then -2139095040 else 2139095040) true ∨
    k = 0 ∧ 0 ≤ g ∧ g < 2 * 8388608 ∧ -149 ≤ x ∧ x ≤ 104 ∧ IsPl32 b (if s then -(g + (x - (-149)) * 8388608) else g + (x - (-149)) * 8388608) true := by
  obtain ⟨h1, h2, h3, h4⟩ := h
  obtain ⟨hr, -⟩ := sign32 b hb
  subst h1 h2 h3 h4
  unfold IsPl32 kd32 sg32 ex32 Vg.pl
  simp only [Vg.nn, Vg.INF, Bool.false_eq_true, if_false, decide_eq_true_eq]
  generalize Vg.rg false b = r at *
  generalize hq : (r : Int) / 8388608 = q
  generalize ht : (r : Int) % 8388608 = t
  have h0 : (r : Int) = 8388608 * q + t := by omega
  have t0 : 0 ≤ t ∧ t < 8388608 := by omega
  clear hq ht
  cases Vg.ng false b
  all_goals
    by_cases c1 : q = 255
    · by_cases c2 : t = 0
      · right; left
        have d1 : ¬ 2139095040 < r := by omega
        simp only [if_pos c1, if_pos c2, if_neg d1, if_true, Bool.false_eq_true, if_false, decide_eq_false d1, Bool.not_false, true_and]
        omega
      · left
        have d1 : 2139095040 < r := by omega
        simp only [if_pos c1, if_neg c2, if_pos d1, decide_eq_true d1, Bool.not_true, true_and]
    · have d1 : ¬ 2139095040 < r := by omega
      right; right
      simp only [if_neg c1, if_neg d1, if_true, Bool.false_eq_true, if_false, decide_eq_false d1, Bool.not_false, true_and]
      by_cases c4 : 0 < q
      · simp only [if_pos c4]; omega
      · simp only [if_neg c4]; omega

set_option maxHeartbeats 1000000 in
theorem place64 (b : Nat) (hb : b ≤ 18446744073709551615) (w : World) : Calls Tryd.prog 12 #[.float .f64 b] w fun e w' => ∃ p o, e = .returned (.tuple #[.int .i64 p, .bool o]) ∧ IsPl64 b p o ∧ Below w.heap.size w w' := by
  have h1 := self_ne64 b hb
  by_cases hn : Vg.nn true b = true
  · rw [hn] at h1
    have HN := hide hn
    clear hn
    go_enter Tryd.func12, Tryd.ntmps12
    go_wp2
    go_ret2
    exact ⟨_, _, rfl, ⟨by rw [HN.out]; rfl, by rw [HN.out]; rfl⟩, Below.refl _ _⟩
  · have hn' : Vg.nn true b = false := by simpa using hn
    rw [hn'] at h1
    have hr : Vg.rg true b ≤ 9218868437227405312 := by
      simp only [Vg.nn, Vg.INF, if_true, decide_eq_true_eq] at hn
      omega
    have e1 := Vg.andNot64 b hb
    have e2 := Vg.andSign64 b hb
    have HP : Hid (IsPl64 b (if Vg.ng true b = true then -(Vg.rg true b : Int) else Vg.rg true b) true) := ⟨by rw [hn']; rfl, by rw [hn']; rfl⟩
    clear hn hn'
    generalize Vg.rg true b = r at *
    generalize Vg.ng true b = s at *
    cases s
    all_goals
      go_enter Tryd.func12, Tryd.ntmps12
      go_wp2_with (first | (go_at_call 22; refine (format64 _).mono ?_; rintro e w' ⟨rfl, hb1⟩) | (go_at_call 23; refine (pattern64 _ hb _).mono ?_; rintro e w' ⟨rfl, rfl⟩))
      go_ret2
      exact ⟨_, _, rfl, HP.out, hb1.alloc hb1.size _⟩

set_option maxHeartbeats 1000000 in
theorem place32 (b : Nat) (hb : b ≤ 4294967295) (w : World) : Calls Tryd.prog 30 #[.float .f32 b] w fun e w' => ∃ p o, e = .returned (.tuple #[.int .i64 p, .bool o]) ∧ IsPl32 b p o ∧ Below w.heap.size w w' := by
  have h1 := self_ne32 b hb
  by_cases hn : Vg.nn false b = true
  · rw [hn] at h1
    have HN := hide hn
    clear hn
    go_enter Tryd.func30, Tryd.ntmps30
    go_wp2
    go_ret2
    exact ⟨_, _, rfl, ⟨by rw [HN.out]; rfl, by rw [HN.out]; rfl⟩, Below.refl _ _⟩
  · have hn' : Vg.nn false b = false := by simpa using hn
    rw [hn'] at h1
    have hr : Vg.rg false b ≤ 2139095040 := by
      simp only [Vg.nn, Vg.INF, Bool.false_eq_true, if_false, decide_eq_true_eq] at hn
      omega
    have e1 := Vg.andNot32 b hb
    have e2 := Vg.andSign32 b hb
    have HP : Hid (IsPl32 b (if Vg.ng false b = true then -(Vg.rg false b : Int) else Vg.rg false b) true) := ⟨by rw [hn']; rfl, by rw [hn']; rfl⟩
    clear hn hn'
    generalize Vg.rg false b = r at *
    generalize Vg.ng false b = s at *
    cases s
    all_goals
      go_enter Tryd.func30, Tryd.ntmps30
      go_wp2_with (first | (go_at_call 24; refine (format32 _).mono ?_; rintro e w' ⟨rfl, hb1⟩) | (go_at_call 25; refine (pattern32 _ hb _).mono ?_; rintro e w' ⟨rfl, rfl⟩))
      go_ret2
      exact ⟨_, _, rfl, HP.out, hb1.alloc hb1.size _⟩

end Go.Proofs.YtgbjckokhonkgaaDoor

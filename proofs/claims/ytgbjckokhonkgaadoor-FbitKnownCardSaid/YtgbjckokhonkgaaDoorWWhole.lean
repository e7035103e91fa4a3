/- Contracts of Whole: the program's and the reference's. -/
import Derived.Test.YtgbjckokhonkgaaDoorWSplit
import Derived.Test.YtgbjckokhonkgaaDoorMWholeR
namespace Go.Proofs.YtgbjckokhonkgaaDoor
open Go.RowKit

/-- The ways of the program's Whole. -/
theorem wh_ways64 (b : Nat) (hb : b ≤ 18446744073709551615) :
    Vg.Wh true b 0 false ∧ (FloatKind.f64.format.order b 14114281232179134464 = none ∨ FloatKind.f64.format.order b 14114281232179134464 = some .lt) ∨
    (FloatKind.f64.format.order b 14114281232179134464 = some .gt ∨ FloatKind.f64.format.order b 14114281232179134464 = some .eq) ∧
     (Vg.Wh true b 0 false ∧ (FloatKind.f64.format.order b 4890909195324358656 = some .gt ∨ FloatKind.f64.format.order b 4890909195324358656 = some .eq) ∨
      FloatKind.f64.format.order b 4890909195324358656 = some .lt ∧ ∃ (n : Int) (m : Nat), floatToIntVal .f64 b .i64 = some n ∧ (-9223372036854775808 ≤ n ∧ n ≤ 9223372036854775807) ∧ floatOfInt .f64 n = m ∧
       (Vg.Wh true b n true ∧ FloatKind.f64.format.order m b = some .eq ∨ Vg.Wh true b 0 false ∧ (FloatKind.f64.format.order m b == some .eq) = false)) := by
  have hb' : b < 2 * Vg.S true := by simp only [Vg.S, if_true]; omega
  have e1 := Vg.order_fm true b 14114281232179134464 hb' (by decide)
  have e2 := Vg.order_fm true b 4890909195324358656 hb' (by decide)
  change FloatKind.f64.format.order b 14114281232179134464 = _ at e1
  change FloatKind.f64.format.order b 4890909195324358656 = _ at e2
  rw [show Vg.nn true 14114281232179134464 = false by decide, show Vg.pl true 14114281232179134464 = -(Vg.R63 true : Int) by decide, Bool.or_false] at e1
  rw [show Vg.nn true 4890909195324358656 = false by decide, show Vg.pl true 4890909195324358656 = (Vg.R63 true : Int) by decide, Bool.or_false] at e2
  have h63 := Vg.R63_lt true
  cases hn : Vg.nn true b
  · rw [hn] at e1 e2
    simp only [Bool.false_eq_true, if_false] at e1 e2
    rcases Int.lt_trichotomy (Vg.pl true b) (-(Vg.R63 true : Int)) with c | c | c
    · left
      refine ⟨Vg.wh_out true b (.inl ?_), .inr (by rw [e1, Int.compare_eq_lt.2 c])⟩
      unfold Vg.pl at c; split at c <;> omega
    all_goals
      right
      refine ⟨by first | exact .inl (by rw [e1, Int.compare_eq_gt.2 c]) | exact .inr (by rw [e1, Int.compare_eq_eq.2 c]), ?_⟩
      rcases Int.lt_trichotomy (Vg.pl true b) (Vg.R63 true : Int) with d | d | d
      · right
        have hr : Vg.rg true b ≤ Vg.R63 true := by unfold Vg.pl at c d; cases hg : Vg.ng true b <;> rw [hg] at c d <;> simp only [if_true, Bool.false_eq_true, if_false] at c d <;> omega
        have hp : Vg.ng true b = false → Vg.rg true b < Vg.R63 true := by intro h; unfold Vg.pl at d; rw [h] at d; simp only [Bool.false_eq_true, if_false] at d; omega
        obtain ⟨k1, k2, k3⟩ := Vg.cut_int true b hb' hr hp
        obtain ⟨r, r1, r2, -⟩ := Vg.of_int true _ k2 k3
        have hi := Vg.INF_lt true
        refine ⟨by rw [e2, Int.compare_eq_lt.2 d], Vg.cutv true b, _, k1, ⟨k2, k3⟩, rfl, ?_⟩
        have e3 := Vg.order_fm true (floatOfInt (Vg.fm true) (Vg.cutv true b)) b (by rw [r2]; split <;> omega) hb'
        change FloatKind.f64.format.order (floatOfInt .f64 (Vg.cutv true b)) b = _ at e3
        have hm : Vg.nn true (floatOfInt (Vg.fm true) (Vg.cutv true b)) = false := by unfold Vg.nn; rw [r2, Vg.rg_word true r _ r1]; exact decide_eq_false (by omega)
        rw [hm, hn] at e3
        simp only [Bool.or_false, Bool.false_eq_true, if_false] at e3
        by_cases hc : Vg.pl true (floatOfInt (Vg.fm true) (Vg.cutv true b)) = Vg.pl true b
        · left; exact ⟨Vg.wh_yes true b hb' hr hp hc, by rw [e3, Int.compare_eq_eq.2 hc]⟩
        · right; refine ⟨Vg.wh_no true b hb' hr hp hc, ?_⟩
          rw [e3, beq_eq_false_iff_ne]
          intro h
          exact hc (Int.compare_eq_eq.1 (Option.some.inj h))
      · left
        refine ⟨Vg.wh_out true b (.inr ?_), .inr (by rw [e2, Int.compare_eq_eq.2 d])⟩
        unfold Vg.pl at d; split at d
        · have : 0 < Vg.R63 true := by decide
          omega
        · rename_i h; exact ⟨by simpa using h, by omega⟩
      · left
        refine ⟨Vg.wh_out true b (.inr ?_), .inl (by rw [e2, Int.compare_eq_gt.2 d])⟩
        unfold Vg.pl at d; split at d
        · omega
        · rename_i h; exact ⟨by simpa using h, by omega⟩
  · rw [hn] at e1
    left
    have hi : Vg.INF true < Vg.rg true b := by unfold Vg.nn at hn; exact of_decide_eq_true hn
    exact ⟨Vg.wh_out true b (.inl (by omega)), .inl (by rw [e1]; rfl)⟩

/-- The ways of the program's Whole. -/
theorem wh_ways32 (b : Nat) (hb : b ≤ 4294967295) :
    Vg.Wh false b 0 false ∧ (FloatKind.f32.format.order b 3741319168 = none ∨ FloatKind.f32.format.order b 3741319168 = some .lt) ∨
    (FloatKind.f32.format.order b 3741319168 = some .gt ∨ FloatKind.f32.format.order b 3741319168 = some .eq) ∧
     (Vg.Wh false b 0 false ∧ (FloatKind.f32.format.order b 1593835520 = some .gt ∨ FloatKind.f32.format.order b 1593835520 = some .eq) ∨
      FloatKind.f32.format.order b 1593835520 = some .lt ∧ ∃ (n : Int) (m : Nat), floatToIntVal .f32 b .i64 = some n ∧ (-9223372036854775808 ≤ n ∧ n ≤ 9223372036854775807) ∧ floatOfInt .f32 n = m ∧
       (Vg.Wh false b n true ∧ FloatKind.f32.format.order m b = some .eq ∨ Vg.Wh false b 0 false ∧ (FloatKind.f32.format.order m b == some .eq) = false)) := by
  have hb' : b < 2 * Vg.S false := by simp only [Vg.S, Bool.false_eq_true, if_false]; omega
  have e1 := Vg.order_fm false b 3741319168 hb' (by decide)
  have e2 := Vg.order_fm false b 1593835520 hb' (by decide)
  change FloatKind.f32.format.order b 3741319168 = _ at e1
  change FloatKind.f32.format.order b 1593835520 = _ at e2
  rw [show Vg.nn false 3741319168 = false by decide, show Vg.pl false 3741319168 = -(Vg.R63 false : Int) by decide, Bool.or_false] at e1
  rw [show Vg.nn false 1593835520 = false by decide, show Vg.pl false 1593835520 = (Vg.R63 false : Int) by decide, Bool.or_false] at e2
  have h63 := Vg.R63_lt false
  cases hn : Vg.nn false b
  · rw [hn] at e1 e2
    simp only [Bool.false_eq_true, if_false] at e1 e2
    rcases Int.lt_trichotomy (Vg.pl false b) (-(Vg.R63 false : Int)) with c | c | c
    · left
      refine ⟨Vg.wh_out false b (.inl ?_), .inr (by rw [e1, Int.compare_eq_lt.2 c])⟩
      unfold Vg.pl at c; split at c <;> omega
    all_goals
      right
      refine ⟨by first | exact .inl (by rw [e1, Int.compare_eq_gt.2 c]) | exact .inr (by rw [e1, Int.compare_eq_eq.2 c]), ?_⟩
      rcases Int.lt_trichotomy (Vg.pl false b) (Vg.R63 false : Int) with d | d | d
      · right
        have hr : Vg.rg false b ≤ Vg.R63 false := by unfold Vg.pl at c d; cases hg : Vg.ng false b <;> rw [hg] at c d <;> simp only [if_true, Bool.false_eq_true, if_false] at c d <;> omega
        have hp : Vg.ng false b = false → Vg.rg false b < Vg.R63 false := by intro h; unfold Vg.pl at d; rw [h] at d; simp only [Bool.false_eq_true, if_false] at d; omega
        obtain ⟨k1, k2, k3⟩ := Vg.cut_int false b hb' hr hp
        obtain ⟨r, r1, r2, -⟩ := Vg.of_int false _ k2 k3
        have hi := Vg.INF_lt false
        refine ⟨by rw [e2, Int.compare_eq_lt.2 d], Vg.cutv false b, _, k1, ⟨k2, k3⟩, rfl, ?_⟩
        have e3 := Vg.order_fm false (floatOfInt (Vg.fm false) (Vg.cutv false b)) b (by rw [r2]; split <;> omega) hb'
        change FloatKind.f32.format.order (floatOfInt .f32 (Vg.cutv false b)) b = _ at e3
        have hm : Vg.nn false (floatOfInt (Vg.fm false) (Vg.cutv false b)) = false := by unfold Vg.nn; rw [r2, Vg.rg_word false r _ r1]; exact decide_eq_false (by omega)
        rw [hm, hn] at e3
        simp only [Bool.or_false, Bool.false_eq_true, if_false] at e3
        by_cases hc : Vg.pl false (floatOfInt (Vg.fm false) (Vg.cutv false b)) = Vg.pl false b
        · left; exact ⟨Vg.wh_yes false b hb' hr hp hc, by rw [e3, Int.compare_eq_eq.2 hc]⟩
        · right; refine ⟨Vg.wh_no false b hb' hr hp hc, ?_⟩
          rw [e3, beq_eq_false_iff_ne]
          intro h
          exact hc (Int.compare_eq_eq.1 (Option.some.inj h))
      · left
        refine ⟨Vg.wh_out false b (.inr ?_), .inr (by rw [e2, Int.compare_eq_eq.2 d])⟩
        unfold Vg.pl at d; split at d
        · have : 0 < Vg.R63 false := by decide
          omega
        · rename_i h; exact ⟨by simpa using h, by omega⟩
      · left
        refine ⟨Vg.wh_out false b (.inr ?_), .inl (by rw [e2, Int.compare_eq_gt.2 d])⟩
        unfold Vg.pl at d; split at d
        · omega
        · rename_i h; exact ⟨by simpa using h, by omega⟩
  · rw [hn] at e1
    left
    have hi : Vg.INF false < Vg.rg false b := by unfold Vg.nn at hn; exact of_decide_eq_true hn
    exact ⟨Vg.wh_out false b (.inl (by omega)), .inl (by rw [e1]; rfl)⟩

set_option maxHeartbeats 2000000 in
theorem whole64 (b : Nat) (hb : b ≤ 18446744073709551615) (w : World) : Calls Tryd.prog 17 #[.float .f64 b] w (Told2 (Vg.Wh true b) w) := by
  rcases wh_ways64 b hb with ⟨hr, h1⟩ | ⟨h1, ⟨hr, h2⟩ | ⟨h2, n, m, h3, ⟨n0, n1⟩, h4, h5⟩⟩
  · have HR := hide hr
    clear hr hb
    rcases h1 with h1 | h1
    all_goals
      go_enter Tryd.func17, Tryd.ntmps17
      go_wp2
      go_ret2
      exact ⟨_, _, rfl, HR.out, Below.refl _ _⟩
  · have HR := hide hr
    clear hr hb
    rcases h1 with h1 | h1 <;> rcases h2 with h2 | h2
    all_goals
      go_enter Tryd.func17, Tryd.ntmps17
      go_wp2
      go_ret2
      exact ⟨_, _, rfl, HR.out, Below.refl _ _⟩
  · have c1 : ∀ w, (convert 22 2 (.float .f64 b)).run Tryd.prog w = .ok (.int .i64 n) w := fun w => run_convert_float_int w _ _ .f64 .i64 b n (by rw [Tryd.underlying22]; rfl) Tryd.underlying2 h3
    have c2 : ∀ w, (convert 2 22 (.int .i64 n)).run Tryd.prog w = .ok (.float .f64 m) w := fun w => by rw [← h4]; exact run_convert_int_float w _ _ .i64 .f64 n (by rw [Tryd.underlying2]; rfl) Tryd.underlying22
    clear h3 h4
    rcases h5 with ⟨hr, h5⟩ | ⟨hr, h5⟩
    all_goals
      have HR := hide hr
      clear hr hb
      rcases h1 with h1 | h1
      all_goals
        go_enter Tryd.func17, Tryd.ntmps17
        go_wp2
        go_ret2
        exact ⟨_, _, rfl, HR.out, Below.refl _ _⟩

set_option maxHeartbeats 2000000 in
theorem whole32 (b : Nat) (hb : b ≤ 4294967295) (w : World) : Calls Tryd.prog 33 #[.float .f32 b] w (Told2 (Vg.Wh false b) w) := by
  rcases wh_ways32 b hb with ⟨hr, h1⟩ | ⟨h1, ⟨hr, h2⟩ | ⟨h2, n, m, h3, ⟨n0, n1⟩, h4, h5⟩⟩
  · have HR := hide hr
    clear hr hb
    rcases h1 with h1 | h1
    all_goals
      go_enter Tryd.func33, Tryd.ntmps33
      go_wp2
      go_ret2
      exact ⟨_, _, rfl, HR.out, Below.refl _ _⟩
  · have HR := hide hr
    clear hr hb
    rcases h1 with h1 | h1 <;> rcases h2 with h2 | h2
    all_goals
      go_enter Tryd.func33, Tryd.ntmps33
      go_wp2
      go_ret2
      exact ⟨_, _, rfl, HR.out, Below.refl _ _⟩
  · have c1 : ∀ w, (convert 27 2 (.float .f32 b)).run Tryd.prog w = .ok (.int .i64 n) w := fun w => run_convert_float_int w _ _ .f32 .i64 b n (by rw [Tryd.underlying27]; rfl) Tryd.underlying2 h3
    have c2 : ∀ w, (convert 2 27 (.int .i64 n)).run Tryd.prog w = .ok (.float .f32 m) w := fun w => by rw [← h4]; exact run_convert_int_float w _ _ .i64 .f32 n (by rw [Tryd.underlying2]; rfl) Tryd.underlying27
    clear h3 h4
    rcases h5 with ⟨hr, h5⟩ | ⟨hr, h5⟩
    all_goals
      have HR := hide hr
      clear hr hb
      rcases h1 with h1 | h1
      all_goals
        go_enter Tryd.func33, Tryd.ntmps33
        go_wp2
        go_ret2
        exact ⟨_, _, rfl, HR.out, Below.refl _ _⟩

theorem whole_ways64 {b : Nat} {k : Int} {s : Bool} {g x : Int} (h : Num64 b k s g x) (hb : b ≤ 18446744073709551615) :
    (k == 0) = false ∧ Vg.Wh true b 0 false ∨ k = 0 ∧ g = 0 ∧ Vg.Wh true b 0 true ∨
    k = 0 ∧ ∃ m : Nat, g = m ∧ 0 < m ∧ m ≤ 2 * 4503599627370496 ∧ (-1074 ≤ x ∧ x ≤ 971) ∧ s = Vg.ng true b ∧ Vg.rg true b < Vg.INF true ∧ Vg.WI true (Vg.rg true b) m x := by
  obtain ⟨h1, h2, h3, h4⟩ := h
  obtain ⟨hr, -⟩ := sign64 b hb
  have hl := Vg.lw64
  by_cases hi : 9218868437227405312 ≤ Vg.rg true b
  · left
    refine ⟨?_, Vg.wh_wild (by simp only [Vg.INF, if_true]; omega)⟩
    rw [h1, beq_eq_false_iff_ne]
    unfold kd64
    (repeat' split) <;> omega
  · right
    have k0 : k = 0 := by rw [h1]; unfold kd64; (repeat' split) <;> omega
    have hr' : Vg.rg true b < Vg.INF true := by simp only [Vg.INF, if_true]; omega
    have hq : ¬ (Vg.rg true b : Int) / 4503599627370496 = 2047 := by omega
    have hgx : 0 < Vg.rg true b / 4503599627370496 ∧ g = (Vg.rg true b % 4503599627370496 + 4503599627370496 : Nat) ∧ x = -1074 + (Vg.rg true b / 4503599627370496 : Nat) - 1 ∨ Vg.rg true b / 4503599627370496 = 0 ∧ g = (Vg.rg true b % 4503599627370496 : Nat) ∧ x = -1074 := by
      rw [h3, h4]
      unfold sg64 ex64
      rw [if_neg hq, if_neg hq]
      by_cases c : 0 < (Vg.rg true b : Int) / 4503599627370496
      · left; rw [if_pos c, if_pos c]; omega
      · right; rw [if_neg c, if_neg c]; omega
    have hs := Vg.WI.start64 hgx
    have hgb : 0 ≤ g ∧ g ≤ 2 * 4503599627370496 ∧ -1074 ≤ x ∧ x ≤ 971 := by omega
    clear h3 h4
    obtain ⟨m, rfl⟩ := Int.eq_ofNat_of_zero_le hgb.1
    rw [Int.toNat_natCast] at hs
    by_cases hm : m = 0
    · left
      subst hm
      refine ⟨k0, rfl, ?_⟩
      have h0 : Vg.vl true (Vg.rg true b) = 0 * 2 ^ Vg.lw true := by rw [← hs.2]; simp
      have := Vg.wh_fin (s := 0) hr' h0 (by split <;> omega) (by split <;> omega)
      have e : (if Vg.ng true b then -((0 : Nat) : Int) else ((0 : Nat) : Int)) = 0 := by split <;> rfl
      rwa [e] at this
    · right
      exact ⟨k0, m, rfl, by omega, by omega, hgb.2.2, h2, hr', hs⟩

theorem whole_ways32 {b : Nat} {k : Int} {s : Bool} {g x : Int} (h : Num32 b k s g x) (hb : b ≤ 4294967295) :
    (k == 0) = false ∧ Vg.Wh false b 0 false ∨ k = 0 ∧ g = 0 ∧ Vg.Wh false b 0 true ∨
    k = 0 ∧ ∃ m : Nat, g = m ∧ 0 < m ∧ m ≤ 2 * 8388608 ∧ (-149 ≤ x ∧ x ≤ 104) ∧ s = Vg.ng false b ∧ Vg.rg false b < Vg.INF false ∧ Vg.WI false (Vg.rg false b) m x := by
  obtain ⟨h1, h2, h3, h4⟩ := h
  obtain ⟨hr, -⟩ := sign32 b hb
  have hl := Vg.lw32
  by_cases hi : 2139095040 ≤ Vg.rg false b
  · left
    refine ⟨?_, Vg.wh_wild (by simp only [Vg.INF, Bool.false_eq_true, if_false]; omega)⟩
    rw [h1, beq_eq_false_iff_ne]
    unfold kd32
    (repeat' split) <;> omega
  · right
    have k0 : k = 0 := by rw [h1]; unfold kd32; (repeat' split) <;> omega
    have hr' : Vg.rg false b < Vg.INF false := by simp only [Vg.INF, Bool.false_eq_true, if_false]; omega
    have hq : ¬ (Vg.rg false b : Int) / 8388608 = 255 := by omega
    have hgx : 0 < Vg.rg false b / 8388608 ∧ g = (Vg.rg false b % 8388608 + 8388608 : Nat) ∧ x = -149 + (Vg.rg false b / 8388608 : Nat) - 1 ∨ Vg.rg false b / 8388608 = 0 ∧ g = (Vg.rg false b % 8388608 : Nat) ∧ x = -149 := by
      rw [h3, h4]
      unfold sg32 ex32
      rw [if_neg hq, if_neg hq]
      by_cases c : 0 < (Vg.rg false b : Int) / 8388608
      · left; rw [if_pos c, if_pos c]; omega
      · right; rw [if_neg c, if_neg c]; omega
    have hs := Vg.WI.start32 hgx
    have hgb : 0 ≤ g ∧ g ≤ 2 * 8388608 ∧ -149 ≤ x ∧ x ≤ 104 := by omega
    clear h3 h4
    obtain ⟨m, rfl⟩ := Int.eq_ofNat_of_zero_le hgb.1
    rw [Int.toNat_natCast] at hs
    by_cases hm : m = 0
    · left
      subst hm
      refine ⟨k0, rfl, ?_⟩
      have h0 : Vg.vl false (Vg.rg false b) = 0 * 2 ^ Vg.lw false := by rw [← hs.2]; simp
      have := Vg.wh_fin (s := 0) hr' h0 (by split <;> omega) (by split <;> omega)
      have e : (if Vg.ng false b then -((0 : Nat) : Int) else ((0 : Nat) : Int)) = 0 := by split <;> rfl
      rwa [e] at this
    · right
      exact ⟨k0, m, rfl, by omega, by omega, hgb.2.2, h2, hr', hs⟩

end Go.Proofs.YtgbjckokhonkgaaDoor

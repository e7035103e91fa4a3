/- Contracts of the program's Split. -/
import Derived.Test.YtmhmphkaejnojaaDoorWHeld
import Derived.Test.YtmhmphkaejnojaaDoorWJoinBase
import Derived.Test.YtmhmphkaejnojaaDoorMSpec
namespace Go.Proofs.YtmhmphkaejnojaaDoor
open Go.RowKit


theorem ord_lt64 (a b : Nat) (ha : a ≤ 18446744073709551615) (hb : b ≤ 18446744073709551615) : (FloatKind.f64.format.order a b == some Ordering.lt) = (!Vg.nn true a && !Vg.nn true b && decide (Vg.pl true a < Vg.pl true b)) := Vg.lt_iff true a b (by simp only [Vg.S, if_true]; omega) (by simp only [Vg.S, if_true]; omega)
theorem ord_eq64 (a b : Nat) (ha : a ≤ 18446744073709551615) (hb : b ≤ 18446744073709551615) : (FloatKind.f64.format.order a b == some Ordering.eq) = (!Vg.nn true a && !Vg.nn true b && decide (Vg.pl true a = Vg.pl true b)) := Vg.eq_iff true a b (by simp only [Vg.S, if_true]; omega) (by simp only [Vg.S, if_true]; omega)

theorem ord_lt32 (a b : Nat) (ha : a ≤ 4294967295) (hb : b ≤ 4294967295) : (FloatKind.f32.format.order a b == some Ordering.lt) = (!Vg.nn false a && !Vg.nn false b && decide (Vg.pl false a < Vg.pl false b)) := Vg.lt_iff false a b (by simp only [Vg.S, Bool.false_eq_true, if_false]; omega) (by simp only [Vg.S, Bool.false_eq_true, if_false]; omega)
theorem ord_eq32 (a b : Nat) (ha : a ≤ 4294967295) (hb : b ≤ 4294967295) : (FloatKind.f32.format.order a b == some Ordering.eq) = (!Vg.nn false a && !Vg.nn false b && decide (Vg.pl false a = Vg.pl false b)) := Vg.eq_iff false a b (by simp only [Vg.S, Bool.false_eq_true, if_false]; omega) (by simp only [Vg.S, Bool.false_eq_true, if_false]; omega)
theorem results_tmp4 {fn : Func} {t u v x : Tmp} (h : fn.results = #[.tmp t, .tmp u, .tmp v, .tmp x]) (tmps : Array Value) (P : Program) (w : World) :
    (results fn tmps).run P w = .ok (.tuple #[tmps.getD t undef, tmps.getD u undef, tmps.getD v undef, tmps.getD x undef]) w := by simp [results, h]
/-- A sign, a significand, an exponent and a truth are told, and nothing that was there has changed. -/
def Told4 (R : Bool → Int → Int → Bool → Prop) (w : World) (e : Ending) (w' : World) : Prop := ∃ n s x o, e = .returned (.tuple #[.bool n, .int .u64 s, .int .i64 x, .bool o]) ∧ R n s x o ∧ Below w.heap.size w w'

/-- What Split tells. -/
def IsSp64 (b : Nat) (n : Bool) (s x : Int) (o : Bool) : Prop :=
  if 9218868437227405312 ≤ Vg.rg true b then n = false ∧ s = 0 ∧ x = 0 ∧ o = false else n = (Vg.ng true b && decide (0 < Vg.rg true b)) ∧ s = sg64 (Vg.rg true b) ∧ x = ex64 (Vg.rg true b) ∧ o = true
theorem IsSp64.same {b : Nat} {n m : Bool} {s t x y : Int} {o u : Bool} (h : IsSp64 b n s x o) (k : IsSp64 b m t y u) : n = m ∧ s = t ∧ x = y ∧ o = u := by
  unfold IsSp64 at h k
  split at h
  · rw [if_pos ‹_›] at k; obtain ⟨rfl, rfl, rfl, rfl⟩ := h; obtain ⟨rfl, rfl, rfl, rfl⟩ := k; exact ⟨rfl, rfl, rfl, rfl⟩
  · rw [if_neg ‹_›] at k; obtain ⟨rfl, rfl, rfl, rfl⟩ := h; obtain ⟨rfl, rfl, rfl, rfl⟩ := k; exact ⟨rfl, rfl, rfl, rfl⟩

theorem lt_zero64 (b : Nat) (hb : b ≤ 18446744073709551615) (h : ¬ 9218868437227405312 ≤ Vg.rg true b) : (FloatKind.f64.format.order b 0 == some Ordering.lt) = (Vg.ng true b && decide (0 < Vg.rg true b)) := by
  have hn : Vg.nn true b = false := by simp only [Vg.nn, Vg.INF, if_true]; exact decide_eq_false (by omega)
  rw [ord_lt64 b 0 hb (by decide), hn, show Vg.nn true 0 = false by decide, show Vg.pl true 0 = 0 by decide]
  unfold Vg.pl
  simp only [Bool.not_false, Bool.true_and]
  cases Vg.ng true b <;> simp <;> omega

/-- What Split tells. -/
def IsSp32 (b : Nat) (n : Bool) (s x : Int) (o : Bool) : Prop :=
  if 2139095040 ≤ Vg.rg false b then n = false ∧ s = 0 ∧ x = 0 ∧ o = false else n = (Vg.ng false b && decide (0 < Vg.rg false b)) ∧ s = sg32 (Vg.rg false b) ∧ x = ex32 (Vg.rg false b) ∧ o = true
theorem IsSp32.same {b : Nat} {n m : Bool} {s t x y : Int} {o u : Bool} (h : IsSp32 b n s x o) (k : IsSp32 b m t y u) : n = m ∧ s = t ∧ x = y ∧ o = u := by
  unfold IsSp32 at h k
  split at h
  · rw [if_pos ‹_›] at k; obtain ⟨rfl, rfl, rfl, rfl⟩ := h; obtain ⟨rfl, rfl, rfl, rfl⟩ := k; exact ⟨rfl, rfl, rfl, rfl⟩
  · rw [if_neg ‹_›] at k; obtain ⟨rfl, rfl, rfl, rfl⟩ := h; obtain ⟨rfl, rfl, rfl, rfl⟩ := k; exact ⟨rfl, rfl, rfl, rfl⟩

theorem lt_zero32 (b : Nat) (hb : b ≤ 4294967295) (h : ¬ 2139095040 ≤ Vg.rg false b) : (FloatKind.f32.format.order b 0 == some Ordering.lt) = (Vg.ng false b && decide (0 < Vg.rg false b)) := by
  have hn : Vg.nn false b = false := by simp only [Vg.nn, Vg.INF, Bool.false_eq_true, if_false]; exact decide_eq_false (by omega)
  rw [ord_lt32 b 0 hb (by decide), hn, show Vg.nn false 0 = false by decide, show Vg.pl false 0 = 0 by decide]
  unfold Vg.pl
  simp only [Bool.not_false, Bool.true_and]
  cases Vg.ng false b <;> simp <;> omega

set_option maxHeartbeats 2000000 in
theorem split64 (b : Nat) (hb : b ≤ 18446744073709551615) (w : World) : Calls Tryd.prog 40 #[.float .f64 b] w (Told4 (IsSp64 b) w) := by
  have e1 := Vg.andNot64 b hb
  by_cases hi : 9218868437227405312 ≤ Vg.rg true b
  · have HR : Hid (IsSp64 b false 0 0 false) := by unfold IsSp64; rw [if_pos hi]; exact ⟨rfl, rfl, rfl, rfl⟩
    have t1 : decide ((9218868437227405312 : Int) ≤ (Vg.rg true b : Int)) = true := decide_eq_true (by omega)
    clear hi
    generalize Vg.rg true b = r at *
    go_enter Tryd.func40, Tryd.ntmps40
    go_wp2_with (first | (go_at_call 23; refine (format64 _).mono ?_; rintro e w' ⟨rfl, hb1⟩))
    go_quiet ((go_at_call 51; exact quiet_left (pattern64 _ hb _)))
    go_wp2
    refine bodyPost_ret (results_tmp4 rfl _ _ _) rfl ?_
    exact ⟨_, _, _, _, rfl, HR.out, below_drewN (hb1.alloc hb1.size _) _⟩
  · have tl := lt_zero64 b hb hi
    have HR : Hid (IsSp64 b (Vg.ng true b && decide (0 < Vg.rg true b)) (sg64 (Vg.rg true b)) (ex64 (Vg.rg true b)) true) := by unfold IsSp64; rw [if_neg hi]; exact ⟨rfl, rfl, rfl, rfl⟩
    have t1 : decide ((9218868437227405312 : Int) ≤ (Vg.rg true b : Int)) = false := decide_eq_false (by omega)
    generalize (Vg.ng true b && decide (0 < Vg.rg true b)) = n at *
    generalize Vg.rg true b = r at *
    obtain ⟨t, ht⟩ : ∃ t, r % 4503599627370496 = t := ⟨_, rfl⟩
    obtain ⟨q, hq⟩ : ∃ q, r / 4503599627370496 = q := ⟨_, rfl⟩
    have ht1 : t < 4503599627370496 := by omega
    have hq1 : q < 2047 := by omega
    have e2 := Vg.andLow64 r (by omega)
    rw [ht] at e2
    have e3 := Vg.orFull64 t ht1
    have e4 : (r : Int) / 4503599627370496 = q := by omega
    have es : sg64 r = if 0 < q then (t : Int) + 4503599627370496 else t := by unfold sg64; (repeat' split) <;> omega
    have ee : ex64 r = if 0 < q then -1074 + (q : Int) - 1 else -1074 := by unfold ex64; (repeat' split) <;> omega
    rw [es, ee] at HR
    have r1 : r ≤ 9218868437227405312 := by omega
    clear hi ht hq es ee
    by_cases hz : 0 < q
    · have HR2 := hide (show IsSp64 b n ((t : Int) + 4503599627370496) (-1074 + ((q : Int) - 1)) true by have h := HR.out; rw [if_pos hz, if_pos hz] at h; rwa [show -1074 + ((q : Int) - 1) = -1074 + (q : Int) - 1 by omega])
      clear HR
      go_enter Tryd.func40, Tryd.ntmps40
      go_wp2_with (first | (go_at_call 23; refine (format64 _).mono ?_; rintro e w' ⟨rfl, hb1⟩))
      go_quiet ((go_at_call 51; exact quiet_left (pattern64 _ hb _)))
      go_wp2
      go_quiet (fail)
      go_wp2
      refine bodyPost_ret (results_tmp4 rfl _ _ _) rfl ?_
      exact ⟨_, _, _, _, rfl, HR2.out, below_drewN (hb1.alloc hb1.size _) _⟩
    · have HR2 := hide (show IsSp64 b n t (-1074) true by have h := HR.out; rwa [if_neg hz, if_neg hz] at h)
      have hz' : q = 0 := by omega
      subst hz'
      clear HR
      go_enter Tryd.func40, Tryd.ntmps40
      go_wp2_with (first | (go_at_call 23; refine (format64 _).mono ?_; rintro e w' ⟨rfl, hb1⟩))
      go_quiet ((go_at_call 51; exact quiet_left (pattern64 _ hb _)))
      go_wp2
      go_quiet (fail)
      go_wp2
      refine bodyPost_ret (results_tmp4 rfl _ _ _) rfl ?_
      exact ⟨_, _, _, _, rfl, HR2.out, below_drewN (hb1.alloc hb1.size _) _⟩

set_option maxHeartbeats 2000000 in
theorem splitFar (b : Nat) (hb : b ≤ 18446744073709551615) (w : World) : Calls Tryd.prog 44 #[.float .f64 b] w (Told4 (IsSp64 b) w) := by
  have e1 := Vg.andNot64 b hb
  by_cases hi : 9218868437227405312 ≤ Vg.rg true b
  · have HR : Hid (IsSp64 b false 0 0 false) := by unfold IsSp64; rw [if_pos hi]; exact ⟨rfl, rfl, rfl, rfl⟩
    have t1 : decide ((9218868437227405312 : Int) ≤ (Vg.rg true b : Int)) = true := decide_eq_true (by omega)
    clear hi
    generalize Vg.rg true b = r at *
    go_enter Tryd.func44, Tryd.ntmps44
    go_wp2_with (first | (go_at_call 27; refine (formatFar _).mono ?_; rintro e w' ⟨rfl, hb1⟩))
    go_quiet ((go_at_call 53; exact quiet_left (patternFar _ hb _)))
    go_wp2
    refine bodyPost_ret (results_tmp4 rfl _ _ _) rfl ?_
    exact ⟨_, _, _, _, rfl, HR.out, below_drewN (hb1.alloc hb1.size _) _⟩
  · have tl := lt_zero64 b hb hi
    have HR : Hid (IsSp64 b (Vg.ng true b && decide (0 < Vg.rg true b)) (sg64 (Vg.rg true b)) (ex64 (Vg.rg true b)) true) := by unfold IsSp64; rw [if_neg hi]; exact ⟨rfl, rfl, rfl, rfl⟩
    have t1 : decide ((9218868437227405312 : Int) ≤ (Vg.rg true b : Int)) = false := decide_eq_false (by omega)
    generalize (Vg.ng true b && decide (0 < Vg.rg true b)) = n at *
    generalize Vg.rg true b = r at *
    obtain ⟨t, ht⟩ : ∃ t, r % 4503599627370496 = t := ⟨_, rfl⟩
    obtain ⟨q, hq⟩ : ∃ q, r / 4503599627370496 = q := ⟨_, rfl⟩
    have ht1 : t < 4503599627370496 := by omega
    have hq1 : q < 2047 := by omega
    have e2 := Vg.andLow64 r (by omega)
    rw [ht] at e2
    have e3 := Vg.orFull64 t ht1
    have e4 : (r : Int) / 4503599627370496 = q := by omega
    have es : sg64 r = if 0 < q then (t : Int) + 4503599627370496 else t := by unfold sg64; (repeat' split) <;> omega
    have ee : ex64 r = if 0 < q then -1074 + (q : Int) - 1 else -1074 := by unfold ex64; (repeat' split) <;> omega
    rw [es, ee] at HR
    have r1 : r ≤ 9218868437227405312 := by omega
    clear hi ht hq es ee
    by_cases hz : 0 < q
    · have HR2 := hide (show IsSp64 b n ((t : Int) + 4503599627370496) (-1074 + ((q : Int) - 1)) true by have h := HR.out; rw [if_pos hz, if_pos hz] at h; rwa [show -1074 + ((q : Int) - 1) = -1074 + (q : Int) - 1 by omega])
      clear HR
      go_enter Tryd.func44, Tryd.ntmps44
      go_wp2_with (first | (go_at_call 27; refine (formatFar _).mono ?_; rintro e w' ⟨rfl, hb1⟩))
      go_quiet ((go_at_call 53; exact quiet_left (patternFar _ hb _)))
      go_wp2
      go_quiet (fail)
      go_wp2
      refine bodyPost_ret (results_tmp4 rfl _ _ _) rfl ?_
      exact ⟨_, _, _, _, rfl, HR2.out, below_drewN (hb1.alloc hb1.size _) _⟩
    · have HR2 := hide (show IsSp64 b n t (-1074) true by have h := HR.out; rwa [if_neg hz, if_neg hz] at h)
      have hz' : q = 0 := by omega
      subst hz'
      clear HR
      go_enter Tryd.func44, Tryd.ntmps44
      go_wp2_with (first | (go_at_call 27; refine (formatFar _).mono ?_; rintro e w' ⟨rfl, hb1⟩))
      go_quiet ((go_at_call 53; exact quiet_left (patternFar _ hb _)))
      go_wp2
      go_quiet (fail)
      go_wp2
      refine bodyPost_ret (results_tmp4 rfl _ _ _) rfl ?_
      exact ⟨_, _, _, _, rfl, HR2.out, below_drewN (hb1.alloc hb1.size _) _⟩

set_option maxHeartbeats 2000000 in
theorem split32 (b : Nat) (hb : b ≤ 4294967295) (w : World) : Calls Tryd.prog 42 #[.float .f32 b] w (Told4 (IsSp32 b) w) := by
  have e1 := Vg.andNot32 b hb
  by_cases hi : 2139095040 ≤ Vg.rg false b
  · have HR : Hid (IsSp32 b false 0 0 false) := by unfold IsSp32; rw [if_pos hi]; exact ⟨rfl, rfl, rfl, rfl⟩
    have t1 : decide ((2139095040 : Int) ≤ (Vg.rg false b : Int)) = true := decide_eq_true (by omega)
    clear hi
    generalize Vg.rg false b = r at *
    go_enter Tryd.func42, Tryd.ntmps42
    go_wp2_with (first | (go_at_call 35; refine (format32 _).mono ?_; rintro e w' ⟨rfl, hb1⟩))
    go_quiet ((go_at_call 52; exact quiet_left (pattern32 _ hb _)))
    go_wp2
    refine bodyPost_ret (results_tmp4 rfl _ _ _) rfl ?_
    exact ⟨_, _, _, _, rfl, HR.out, below_drewN (hb1.alloc hb1.size _) _⟩
  · have tl := lt_zero32 b hb hi
    have HR : Hid (IsSp32 b (Vg.ng false b && decide (0 < Vg.rg false b)) (sg32 (Vg.rg false b)) (ex32 (Vg.rg false b)) true) := by unfold IsSp32; rw [if_neg hi]; exact ⟨rfl, rfl, rfl, rfl⟩
    have t1 : decide ((2139095040 : Int) ≤ (Vg.rg false b : Int)) = false := decide_eq_false (by omega)
    generalize (Vg.ng false b && decide (0 < Vg.rg false b)) = n at *
    generalize Vg.rg false b = r at *
    obtain ⟨t, ht⟩ : ∃ t, r % 8388608 = t := ⟨_, rfl⟩
    obtain ⟨q, hq⟩ : ∃ q, r / 8388608 = q := ⟨_, rfl⟩
    have ht1 : t < 8388608 := by omega
    have hq1 : q < 255 := by omega
    have e2 := Vg.andLow32 r (by omega)
    rw [ht] at e2
    have e3 := Vg.orFull32 t ht1
    have e4 : (r : Int) / 8388608 = q := by omega
    have es : sg32 r = if 0 < q then (t : Int) + 8388608 else t := by unfold sg32; (repeat' split) <;> omega
    have ee : ex32 r = if 0 < q then -149 + (q : Int) - 1 else -149 := by unfold ex32; (repeat' split) <;> omega
    rw [es, ee] at HR
    have r1 : r ≤ 2139095040 := by omega
    clear hi ht hq es ee
    by_cases hz : 0 < q
    · have HR2 := hide (show IsSp32 b n ((t : Int) + 8388608) (-149 + ((q : Int) - 1)) true by have h := HR.out; rw [if_pos hz, if_pos hz] at h; rwa [show -149 + ((q : Int) - 1) = -149 + (q : Int) - 1 by omega])
      clear HR
      go_enter Tryd.func42, Tryd.ntmps42
      go_wp2_with (first | (go_at_call 35; refine (format32 _).mono ?_; rintro e w' ⟨rfl, hb1⟩))
      go_quiet ((go_at_call 52; exact quiet_left (pattern32 _ hb _)))
      go_wp2
      go_quiet (fail)
      go_wp2
      refine bodyPost_ret (results_tmp4 rfl _ _ _) rfl ?_
      exact ⟨_, _, _, _, rfl, HR2.out, below_drewN (hb1.alloc hb1.size _) _⟩
    · have HR2 := hide (show IsSp32 b n t (-149) true by have h := HR.out; rwa [if_neg hz, if_neg hz] at h)
      have hz' : q = 0 := by omega
      subst hz'
      clear HR
      go_enter Tryd.func42, Tryd.ntmps42
      go_wp2_with (first | (go_at_call 35; refine (format32 _).mono ?_; rintro e w' ⟨rfl, hb1⟩))
      go_quiet ((go_at_call 52; exact quiet_left (pattern32 _ hb _)))
      go_wp2
      go_quiet (fail)
      go_wp2
      refine bodyPost_ret (results_tmp4 rfl _ _ _) rfl ?_
      exact ⟨_, _, _, _, rfl, HR2.out, below_drewN (hb1.alloc hb1.size _) _⟩

set_option maxHeartbeats 2000000 in
theorem splitNear (b : Nat) (hb : b ≤ 4294967295) (w : World) : Calls Tryd.prog 45 #[.float .f32 b] w (Told4 (IsSp32 b) w) := by
  have e1 := Vg.andNot32 b hb
  by_cases hi : 2139095040 ≤ Vg.rg false b
  · have HR : Hid (IsSp32 b false 0 0 false) := by unfold IsSp32; rw [if_pos hi]; exact ⟨rfl, rfl, rfl, rfl⟩
    have t1 : decide ((2139095040 : Int) ≤ (Vg.rg false b : Int)) = true := decide_eq_true (by omega)
    clear hi
    generalize Vg.rg false b = r at *
    go_enter Tryd.func45, Tryd.ntmps45
    go_wp2_with (first | (go_at_call 37; refine (formatNear _).mono ?_; rintro e w' ⟨rfl, hb1⟩))
    go_quiet ((go_at_call 54; exact quiet_left (patternNear _ hb _)))
    go_wp2
    refine bodyPost_ret (results_tmp4 rfl _ _ _) rfl ?_
    exact ⟨_, _, _, _, rfl, HR.out, below_drewN (hb1.alloc hb1.size _) _⟩
  · have tl := lt_zero32 b hb hi
    have HR : Hid (IsSp32 b (Vg.ng false b && decide (0 < Vg.rg false b)) (sg32 (Vg.rg false b)) (ex32 (Vg.rg false b)) true) := by unfold IsSp32; rw [if_neg hi]; exact ⟨rfl, rfl, rfl, rfl⟩
    have t1 : decide ((2139095040 : Int) ≤ (Vg.rg false b : Int)) = false := decide_eq_false (by omega)
    generalize (Vg.ng false b && decide (0 < Vg.rg false b)) = n at *
    generalize Vg.rg false b = r at *
    obtain ⟨t, ht⟩ : ∃ t, r % 8388608 = t := ⟨_, rfl⟩
    obtain ⟨q, hq⟩ : ∃ q, r / 8388608 = q := ⟨_, rfl⟩
    have ht1 : t < 8388608 := by omega
    have hq1 : q < 255 := by omega
    have e2 := Vg.andLow32 r (by omega)
    rw [ht] at e2
    have e3 := Vg.orFull32 t ht1
    have e4 : (r : Int) / 8388608 = q := by omega
    have es : sg32 r = if 0 < q then (t : Int) + 8388608 else t := by unfold sg32; (repeat' split) <;> omega
    have ee : ex32 r = if 0 < q then -149 + (q : Int) - 1 else -149 := by unfold ex32; (repeat' split) <;> omega
    rw [es, ee] at HR
    have r1 : r ≤ 2139095040 := by omega
    clear hi ht hq es ee
    by_cases hz : 0 < q
    · have HR2 := hide (show IsSp32 b n ((t : Int) + 8388608) (-149 + ((q : Int) - 1)) true by have h := HR.out; rw [if_pos hz, if_pos hz] at h; rwa [show -149 + ((q : Int) - 1) = -149 + (q : Int) - 1 by omega])
      clear HR
      go_enter Tryd.func45, Tryd.ntmps45
      go_wp2_with (first | (go_at_call 37; refine (formatNear _).mono ?_; rintro e w' ⟨rfl, hb1⟩))
      go_quiet ((go_at_call 54; exact quiet_left (patternNear _ hb _)))
      go_wp2
      go_quiet (fail)
      go_wp2
      refine bodyPost_ret (results_tmp4 rfl _ _ _) rfl ?_
      exact ⟨_, _, _, _, rfl, HR2.out, below_drewN (hb1.alloc hb1.size _) _⟩
    · have HR2 := hide (show IsSp32 b n t (-149) true by have h := HR.out; rwa [if_neg hz, if_neg hz] at h)
      have hz' : q = 0 := by omega
      subst hz'
      clear HR
      go_enter Tryd.func45, Tryd.ntmps45
      go_wp2_with (first | (go_at_call 37; refine (formatNear _).mono ?_; rintro e w' ⟨rfl, hb1⟩))
      go_quiet ((go_at_call 54; exact quiet_left (patternNear _ hb _)))
      go_wp2
      go_quiet (fail)
      go_wp2
      refine bodyPost_ret (results_tmp4 rfl _ _ _) rfl ?_
      exact ⟨_, _, _, _, rfl, HR2.out, below_drewN (hb1.alloc hb1.size _) _⟩

end Go.Proofs.YtmhmphkaejnojaaDoor

/- Contracts of the law's own back and again. -/
import Derived.Test.YtmhmphkaejnojaaDoorWBack
namespace Go.Proofs.YtmhmphkaejnojaaDoor
open Go.RowKit
theorem not_zero_err {o : Bool} {k : Int} (h : o = true ∧ k = 0 ∨ o = false ∧ k = 1) : (o = true → k = 0) ∧ (o = false → k = 1) := by
  rcases h with ⟨rfl, rfl⟩ | ⟨rfl, rfl⟩ <;> simp

theorem add_inf64 : floatBits .add .f64 9218868437227405312 9218868437227405312 = some 9218868437227405312 := by decide +kernel
theorem add_ninf64 : floatBits .add .f64 18442240474082181120 18442240474082181120 = some 18442240474082181120 := by decide +kernel
theorem ne_inf64 : (FloatKind.f64.format.order 9218868437227405312 9218868437227405312 != some Ordering.eq) = false := by decide +kernel
theorem ne_ninf64 : (FloatKind.f64.format.order 18442240474082181120 18442240474082181120 != some Ordering.eq) = false := by decide +kernel
theorem eq_inf64 : (FloatKind.f64.format.order 9218868437227405312 9218868437227405312 == some Ordering.eq) = true := by decide +kernel
theorem eq_ninf64 : (FloatKind.f64.format.order 18442240474082181120 18442240474082181120 == some Ordering.eq) = true := by decide +kernel
theorem nz_inf64 : (FloatKind.f64.format.order 9218868437227405312 0 != some Ordering.eq) = true := by decide +kernel
theorem nz_ninf64 : (FloatKind.f64.format.order 18442240474082181120 0 != some Ordering.eq) = true := by decide +kernel
theorem z_eq64 : (FloatKind.f64.format.order 0 0 == some Ordering.eq) = true := by decide +kernel
theorem ord_ne64 (a b : Nat) (ha : a ≤ 18446744073709551615) (hb : b ≤ 18446744073709551615) : (FloatKind.f64.format.order a b != some Ordering.eq) = !(!Vg.nn true a && !Vg.nn true b && decide (Vg.pl true a = Vg.pl true b)) := Vg.ne_iff true a b (by simp only [Vg.S, if_true]; omega) (by simp only [Vg.S, if_true]; omega)
/-- What Split tells of an infinity or a NaN. -/
theorem sp_wild64 {b : Nat} {n : Bool} {s x : Int} {o : Bool} (h : IsSp64 b n s x o) (hi : 9218868437227405312 ≤ Vg.rg true b) : o = false := by
  unfold IsSp64 at h; rw [if_pos hi] at h; exact h.2.2.2
theorem sp_fin64 {b : Nat} {n : Bool} {s x : Int} {o : Bool} (h : IsSp64 b n s x o) (hi : ¬ 9218868437227405312 ≤ Vg.rg true b) : n = (Vg.ng true b && decide (0 < Vg.rg true b)) ∧ s = sg64 (Vg.rg true b) ∧ x = ex64 (Vg.rg true b) ∧ o = true := by
  unfold IsSp64 at h; rwa [if_neg hi] at h
theorem eq_zero64 (b : Nat) (hb : b ≤ 18446744073709551615) (h : ¬ 9218868437227405312 ≤ Vg.rg true b) : (FloatKind.f64.format.order b 0 == some Ordering.eq) = decide (Vg.rg true b = 0) := by
  have hn : Vg.nn true b = false := by simp only [Vg.nn, Vg.INF, if_true]; exact decide_eq_false (by omega)
  rw [ord_eq64 b 0 hb (by decide), hn, show Vg.nn true 0 = false by decide, show Vg.pl true 0 = 0 by decide]
  unfold Vg.pl
  simp only [Bool.not_false, Bool.true_and]
  cases Vg.ng true b <;> simp

theorem add_inf32 : floatBits .add .f32 2139095040 2139095040 = some 2139095040 := by decide +kernel
theorem add_ninf32 : floatBits .add .f32 4286578688 4286578688 = some 4286578688 := by decide +kernel
theorem ne_inf32 : (FloatKind.f32.format.order 2139095040 2139095040 != some Ordering.eq) = false := by decide +kernel
theorem ne_ninf32 : (FloatKind.f32.format.order 4286578688 4286578688 != some Ordering.eq) = false := by decide +kernel
theorem eq_inf32 : (FloatKind.f32.format.order 2139095040 2139095040 == some Ordering.eq) = true := by decide +kernel
theorem eq_ninf32 : (FloatKind.f32.format.order 4286578688 4286578688 == some Ordering.eq) = true := by decide +kernel
theorem nz_inf32 : (FloatKind.f32.format.order 2139095040 0 != some Ordering.eq) = true := by decide +kernel
theorem nz_ninf32 : (FloatKind.f32.format.order 4286578688 0 != some Ordering.eq) = true := by decide +kernel
theorem z_eq32 : (FloatKind.f32.format.order 0 0 == some Ordering.eq) = true := by decide +kernel
theorem ord_ne32 (a b : Nat) (ha : a ≤ 4294967295) (hb : b ≤ 4294967295) : (FloatKind.f32.format.order a b != some Ordering.eq) = !(!Vg.nn false a && !Vg.nn false b && decide (Vg.pl false a = Vg.pl false b)) := Vg.ne_iff false a b (by simp only [Vg.S, Bool.false_eq_true, if_false]; omega) (by simp only [Vg.S, Bool.false_eq_true, if_false]; omega)
/-- What Split tells of an infinity or a NaN. -/
theorem sp_wild32 {b : Nat} {n : Bool} {s x : Int} {o : Bool} (h : IsSp32 b n s x o) (hi : 2139095040 ≤ Vg.rg false b) : o = false := by
  unfold IsSp32 at h; rw [if_pos hi] at h; exact h.2.2.2
theorem sp_fin32 {b : Nat} {n : Bool} {s x : Int} {o : Bool} (h : IsSp32 b n s x o) (hi : ¬ 2139095040 ≤ Vg.rg false b) : n = (Vg.ng false b && decide (0 < Vg.rg false b)) ∧ s = sg32 (Vg.rg false b) ∧ x = ex32 (Vg.rg false b) ∧ o = true := by
  unfold IsSp32 at h; rwa [if_neg hi] at h
theorem eq_zero32 (b : Nat) (hb : b ≤ 4294967295) (h : ¬ 2139095040 ≤ Vg.rg false b) : (FloatKind.f32.format.order b 0 == some Ordering.eq) = decide (Vg.rg false b = 0) := by
  have hn : Vg.nn false b = false := by simp only [Vg.nn, Vg.INF, Bool.false_eq_true, if_false]; exact decide_eq_false (by omega)
  rw [ord_eq32 b 0 hb (by decide), hn, show Vg.nn false 0 = false by decide, show Vg.pl false 0 = 0 by decide]
  unfold Vg.pl
  simp only [Bool.not_false, Bool.true_and]
  cases Vg.ng false b <;> simp

set_option maxRecDepth 20000 in
set_option maxHeartbeats 2000000 in
theorem back64 (b : Nat) (hb : b ≤ 18446744073709551615) (w : World) (hT : Tab w) : Calls Tryd.prog 13 #[.float .f64 b] w fun e w' => e = .returned (.bool true) ∧ Below w.heap.size w w' := by
  by_cases hi : 9218868437227405312 ≤ Vg.rg true b
  · by_cases hn : Vg.nn true b = true
    · have q : (FloatKind.f64.format.order b b != some Ordering.eq) = true := (Vg.ne_self true b (by simp only [Vg.S, if_true]; omega)).trans hn
      have HI := hide hi
      clear hi hn
      go_enter Tryd.func13, Tryd.ntmps13
      go_wp2_with fail
      refine (split64 b hb _).mono ?_; rintro e w1 ⟨n, s, x, o, rfl, h, hb1⟩
      obtain rfl := sp_wild64 h HI.out
      clear h
      go_wp2
      go_ret
      exact ⟨rfl, hb1⟩
    · have hb2 : b = 9218868437227405312 ∨ b = 18442240474082181120 := by
        simp only [Vg.nn, Vg.INF, Vg.rg, Vg.S, if_true, decide_eq_true_eq] at *
        omega
      have HI := hide hi
      clear hi hn
      have h2 := fun t (w : World) => run_float_arith (P := Tryd.prog) w .add t .f64 _ _ _ add_inf64
      have h3 := fun t (w : World) => run_float_arith (P := Tryd.prog) w .add t .f64 _ _ _ add_ninf64
      have n1 := ne_inf64
      have n2 := ne_ninf64
      have n3 := eq_inf64
      have n4 := eq_ninf64
      have n5 := nz_inf64
      have n6 := nz_ninf64
      rcases hb2 with rfl | rfl
      all_goals
        go_enter Tryd.func13, Tryd.ntmps13
        go_wp2_with fail
        refine (split64 _ hb _).mono ?_; rintro e w1 ⟨n, s, x, o, rfl, h, hb1⟩
        obtain rfl := sp_wild64 h HI.out
        clear h
        go_wp2
        go_ret
        exact ⟨rfl, hb1⟩
  · have HI := hide hi
    have lt := lt_zero64 b hb hi
    have ez := eq_zero64 b hb hi
    obtain ⟨v1, v2, v3, v4, v5, v6⟩ := vr_of64 (r := Vg.rg true b) (by omega)
    go_enter Tryd.func13, Tryd.ntmps13
    clear hi
    have LT := hide lt
    have EZ := hide ez
    have V := hide (And.intro v1 (And.intro v2 (And.intro v3 (And.intro v4 (And.intro v5 v6)))))
    clear lt ez v1 v2 v3 v4 v5 v6
    go_wp2_with fail
    refine (split64 b hb _).mono ?_; rintro e w1 ⟨n, s, x, o, rfl, h, hb1⟩
    have hT1 := hT.below hb1
    obtain ⟨e1, e2, e3, rfl⟩ := sp_fin64 h HI.out
    obtain ⟨v1, v2, v3, v4, v5, v6⟩ := V.out
    rw [← e2] at v1 v2 v3 v6
    rw [← e3] at v1 v4 v5
    clear h
    obtain ⟨g, rfl⟩ := Int.eq_ofNat_of_zero_le v2
    rw [Int.toNat_natCast] at v1
    have q2 := LT.out.trans e1.symm
    have q3 := EZ.out.trans (show decide (Vg.rg true b = 0) = decide (g = 0) from by rw [decide_eq_decide]; omega)
    have q4 : ((g : Int) == 0) = decide (g = 0) := by by_cases c : g = 0 <;> simp [c]
    have v6' : g = 0 ↔ Vg.rg true b = 0 := by omega
    obtain ⟨z, hz⟩ : ∃ z, decide (g = 0) = z := ⟨_, rfl⟩
    rw [hz] at q3 q4
    have v7 : Vg.VR true (Vg.rg true b) (g * 2 ^ 1) (x - 1) := by rw [Vg.VR.shift, show x - 1 + ((1 : Nat) : Int) = x by omega]; exact v1
    have g3 : (g : Int) < 2 * 4503599627370496 := v3
    have E := hide (And.intro e1 (And.intro v1 (And.intro v7 v6')))
    clear e1 e2 e3 v1 v7 v6 v6' hz V LT EZ v3
    have X := hide (And.intro v4 v5)
    go_wp2_with fail
    refine (join64 n g x (by omega) (by omega) _ hT1).mono ?_; rintro e w2 ⟨y, o, k, rfl, hj, hk, hb2⟩
    have hT2 := hT1.below hb2
    obtain ⟨rfl, y1, y2, y3⟩ := jn_of64 hb (by have := HI.out; omega) E.out.2.1 E.out.2.2.2 (E.out.1 ▸ hj)
    obtain rfl := (not_zero_err hk).1 rfl
    have hnb : Vg.nn true b = false := by have := HI.out; simp only [Vg.nn, Vg.INF, if_true]; exact decide_eq_false (by omega)
    have q1 : (FloatKind.f64.format.order y b != some Ordering.eq) = false := by rw [ord_ne64 y b y1 hb, y2, hnb, decide_eq_true y3]; rfl
    clear hj hk y1 y2 y3
    have HN := hide hnb
    clear hnb
    have ew : IntKind.u64.wrap (2 * (g : Int)) = ((g * 2 ^ 1 : Nat) : Int) := by rw [IntKind.wrap_u64]; omega
    have hm : ((g * 2 ^ 1 : Nat) : Int) ≤ 18446744073709551615 := by omega
    obtain ⟨g2, hg2⟩ : ∃ g2, g * 2 ^ 1 = g2 := ⟨_, rfl⟩
    have hg3 : g2 = 0 ↔ g = 0 := by omega
    rw [hg2] at E hm
    have e5 : 2 * (g : Int) = (g2 : Int) := by omega
    clear ew
    have G2 := hide (And.intro hg2 hg3)
    clear hg2 hg3
    cases n
    all_goals
      cases z
      all_goals
        go_wp2_with fail
        refine (join64 _ g2 (x - 1) (by omega) (by have := X.out; omega) _ hT2).mono ?_; rintro e w3 ⟨y2, o, k, rfl, hj, hk, hb3⟩
        obtain ⟨rfl, y1, y3, y4⟩ := jn_of64 hb (by have := HI.out; omega) E.out.2.2.1 (G2.out.2.trans E.out.2.2.2) (E.out.1 ▸ hj)
        obtain rfl := (not_zero_err hk).1 rfl
        have q6 : (FloatKind.f64.format.order y2 b == some Ordering.eq) = true := by rw [ord_eq64 y2 b y1 hb, y3, HN.out, decide_eq_true y4]; rfl
        clear hj hk y1 y3 y4
        go_wp2
        go_ret
        exact ⟨rfl, bch (bch hb1 hb2) hb3⟩

set_option maxRecDepth 20000 in
set_option maxHeartbeats 2000000 in
theorem backFar (b : Nat) (hb : b ≤ 18446744073709551615) (w : World) (hT : Tab w) : Calls Tryd.prog 17 #[.float .f64 b] w fun e w' => e = .returned (.bool true) ∧ Below w.heap.size w w' := by
  by_cases hi : 9218868437227405312 ≤ Vg.rg true b
  · by_cases hn : Vg.nn true b = true
    · have q : (FloatKind.f64.format.order b b != some Ordering.eq) = true := (Vg.ne_self true b (by simp only [Vg.S, if_true]; omega)).trans hn
      have HI := hide hi
      clear hi hn
      go_enter Tryd.func17, Tryd.ntmps17
      go_wp2_with fail
      refine (splitFar b hb _).mono ?_; rintro e w1 ⟨n, s, x, o, rfl, h, hb1⟩
      obtain rfl := sp_wild64 h HI.out
      clear h
      go_wp2
      go_ret
      exact ⟨rfl, hb1⟩
    · have hb2 : b = 9218868437227405312 ∨ b = 18442240474082181120 := by
        simp only [Vg.nn, Vg.INF, Vg.rg, Vg.S, if_true, decide_eq_true_eq] at *
        omega
      have HI := hide hi
      clear hi hn
      have h2 := fun t (w : World) => run_float_arith (P := Tryd.prog) w .add t .f64 _ _ _ add_inf64
      have h3 := fun t (w : World) => run_float_arith (P := Tryd.prog) w .add t .f64 _ _ _ add_ninf64
      have n1 := ne_inf64
      have n2 := ne_ninf64
      have n3 := eq_inf64
      have n4 := eq_ninf64
      have n5 := nz_inf64
      have n6 := nz_ninf64
      rcases hb2 with rfl | rfl
      all_goals
        go_enter Tryd.func17, Tryd.ntmps17
        go_wp2_with fail
        refine (splitFar _ hb _).mono ?_; rintro e w1 ⟨n, s, x, o, rfl, h, hb1⟩
        obtain rfl := sp_wild64 h HI.out
        clear h
        go_wp2
        go_ret
        exact ⟨rfl, hb1⟩
  · have HI := hide hi
    have lt := lt_zero64 b hb hi
    have ez := eq_zero64 b hb hi
    obtain ⟨v1, v2, v3, v4, v5, v6⟩ := vr_of64 (r := Vg.rg true b) (by omega)
    go_enter Tryd.func17, Tryd.ntmps17
    clear hi
    have LT := hide lt
    have EZ := hide ez
    have V := hide (And.intro v1 (And.intro v2 (And.intro v3 (And.intro v4 (And.intro v5 v6)))))
    clear lt ez v1 v2 v3 v4 v5 v6
    go_wp2_with fail
    refine (splitFar b hb _).mono ?_; rintro e w1 ⟨n, s, x, o, rfl, h, hb1⟩
    have hT1 := hT.below hb1
    obtain ⟨e1, e2, e3, rfl⟩ := sp_fin64 h HI.out
    obtain ⟨v1, v2, v3, v4, v5, v6⟩ := V.out
    rw [← e2] at v1 v2 v3 v6
    rw [← e3] at v1 v4 v5
    clear h
    obtain ⟨g, rfl⟩ := Int.eq_ofNat_of_zero_le v2
    rw [Int.toNat_natCast] at v1
    have q2 := LT.out.trans e1.symm
    have q3 := EZ.out.trans (show decide (Vg.rg true b = 0) = decide (g = 0) from by rw [decide_eq_decide]; omega)
    have q4 : ((g : Int) == 0) = decide (g = 0) := by by_cases c : g = 0 <;> simp [c]
    have v6' : g = 0 ↔ Vg.rg true b = 0 := by omega
    obtain ⟨z, hz⟩ : ∃ z, decide (g = 0) = z := ⟨_, rfl⟩
    rw [hz] at q3 q4
    have v7 : Vg.VR true (Vg.rg true b) (g * 2 ^ 1) (x - 1) := by rw [Vg.VR.shift, show x - 1 + ((1 : Nat) : Int) = x by omega]; exact v1
    have g3 : (g : Int) < 2 * 4503599627370496 := v3
    have E := hide (And.intro e1 (And.intro v1 (And.intro v7 v6')))
    clear e1 e2 e3 v1 v7 v6 v6' hz V LT EZ v3
    have X := hide (And.intro v4 v5)
    go_wp2_with fail
    refine (joinFar n g x (by omega) (by omega) _ hT1).mono ?_; rintro e w2 ⟨y, o, k, rfl, hj, hk, hb2⟩
    have hT2 := hT1.below hb2
    obtain ⟨rfl, y1, y2, y3⟩ := jn_of64 hb (by have := HI.out; omega) E.out.2.1 E.out.2.2.2 (E.out.1 ▸ hj)
    obtain rfl := (not_zero_err hk).1 rfl
    have hnb : Vg.nn true b = false := by have := HI.out; simp only [Vg.nn, Vg.INF, if_true]; exact decide_eq_false (by omega)
    have q1 : (FloatKind.f64.format.order y b != some Ordering.eq) = false := by rw [ord_ne64 y b y1 hb, y2, hnb, decide_eq_true y3]; rfl
    clear hj hk y1 y2 y3
    have HN := hide hnb
    clear hnb
    have ew : IntKind.u64.wrap (2 * (g : Int)) = ((g * 2 ^ 1 : Nat) : Int) := by rw [IntKind.wrap_u64]; omega
    have hm : ((g * 2 ^ 1 : Nat) : Int) ≤ 18446744073709551615 := by omega
    obtain ⟨g2, hg2⟩ : ∃ g2, g * 2 ^ 1 = g2 := ⟨_, rfl⟩
    have hg3 : g2 = 0 ↔ g = 0 := by omega
    rw [hg2] at E hm
    have e5 : 2 * (g : Int) = (g2 : Int) := by omega
    clear ew
    have G2 := hide (And.intro hg2 hg3)
    clear hg2 hg3
    cases n
    all_goals
      cases z
      all_goals
        go_wp2_with fail
        refine (joinFar _ g2 (x - 1) (by omega) (by have := X.out; omega) _ hT2).mono ?_; rintro e w3 ⟨y2, o, k, rfl, hj, hk, hb3⟩
        obtain ⟨rfl, y1, y3, y4⟩ := jn_of64 hb (by have := HI.out; omega) E.out.2.2.1 (G2.out.2.trans E.out.2.2.2) (E.out.1 ▸ hj)
        obtain rfl := (not_zero_err hk).1 rfl
        have q6 : (FloatKind.f64.format.order y2 b == some Ordering.eq) = true := by rw [ord_eq64 y2 b y1 hb, y3, HN.out, decide_eq_true y4]; rfl
        clear hj hk y1 y3 y4
        go_wp2
        go_ret
        exact ⟨rfl, bch (bch hb1 hb2) hb3⟩

set_option maxRecDepth 20000 in
set_option maxHeartbeats 2000000 in
theorem back32 (b : Nat) (hb : b ≤ 4294967295) (w : World) (hT : Tab w) : Calls Tryd.prog 15 #[.float .f32 b] w fun e w' => e = .returned (.bool true) ∧ Below w.heap.size w w' := by
  by_cases hi : 2139095040 ≤ Vg.rg false b
  · by_cases hn : Vg.nn false b = true
    · have q : (FloatKind.f32.format.order b b != some Ordering.eq) = true := (Vg.ne_self false b (by simp only [Vg.S, Bool.false_eq_true, if_false]; omega)).trans hn
      have HI := hide hi
      clear hi hn
      go_enter Tryd.func15, Tryd.ntmps15
      go_wp2_with fail
      refine (split32 b hb _).mono ?_; rintro e w1 ⟨n, s, x, o, rfl, h, hb1⟩
      obtain rfl := sp_wild32 h HI.out
      clear h
      go_wp2
      go_ret
      exact ⟨rfl, hb1⟩
    · have hb2 : b = 2139095040 ∨ b = 4286578688 := by
        simp only [Vg.nn, Vg.INF, Vg.rg, Vg.S, Bool.false_eq_true, if_false, decide_eq_true_eq] at *
        omega
      have HI := hide hi
      clear hi hn
      have h2 := fun t (w : World) => run_float_arith (P := Tryd.prog) w .add t .f32 _ _ _ add_inf32
      have h3 := fun t (w : World) => run_float_arith (P := Tryd.prog) w .add t .f32 _ _ _ add_ninf32
      have n1 := ne_inf32
      have n2 := ne_ninf32
      have n3 := eq_inf32
      have n4 := eq_ninf32
      have n5 := nz_inf32
      have n6 := nz_ninf32
      rcases hb2 with rfl | rfl
      all_goals
        go_enter Tryd.func15, Tryd.ntmps15
        go_wp2_with fail
        refine (split32 _ hb _).mono ?_; rintro e w1 ⟨n, s, x, o, rfl, h, hb1⟩
        obtain rfl := sp_wild32 h HI.out
        clear h
        go_wp2
        go_ret
        exact ⟨rfl, hb1⟩
  · have HI := hide hi
    have lt := lt_zero32 b hb hi
    have ez := eq_zero32 b hb hi
    obtain ⟨v1, v2, v3, v4, v5, v6⟩ := vr_of32 (r := Vg.rg false b) (by omega)
    go_enter Tryd.func15, Tryd.ntmps15
    clear hi
    have LT := hide lt
    have EZ := hide ez
    have V := hide (And.intro v1 (And.intro v2 (And.intro v3 (And.intro v4 (And.intro v5 v6)))))
    clear lt ez v1 v2 v3 v4 v5 v6
    go_wp2_with fail
    refine (split32 b hb _).mono ?_; rintro e w1 ⟨n, s, x, o, rfl, h, hb1⟩
    have hT1 := hT.below hb1
    obtain ⟨e1, e2, e3, rfl⟩ := sp_fin32 h HI.out
    obtain ⟨v1, v2, v3, v4, v5, v6⟩ := V.out
    rw [← e2] at v1 v2 v3 v6
    rw [← e3] at v1 v4 v5
    clear h
    obtain ⟨g, rfl⟩ := Int.eq_ofNat_of_zero_le v2
    rw [Int.toNat_natCast] at v1
    have q2 := LT.out.trans e1.symm
    have q3 := EZ.out.trans (show decide (Vg.rg false b = 0) = decide (g = 0) from by rw [decide_eq_decide]; omega)
    have q4 : ((g : Int) == 0) = decide (g = 0) := by by_cases c : g = 0 <;> simp [c]
    have v6' : g = 0 ↔ Vg.rg false b = 0 := by omega
    obtain ⟨z, hz⟩ : ∃ z, decide (g = 0) = z := ⟨_, rfl⟩
    rw [hz] at q3 q4
    have v7 : Vg.VR false (Vg.rg false b) (g * 2 ^ 1) (x - 1) := by rw [Vg.VR.shift, show x - 1 + ((1 : Nat) : Int) = x by omega]; exact v1
    have g3 : (g : Int) < 2 * 8388608 := v3
    have E := hide (And.intro e1 (And.intro v1 (And.intro v7 v6')))
    clear e1 e2 e3 v1 v7 v6 v6' hz V LT EZ v3
    have X := hide (And.intro v4 v5)
    go_wp2_with fail
    refine (join32 n g x (by omega) (by omega) _ hT1).mono ?_; rintro e w2 ⟨y, o, k, rfl, hj, hk, hb2⟩
    have hT2 := hT1.below hb2
    obtain ⟨rfl, y1, y2, y3⟩ := jn_of32 hb (by have := HI.out; omega) E.out.2.1 E.out.2.2.2 (E.out.1 ▸ hj)
    obtain rfl := (not_zero_err hk).1 rfl
    have hnb : Vg.nn false b = false := by have := HI.out; simp only [Vg.nn, Vg.INF, Bool.false_eq_true, if_false]; exact decide_eq_false (by omega)
    have q1 : (FloatKind.f32.format.order y b != some Ordering.eq) = false := by rw [ord_ne32 y b y1 hb, y2, hnb, decide_eq_true y3]; rfl
    clear hj hk y1 y2 y3
    have HN := hide hnb
    clear hnb
    have ew : IntKind.u64.wrap (2 * (g : Int)) = ((g * 2 ^ 1 : Nat) : Int) := by rw [IntKind.wrap_u64]; omega
    have hm : ((g * 2 ^ 1 : Nat) : Int) ≤ 18446744073709551615 := by omega
    obtain ⟨g2, hg2⟩ : ∃ g2, g * 2 ^ 1 = g2 := ⟨_, rfl⟩
    have hg3 : g2 = 0 ↔ g = 0 := by omega
    rw [hg2] at E hm
    have e5 : 2 * (g : Int) = (g2 : Int) := by omega
    clear ew
    have G2 := hide (And.intro hg2 hg3)
    clear hg2 hg3
    cases n
    all_goals
      cases z
      all_goals
        go_wp2_with fail
        refine (join32 _ g2 (x - 1) (by omega) (by have := X.out; omega) _ hT2).mono ?_; rintro e w3 ⟨y2, o, k, rfl, hj, hk, hb3⟩
        obtain ⟨rfl, y1, y3, y4⟩ := jn_of32 hb (by have := HI.out; omega) E.out.2.2.1 (G2.out.2.trans E.out.2.2.2) (E.out.1 ▸ hj)
        obtain rfl := (not_zero_err hk).1 rfl
        have q6 : (FloatKind.f32.format.order y2 b == some Ordering.eq) = true := by rw [ord_eq32 y2 b y1 hb, y3, HN.out, decide_eq_true y4]; rfl
        clear hj hk y1 y3 y4
        go_wp2
        go_ret
        exact ⟨rfl, bch (bch hb1 hb2) hb3⟩

set_option maxRecDepth 20000 in
set_option maxHeartbeats 2000000 in
theorem backNear (b : Nat) (hb : b ≤ 4294967295) (w : World) (hT : Tab w) : Calls Tryd.prog 18 #[.float .f32 b] w fun e w' => e = .returned (.bool true) ∧ Below w.heap.size w w' := by
  by_cases hi : 2139095040 ≤ Vg.rg false b
  · by_cases hn : Vg.nn false b = true
    · have q : (FloatKind.f32.format.order b b != some Ordering.eq) = true := (Vg.ne_self false b (by simp only [Vg.S, Bool.false_eq_true, if_false]; omega)).trans hn
      have HI := hide hi
      clear hi hn
      go_enter Tryd.func18, Tryd.ntmps18
      go_wp2_with fail
      refine (splitNear b hb _).mono ?_; rintro e w1 ⟨n, s, x, o, rfl, h, hb1⟩
      obtain rfl := sp_wild32 h HI.out
      clear h
      go_wp2
      go_ret
      exact ⟨rfl, hb1⟩
    · have hb2 : b = 2139095040 ∨ b = 4286578688 := by
        simp only [Vg.nn, Vg.INF, Vg.rg, Vg.S, Bool.false_eq_true, if_false, decide_eq_true_eq] at *
        omega
      have HI := hide hi
      clear hi hn
      have h2 := fun t (w : World) => run_float_arith (P := Tryd.prog) w .add t .f32 _ _ _ add_inf32
      have h3 := fun t (w : World) => run_float_arith (P := Tryd.prog) w .add t .f32 _ _ _ add_ninf32
      have n1 := ne_inf32
      have n2 := ne_ninf32
      have n3 := eq_inf32
      have n4 := eq_ninf32
      have n5 := nz_inf32
      have n6 := nz_ninf32
      rcases hb2 with rfl | rfl
      all_goals
        go_enter Tryd.func18, Tryd.ntmps18
        go_wp2_with fail
        refine (splitNear _ hb _).mono ?_; rintro e w1 ⟨n, s, x, o, rfl, h, hb1⟩
        obtain rfl := sp_wild32 h HI.out
        clear h
        go_wp2
        go_ret
        exact ⟨rfl, hb1⟩
  · have HI := hide hi
    have lt := lt_zero32 b hb hi
    have ez := eq_zero32 b hb hi
    obtain ⟨v1, v2, v3, v4, v5, v6⟩ := vr_of32 (r := Vg.rg false b) (by omega)
    go_enter Tryd.func18, Tryd.ntmps18
    clear hi
    have LT := hide lt
    have EZ := hide ez
    have V := hide (And.intro v1 (And.intro v2 (And.intro v3 (And.intro v4 (And.intro v5 v6)))))
    clear lt ez v1 v2 v3 v4 v5 v6
    go_wp2_with fail
    refine (splitNear b hb _).mono ?_; rintro e w1 ⟨n, s, x, o, rfl, h, hb1⟩
    have hT1 := hT.below hb1
    obtain ⟨e1, e2, e3, rfl⟩ := sp_fin32 h HI.out
    obtain ⟨v1, v2, v3, v4, v5, v6⟩ := V.out
    rw [← e2] at v1 v2 v3 v6
    rw [← e3] at v1 v4 v5
    clear h
    obtain ⟨g, rfl⟩ := Int.eq_ofNat_of_zero_le v2
    rw [Int.toNat_natCast] at v1
    have q2 := LT.out.trans e1.symm
    have q3 := EZ.out.trans (show decide (Vg.rg false b = 0) = decide (g = 0) from by rw [decide_eq_decide]; omega)
    have q4 : ((g : Int) == 0) = decide (g = 0) := by by_cases c : g = 0 <;> simp [c]
    have v6' : g = 0 ↔ Vg.rg false b = 0 := by omega
    obtain ⟨z, hz⟩ : ∃ z, decide (g = 0) = z := ⟨_, rfl⟩
    rw [hz] at q3 q4
    have v7 : Vg.VR false (Vg.rg false b) (g * 2 ^ 1) (x - 1) := by rw [Vg.VR.shift, show x - 1 + ((1 : Nat) : Int) = x by omega]; exact v1
    have g3 : (g : Int) < 2 * 8388608 := v3
    have E := hide (And.intro e1 (And.intro v1 (And.intro v7 v6')))
    clear e1 e2 e3 v1 v7 v6 v6' hz V LT EZ v3
    have X := hide (And.intro v4 v5)
    go_wp2_with fail
    refine (joinNear n g x (by omega) (by omega) _ hT1).mono ?_; rintro e w2 ⟨y, o, k, rfl, hj, hk, hb2⟩
    have hT2 := hT1.below hb2
    obtain ⟨rfl, y1, y2, y3⟩ := jn_of32 hb (by have := HI.out; omega) E.out.2.1 E.out.2.2.2 (E.out.1 ▸ hj)
    obtain rfl := (not_zero_err hk).1 rfl
    have hnb : Vg.nn false b = false := by have := HI.out; simp only [Vg.nn, Vg.INF, Bool.false_eq_true, if_false]; exact decide_eq_false (by omega)
    have q1 : (FloatKind.f32.format.order y b != some Ordering.eq) = false := by rw [ord_ne32 y b y1 hb, y2, hnb, decide_eq_true y3]; rfl
    clear hj hk y1 y2 y3
    have HN := hide hnb
    clear hnb
    have ew : IntKind.u64.wrap (2 * (g : Int)) = ((g * 2 ^ 1 : Nat) : Int) := by rw [IntKind.wrap_u64]; omega
    have hm : ((g * 2 ^ 1 : Nat) : Int) ≤ 18446744073709551615 := by omega
    obtain ⟨g2, hg2⟩ : ∃ g2, g * 2 ^ 1 = g2 := ⟨_, rfl⟩
    have hg3 : g2 = 0 ↔ g = 0 := by omega
    rw [hg2] at E hm
    have e5 : 2 * (g : Int) = (g2 : Int) := by omega
    clear ew
    have G2 := hide (And.intro hg2 hg3)
    clear hg2 hg3
    cases n
    all_goals
      cases z
      all_goals
        go_wp2_with fail
        refine (joinNear _ g2 (x - 1) (by omega) (by have := X.out; omega) _ hT2).mono ?_; rintro e w3 ⟨y2, o, k, rfl, hj, hk, hb3⟩
        obtain ⟨rfl, y1, y3, y4⟩ := jn_of32 hb (by have := HI.out; omega) E.out.2.2.1 (G2.out.2.trans E.out.2.2.2) (E.out.1 ▸ hj)
        obtain rfl := (not_zero_err hk).1 rfl
        have q6 : (FloatKind.f32.format.order y2 b == some Ordering.eq) = true := by rw [ord_eq32 y2 b y1 hb, y3, HN.out, decide_eq_true y4]; rfl
        clear hj hk y1 y3 y4
        go_wp2
        go_ret
        exact ⟨rfl, bch (bch hb1 hb2) hb3⟩

end Go.Proofs.YtmhmphkaejnojaaDoor

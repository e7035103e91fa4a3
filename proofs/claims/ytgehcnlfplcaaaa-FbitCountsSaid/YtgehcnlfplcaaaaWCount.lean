/- The contract of 'counted': places rise with the numbers, At leads back, a step up is a place up. -/
import Derived.Test.YtgehcnlfplcaaaaWFollow
namespace Go.Proofs.Ytgehcnlfplcaaaa
open Go.RowKit

theorem IsPl64.cases {b : Nat} {p : Int} {o : Bool} (h : IsPl64 b p o) : Vg.nn true b = true ∧ o = false ∧ p = 0 ∨ Vg.nn true b = false ∧ o = true ∧ p = Vg.pl true b := by
  obtain ⟨h1, h2⟩ := h
  cases hn : Vg.nn true b
  · rw [hn] at h1 h2; exact .inr ⟨rfl, h1, h2⟩
  · rw [hn] at h1 h2; exact .inl ⟨rfl, h1, h2⟩
/-- At leads back from Place. -/
theorem at_back64 {b : Nat} {z : Int} {o : Bool} (hb : b ≤ 18446744073709551615) (hn : Vg.nn true b = false) (h : IsAt64 (Vg.pl true b) z o) :
    o = true ∧ z.toNat ≤ 18446744073709551615 ∧ Vg.nn true z.toNat = false ∧ (FloatKind.f64.format.order z.toNat b != some Ordering.eq) = false ∧ ∀ c, IsOr64 z.toNat (Vg.plainb true b) c → c = 0 := by
  have p := Vg.pl_bd64 b hn
  have ho : o = true := by
    rcases h with ⟨_, h2, _⟩ | ⟨h1, _, _⟩
    · exact h2
    · exact absurd p h1
  subst ho
  have e := h.atn.1
  have a := Vg.atn64 _ p
  rw [e]
  refine ⟨rfl, a.1, a.2.2, ?_, ?_⟩
  · have t := ord_eq64 (Vg.atn true (Vg.pl true b)) b a.1 hb
    rw [a.2.2, hn, a.2.1] at t
    rw [bne, t]; simp
  · intro c hc
    unfold IsOr64 or64 at hc
    subst hc
    rw [if_neg (by rw [a.2.2, Vg.nn_plain64, hn]; simp), a.2.1]
    have e2 : Vg.pl true (Vg.plainb true b) = Vg.pl true b ∧ Vg.ng true (Vg.atn true (Vg.pl true b)) = Vg.ng true (Vg.plainb true b) := by
      simp only [Vg.plainb, Vg.pl, Vg.atn, Vg.ng, Vg.rg, Vg.S, if_true, decide_eq_true_eq, decide_eq_decide]
      simp only [Vg.nn, Vg.rg, Vg.S, Vg.INF, if_true, decide_eq_false_iff_not] at hn
      constructor <;> ((repeat' split) <;> omega)
    rw [e2.1, if_neg (by omega), if_neg (by omega), if_pos e2.2]
/-- A step up is a place up. -/
theorem up_place64 {b u : Nat} {r : Int} {o : Bool} (hb : b ≤ 18446744073709551615) (hn : Vg.nn true b = false) (hu : IsUp64 b u) (h : IsPl64 u r o) :
    (FloatKind.f64.format.order u b == some Ordering.eq) = true ∧ r = Vg.pl true b ∨ (FloatKind.f64.format.order u b == some Ordering.eq) = false ∧ r = Vg.pl true b + 1 := by
  obtain ⟨u1, u2, u3⟩ := nb_up64 hu hb
  have t := ord_eq64 u b u1 hb
  rw [hn] at u2
  rw [u2, hn] at t
  simp only [Bool.not_false, Bool.true_and] at t
  have hr : r = Vg.pl true u := by have := h.2; rw [u2] at this; exact this
  rcases u3 hn with ⟨h1, h2⟩ | ⟨h1, h2⟩
  · left; rw [t, hr, h2]; exact ⟨decide_eq_true rfl, rfl⟩
  · right; rw [t, hr, h2]; exact ⟨decide_eq_false (by omega), rfl⟩

theorem IsPl32.cases {b : Nat} {p : Int} {o : Bool} (h : IsPl32 b p o) : Vg.nn false b = true ∧ o = false ∧ p = 0 ∨ Vg.nn false b = false ∧ o = true ∧ p = Vg.pl false b := by
  obtain ⟨h1, h2⟩ := h
  cases hn : Vg.nn false b
  · rw [hn] at h1 h2; exact .inr ⟨rfl, h1, h2⟩
  · rw [hn] at h1 h2; exact .inl ⟨rfl, h1, h2⟩
/-- At leads back from Place. -/
theorem at_back32 {b : Nat} {z : Int} {o : Bool} (hb : b ≤ 4294967295) (hn : Vg.nn false b = false) (h : IsAt32 (Vg.pl false b) z o) :
    o = true ∧ z.toNat ≤ 4294967295 ∧ Vg.nn false z.toNat = false ∧ (FloatKind.f32.format.order z.toNat b != some Ordering.eq) = false ∧ ∀ c, IsOr32 z.toNat (Vg.plainb false b) c → c = 0 := by
  have p := Vg.pl_bd32 b hn
  have ho : o = true := by
    rcases h with ⟨_, h2, _⟩ | ⟨h1, _, _⟩
    · exact h2
    · exact absurd p h1
  subst ho
  have e := h.atn.1
  have a := Vg.atn32 _ p
  rw [e]
  refine ⟨rfl, a.1, a.2.2, ?_, ?_⟩
  · have t := ord_eq32 (Vg.atn false (Vg.pl false b)) b a.1 hb
    rw [a.2.2, hn, a.2.1] at t
    rw [bne, t]; simp
  · intro c hc
    unfold IsOr32 or32 at hc
    subst hc
    rw [if_neg (by rw [a.2.2, Vg.nn_plain32, hn]; simp), a.2.1]
    have e2 : Vg.pl false (Vg.plainb false b) = Vg.pl false b ∧ Vg.ng false (Vg.atn false (Vg.pl false b)) = Vg.ng false (Vg.plainb false b) := by
      simp only [Vg.plainb, Vg.pl, Vg.atn, Vg.ng, Vg.rg, Vg.S, Bool.false_eq_true, if_false, decide_eq_true_eq, decide_eq_decide]
      simp only [Vg.nn, Vg.rg, Vg.S, Vg.INF, Bool.false_eq_true, if_false, decide_eq_false_iff_not] at hn
      constructor <;> ((repeat' split) <;> omega)
    rw [e2.1, if_neg (by omega), if_neg (by omega), if_pos e2.2]
/-- A step up is a place up. -/
theorem up_place32 {b u : Nat} {r : Int} {o : Bool} (hb : b ≤ 4294967295) (hn : Vg.nn false b = false) (hu : IsUp32 b u) (h : IsPl32 u r o) :
    (FloatKind.f32.format.order u b == some Ordering.eq) = true ∧ r = Vg.pl false b ∨ (FloatKind.f32.format.order u b == some Ordering.eq) = false ∧ r = Vg.pl false b + 1 := by
  obtain ⟨u1, u2, u3⟩ := nb_up32 hu hb
  have t := ord_eq32 u b u1 hb
  rw [hn] at u2
  rw [u2, hn] at t
  simp only [Bool.not_false, Bool.true_and] at t
  have hr : r = Vg.pl false u := by have := h.2; rw [u2] at this; exact this
  rcases u3 hn with ⟨h1, h2⟩ | ⟨h1, h2⟩
  · left; rw [t, hr, h2]; exact ⟨decide_eq_true rfl, rfl⟩
  · right; rw [t, hr, h2]; exact ⟨decide_eq_false (by omega), rfl⟩

set_option maxHeartbeats 8000000 in
theorem counted64 (a b : Nat) (ha : a ≤ 18446744073709551615) (hb : b ≤ 18446744073709551615) (w : World) : Calls Try.prog 89 #[.float .f64 a, .float .f64 b] w fun e w' => e = .returned (.bool true) ∧ Below w.heap.size w w' := by
  have HA := hide ha
  have HB := hide hb
  have TA := hide (self_eq64 a ha)
  have TB := hide (self_eq64 b hb)
  have HLT := hide (ord_lt64 a b ha hb)
  have HEQ := hide (ord_eq64 a b ha hb)
  clear ha hb
  go_enter Try.func89, Try.ntmps89
  go_wp2_with fail
  refine (place64 a HA.out _).mono ?_; rintro e w1 ⟨p, o, rfl, h1, hb1⟩
  go_wp2_with fail
  refine (place64 b HB.out _).mono ?_; rintro e w2 ⟨q, v, rfl, h2, hb2⟩
  have G2 := bch hb1 hb2
  have pb := h1.bd
  have qb := h2.bd
  clear hb1 hb2
  have tb := TB.out
  rcases h1.cases with ⟨na, rfl, rfl⟩ | ⟨na, rfl, ep⟩
  · have ta := TA.out
    rw [na] at ta
    clear HLT HEQ TA TB h1 na
    rcases h2.cases with ⟨nb, rfl, -⟩ | ⟨nb, rfl, -⟩
    all_goals
      rw [nb] at tb
      clear nb h2
      go_wp2
      go_ret
      exact ⟨rfl, G2⟩
  · have ta := TA.out
    rw [na] at ta
    have NA := hide na
    have EP := hide ep
    have hf : v = false ∧ (FloatKind.f64.format.order b b == some Ordering.eq) = false ∨ v = true ∧ (FloatKind.f64.format.order b b == some Ordering.eq) = true ∧
        (FloatKind.f64.format.order a b == some Ordering.lt) = decide (p < q) ∧ (FloatKind.f64.format.order a b == some Ordering.eq) = decide (p = q) := by
      rcases h2.cases with ⟨nb, rfl, -⟩ | ⟨nb, rfl, eq⟩
      · left; rw [nb] at tb; exact ⟨rfl, tb⟩
      · right; rw [nb] at tb
        have h3 := HLT.out
        have h4 := HEQ.out
        rw [na, nb] at h3 h4
        refine ⟨rfl, tb, ?_, ?_⟩
        · rw [h3, ep, eq]; rfl
        · rw [h4, ep, eq]; rfl
    clear HLT HEQ TA TB h1 h2 na ep tb
    rcases hf with ⟨rfl, tb⟩ | ⟨rfl, tb, hlt, heq⟩
    · go_wp2_with fail
      refine (at64 p (by omega) _).mono ?_; rintro e w3 ⟨z, u, rfl, h3, hb3⟩
      have h3' := h3
      rw [EP.out] at h3'
      obtain ⟨rfl, z1, -, tz, hz⟩ := at_back64 HA.out NA.out h3'
      have HZ := hide hz
      have Z1 := hide z1
      clear h3 h3' hz z1
      go_wp2_with fail
      refine (plain64 a HA.out _).mono ?_; rintro e w4 ⟨rfl, rfl⟩
      go_wp2_with fail
      refine (order64 _ _ Z1.out (Vg.plain_le64 _ HA.out) _).mono ?_; rintro e w5 ⟨c, rfl, h5, hb5⟩
      obtain rfl := HZ.out c h5
      clear h5 HZ
      go_wp2_with fail
      refine (nextup64 a HA.out _).mono ?_; rintro e w6 ⟨x, rfl, hx, hb6⟩
      have HX := hide hx
      have X1 := hide (nb_up64 hx HA.out).1
      clear hx
      go_wp2_with fail
      refine (place64 x X1.out _).mono ?_; rintro e w7 ⟨r, y, rfl, h7, hb7⟩
      have hr := up_place64 HA.out NA.out HX.out h7
      rw [← EP.out] at hr
      clear h7
      rcases hr with ⟨tx, rfl⟩ | ⟨tx, rfl⟩
      all_goals
        have tx' : (FloatKind.f64.format.order x a != some Ordering.eq) = !(FloatKind.f64.format.order x a == some Ordering.eq) := rfl
        rw [tx] at tx'
        simp only [Bool.not_true, Bool.not_false] at tx'
        go_wp2
        go_ret
        exact ⟨rfl, by repeat (first | exact G2 | assumption | refine bch ?_ (by assumption))⟩
    · rcases Int.lt_trichotomy p q with hl | hl | hl
      · rw [decide_eq_true hl] at hlt
        rw [decide_eq_false (by omega)] at heq
        have tpq : (p == q) = false := by rw [beq_eq_false_iff_ne]; omega
        go_wp2_with fail
        refine (at64 p (by omega) _).mono ?_; rintro e w3 ⟨z, u, rfl, h3, hb3⟩
        have h3' := h3
        rw [EP.out] at h3'
        obtain ⟨rfl, z1, -, tz, hz⟩ := at_back64 HA.out NA.out h3'
        have HZ := hide hz
        have Z1 := hide z1
        clear h3 h3' hz z1
        go_wp2_with fail
        refine (plain64 a HA.out _).mono ?_; rintro e w4 ⟨rfl, rfl⟩
        go_wp2_with fail
        refine (order64 _ _ Z1.out (Vg.plain_le64 _ HA.out) _).mono ?_; rintro e w5 ⟨c, rfl, h5, hb5⟩
        obtain rfl := HZ.out c h5
        clear h5 HZ
        go_wp2_with fail
        refine (nextup64 a HA.out _).mono ?_; rintro e w6 ⟨x, rfl, hx, hb6⟩
        have HX := hide hx
        have X1 := hide (nb_up64 hx HA.out).1
        clear hx
        go_wp2_with fail
        refine (place64 x X1.out _).mono ?_; rintro e w7 ⟨r, y, rfl, h7, hb7⟩
        have hr := up_place64 HA.out NA.out HX.out h7
        rw [← EP.out] at hr
        clear h7
        rcases hr with ⟨tx, rfl⟩ | ⟨tx, rfl⟩
        all_goals
          have tx' : (FloatKind.f64.format.order x a != some Ordering.eq) = !(FloatKind.f64.format.order x a == some Ordering.eq) := rfl
          rw [tx] at tx'
          simp only [Bool.not_true, Bool.not_false] at tx'
          go_wp2
          go_ret
          exact ⟨rfl, by repeat (first | exact G2 | assumption | refine bch ?_ (by assumption))⟩
      · rw [decide_eq_false (by omega)] at hlt
        rw [decide_eq_true hl] at heq
        subst hl
        go_wp2_with fail
        refine (at64 p (by omega) _).mono ?_; rintro e w3 ⟨z, u, rfl, h3, hb3⟩
        have h3' := h3
        rw [EP.out] at h3'
        obtain ⟨rfl, z1, -, tz, hz⟩ := at_back64 HA.out NA.out h3'
        have HZ := hide hz
        have Z1 := hide z1
        clear h3 h3' hz z1
        go_wp2_with fail
        refine (plain64 a HA.out _).mono ?_; rintro e w4 ⟨rfl, rfl⟩
        go_wp2_with fail
        refine (order64 _ _ Z1.out (Vg.plain_le64 _ HA.out) _).mono ?_; rintro e w5 ⟨c, rfl, h5, hb5⟩
        obtain rfl := HZ.out c h5
        clear h5 HZ
        go_wp2_with fail
        refine (nextup64 a HA.out _).mono ?_; rintro e w6 ⟨x, rfl, hx, hb6⟩
        have HX := hide hx
        have X1 := hide (nb_up64 hx HA.out).1
        clear hx
        go_wp2_with fail
        refine (place64 x X1.out _).mono ?_; rintro e w7 ⟨r, y, rfl, h7, hb7⟩
        have hr := up_place64 HA.out NA.out HX.out h7
        rw [← EP.out] at hr
        clear h7
        rcases hr with ⟨tx, rfl⟩ | ⟨tx, rfl⟩
        all_goals
          have tx' : (FloatKind.f64.format.order x a != some Ordering.eq) = !(FloatKind.f64.format.order x a == some Ordering.eq) := rfl
          rw [tx] at tx'
          simp only [Bool.not_true, Bool.not_false] at tx'
          go_wp2
          go_ret
          exact ⟨rfl, by repeat (first | exact G2 | assumption | refine bch ?_ (by assumption))⟩
      · rw [decide_eq_false (by omega)] at hlt
        rw [decide_eq_false (by omega)] at heq
        have tlt : decide (p < q) = false := decide_eq_false (by omega)
        have tpq : (p == q) = false := by rw [beq_eq_false_iff_ne]; omega
        go_wp2_with fail
        refine (at64 p (by omega) _).mono ?_; rintro e w3 ⟨z, u, rfl, h3, hb3⟩
        have h3' := h3
        rw [EP.out] at h3'
        obtain ⟨rfl, z1, -, tz, hz⟩ := at_back64 HA.out NA.out h3'
        have HZ := hide hz
        have Z1 := hide z1
        clear h3 h3' hz z1
        go_wp2_with fail
        refine (plain64 a HA.out _).mono ?_; rintro e w4 ⟨rfl, rfl⟩
        go_wp2_with fail
        refine (order64 _ _ Z1.out (Vg.plain_le64 _ HA.out) _).mono ?_; rintro e w5 ⟨c, rfl, h5, hb5⟩
        obtain rfl := HZ.out c h5
        clear h5 HZ
        go_wp2_with fail
        refine (nextup64 a HA.out _).mono ?_; rintro e w6 ⟨x, rfl, hx, hb6⟩
        have HX := hide hx
        have X1 := hide (nb_up64 hx HA.out).1
        clear hx
        go_wp2_with fail
        refine (place64 x X1.out _).mono ?_; rintro e w7 ⟨r, y, rfl, h7, hb7⟩
        have hr := up_place64 HA.out NA.out HX.out h7
        rw [← EP.out] at hr
        clear h7
        rcases hr with ⟨tx, rfl⟩ | ⟨tx, rfl⟩
        all_goals
          have tx' : (FloatKind.f64.format.order x a != some Ordering.eq) = !(FloatKind.f64.format.order x a == some Ordering.eq) := rfl
          rw [tx] at tx'
          simp only [Bool.not_true, Bool.not_false] at tx'
          go_wp2
          go_ret
          exact ⟨rfl, by repeat (first | exact G2 | assumption | refine bch ?_ (by assumption))⟩

set_option maxHeartbeats 8000000 in
theorem countedFar (a b : Nat) (ha : a ≤ 18446744073709551615) (hb : b ≤ 18446744073709551615) (w : World) : Calls Try.prog 91 #[.float .f64 a, .float .f64 b] w fun e w' => e = .returned (.bool true) ∧ Below w.heap.size w w' := by
  have HA := hide ha
  have HB := hide hb
  have TA := hide (self_eq64 a ha)
  have TB := hide (self_eq64 b hb)
  have HLT := hide (ord_lt64 a b ha hb)
  have HEQ := hide (ord_eq64 a b ha hb)
  clear ha hb
  go_enter Try.func91, Try.ntmps91
  go_wp2_with fail
  refine (placeFar a HA.out _).mono ?_; rintro e w1 ⟨p, o, rfl, h1, hb1⟩
  go_wp2_with fail
  refine (placeFar b HB.out _).mono ?_; rintro e w2 ⟨q, v, rfl, h2, hb2⟩
  have G2 := bch hb1 hb2
  have pb := h1.bd
  have qb := h2.bd
  clear hb1 hb2
  have tb := TB.out
  rcases h1.cases with ⟨na, rfl, rfl⟩ | ⟨na, rfl, ep⟩
  · have ta := TA.out
    rw [na] at ta
    clear HLT HEQ TA TB h1 na
    rcases h2.cases with ⟨nb, rfl, -⟩ | ⟨nb, rfl, -⟩
    all_goals
      rw [nb] at tb
      clear nb h2
      go_wp2
      go_ret
      exact ⟨rfl, G2⟩
  · have ta := TA.out
    rw [na] at ta
    have NA := hide na
    have EP := hide ep
    have hf : v = false ∧ (FloatKind.f64.format.order b b == some Ordering.eq) = false ∨ v = true ∧ (FloatKind.f64.format.order b b == some Ordering.eq) = true ∧
        (FloatKind.f64.format.order a b == some Ordering.lt) = decide (p < q) ∧ (FloatKind.f64.format.order a b == some Ordering.eq) = decide (p = q) := by
      rcases h2.cases with ⟨nb, rfl, -⟩ | ⟨nb, rfl, eq⟩
      · left; rw [nb] at tb; exact ⟨rfl, tb⟩
      · right; rw [nb] at tb
        have h3 := HLT.out
        have h4 := HEQ.out
        rw [na, nb] at h3 h4
        refine ⟨rfl, tb, ?_, ?_⟩
        · rw [h3, ep, eq]; rfl
        · rw [h4, ep, eq]; rfl
    clear HLT HEQ TA TB h1 h2 na ep tb
    rcases hf with ⟨rfl, tb⟩ | ⟨rfl, tb, hlt, heq⟩
    · go_wp2_with fail
      refine (atFar p (by omega) _).mono ?_; rintro e w3 ⟨z, u, rfl, h3, hb3⟩
      have h3' := h3
      rw [EP.out] at h3'
      obtain ⟨rfl, z1, -, tz, hz⟩ := at_back64 HA.out NA.out h3'
      have HZ := hide hz
      have Z1 := hide z1
      clear h3 h3' hz z1
      go_wp2_with fail
      refine (plainFar a HA.out _).mono ?_; rintro e w4 ⟨rfl, rfl⟩
      go_wp2_with fail
      refine (orderFar _ _ Z1.out (Vg.plain_le64 _ HA.out) _).mono ?_; rintro e w5 ⟨c, rfl, h5, hb5⟩
      obtain rfl := HZ.out c h5
      clear h5 HZ
      go_wp2_with fail
      refine (nextupFar a HA.out _).mono ?_; rintro e w6 ⟨x, rfl, hx, hb6⟩
      have HX := hide hx
      have X1 := hide (nb_up64 hx HA.out).1
      clear hx
      go_wp2_with fail
      refine (placeFar x X1.out _).mono ?_; rintro e w7 ⟨r, y, rfl, h7, hb7⟩
      have hr := up_place64 HA.out NA.out HX.out h7
      rw [← EP.out] at hr
      clear h7
      rcases hr with ⟨tx, rfl⟩ | ⟨tx, rfl⟩
      all_goals
        have tx' : (FloatKind.f64.format.order x a != some Ordering.eq) = !(FloatKind.f64.format.order x a == some Ordering.eq) := rfl
        rw [tx] at tx'
        simp only [Bool.not_true, Bool.not_false] at tx'
        go_wp2
        go_ret
        exact ⟨rfl, by repeat (first | exact G2 | assumption | refine bch ?_ (by assumption))⟩
    · rcases Int.lt_trichotomy p q with hl | hl | hl
      · rw [decide_eq_true hl] at hlt
        rw [decide_eq_false (by omega)] at heq
        have tpq : (p == q) = false := by rw [beq_eq_false_iff_ne]; omega
        go_wp2_with fail
        refine (atFar p (by omega) _).mono ?_; rintro e w3 ⟨z, u, rfl, h3, hb3⟩
        have h3' := h3
        rw [EP.out] at h3'
        obtain ⟨rfl, z1, -, tz, hz⟩ := at_back64 HA.out NA.out h3'
        have HZ := hide hz
        have Z1 := hide z1
        clear h3 h3' hz z1
        go_wp2_with fail
        refine (plainFar a HA.out _).mono ?_; rintro e w4 ⟨rfl, rfl⟩
        go_wp2_with fail
        refine (orderFar _ _ Z1.out (Vg.plain_le64 _ HA.out) _).mono ?_; rintro e w5 ⟨c, rfl, h5, hb5⟩
        obtain rfl := HZ.out c h5
        clear h5 HZ
        go_wp2_with fail
        refine (nextupFar a HA.out _).mono ?_; rintro e w6 ⟨x, rfl, hx, hb6⟩
        have HX := hide hx
        have X1 := hide (nb_up64 hx HA.out).1
        clear hx
        go_wp2_with fail
        refine (placeFar x X1.out _).mono ?_; rintro e w7 ⟨r, y, rfl, h7, hb7⟩
        have hr := up_place64 HA.out NA.out HX.out h7
        rw [← EP.out] at hr
        clear h7
        rcases hr with ⟨tx, rfl⟩ | ⟨tx, rfl⟩
        all_goals
          have tx' : (FloatKind.f64.format.order x a != some Ordering.eq) = !(FloatKind.f64.format.order x a == some Ordering.eq) := rfl
          rw [tx] at tx'
          simp only [Bool.not_true, Bool.not_false] at tx'
          go_wp2
          go_ret
          exact ⟨rfl, by repeat (first | exact G2 | assumption | refine bch ?_ (by assumption))⟩
      · rw [decide_eq_false (by omega)] at hlt
        rw [decide_eq_true hl] at heq
        subst hl
        go_wp2_with fail
        refine (atFar p (by omega) _).mono ?_; rintro e w3 ⟨z, u, rfl, h3, hb3⟩
        have h3' := h3
        rw [EP.out] at h3'
        obtain ⟨rfl, z1, -, tz, hz⟩ := at_back64 HA.out NA.out h3'
        have HZ := hide hz
        have Z1 := hide z1
        clear h3 h3' hz z1
        go_wp2_with fail
        refine (plainFar a HA.out _).mono ?_; rintro e w4 ⟨rfl, rfl⟩
        go_wp2_with fail
        refine (orderFar _ _ Z1.out (Vg.plain_le64 _ HA.out) _).mono ?_; rintro e w5 ⟨c, rfl, h5, hb5⟩
        obtain rfl := HZ.out c h5
        clear h5 HZ
        go_wp2_with fail
        refine (nextupFar a HA.out _).mono ?_; rintro e w6 ⟨x, rfl, hx, hb6⟩
        have HX := hide hx
        have X1 := hide (nb_up64 hx HA.out).1
        clear hx
        go_wp2_with fail
        refine (placeFar x X1.out _).mono ?_; rintro e w7 ⟨r, y, rfl, h7, hb7⟩
        have hr := up_place64 HA.out NA.out HX.out h7
        rw [← EP.out] at hr
        clear h7
        rcases hr with ⟨tx, rfl⟩ | ⟨tx, rfl⟩
        all_goals
          have tx' : (FloatKind.f64.format.order x a != some Ordering.eq) = !(FloatKind.f64.format.order x a == some Ordering.eq) := rfl
          rw [tx] at tx'
          simp only [Bool.not_true, Bool.not_false] at tx'
          go_wp2
          go_ret
          exact ⟨rfl, by repeat (first | exact G2 | assumption | refine bch ?_ (by assumption))⟩
      · rw [decide_eq_false (by omega)] at hlt
        rw [decide_eq_false (by omega)] at heq
        have tlt : decide (p < q) = false := decide_eq_false (by omega)
        have tpq : (p == q) = false := by rw [beq_eq_false_iff_ne]; omega
        go_wp2_with fail
        refine (atFar p (by omega) _).mono ?_; rintro e w3 ⟨z, u, rfl, h3, hb3⟩
        have h3' := h3
        rw [EP.out] at h3'
        obtain ⟨rfl, z1, -, tz, hz⟩ := at_back64 HA.out NA.out h3'
        have HZ := hide hz
        have Z1 := hide z1
        clear h3 h3' hz z1
        go_wp2_with fail
        refine (plainFar a HA.out _).mono ?_; rintro e w4 ⟨rfl, rfl⟩
        go_wp2_with fail
        refine (orderFar _ _ Z1.out (Vg.plain_le64 _ HA.out) _).mono ?_; rintro e w5 ⟨c, rfl, h5, hb5⟩
        obtain rfl := HZ.out c h5
        clear h5 HZ
        go_wp2_with fail
        refine (nextupFar a HA.out _).mono ?_; rintro e w6 ⟨x, rfl, hx, hb6⟩
        have HX := hide hx
        have X1 := hide (nb_up64 hx HA.out).1
        clear hx
        go_wp2_with fail
        refine (placeFar x X1.out _).mono ?_; rintro e w7 ⟨r, y, rfl, h7, hb7⟩
        have hr := up_place64 HA.out NA.out HX.out h7
        rw [← EP.out] at hr
        clear h7
        rcases hr with ⟨tx, rfl⟩ | ⟨tx, rfl⟩
        all_goals
          have tx' : (FloatKind.f64.format.order x a != some Ordering.eq) = !(FloatKind.f64.format.order x a == some Ordering.eq) := rfl
          rw [tx] at tx'
          simp only [Bool.not_true, Bool.not_false] at tx'
          go_wp2
          go_ret
          exact ⟨rfl, by repeat (first | exact G2 | assumption | refine bch ?_ (by assumption))⟩

set_option maxHeartbeats 8000000 in
theorem counted32 (a b : Nat) (ha : a ≤ 4294967295) (hb : b ≤ 4294967295) (w : World) : Calls Try.prog 90 #[.float .f32 a, .float .f32 b] w fun e w' => e = .returned (.bool true) ∧ Below w.heap.size w w' := by
  have HA := hide ha
  have HB := hide hb
  have TA := hide (self_eq32 a ha)
  have TB := hide (self_eq32 b hb)
  have HLT := hide (ord_lt32 a b ha hb)
  have HEQ := hide (ord_eq32 a b ha hb)
  clear ha hb
  go_enter Try.func90, Try.ntmps90
  go_wp2_with fail
  refine (place32 a HA.out _).mono ?_; rintro e w1 ⟨p, o, rfl, h1, hb1⟩
  go_wp2_with fail
  refine (place32 b HB.out _).mono ?_; rintro e w2 ⟨q, v, rfl, h2, hb2⟩
  have G2 := bch hb1 hb2
  have pb := h1.bd
  have qb := h2.bd
  clear hb1 hb2
  have tb := TB.out
  rcases h1.cases with ⟨na, rfl, rfl⟩ | ⟨na, rfl, ep⟩
  · have ta := TA.out
    rw [na] at ta
    clear HLT HEQ TA TB h1 na
    rcases h2.cases with ⟨nb, rfl, -⟩ | ⟨nb, rfl, -⟩
    all_goals
      rw [nb] at tb
      clear nb h2
      go_wp2
      go_ret
      exact ⟨rfl, G2⟩
  · have ta := TA.out
    rw [na] at ta
    have NA := hide na
    have EP := hide ep
    have hf : v = false ∧ (FloatKind.f32.format.order b b == some Ordering.eq) = false ∨ v = true ∧ (FloatKind.f32.format.order b b == some Ordering.eq) = true ∧
        (FloatKind.f32.format.order a b == some Ordering.lt) = decide (p < q) ∧ (FloatKind.f32.format.order a b == some Ordering.eq) = decide (p = q) := by
      rcases h2.cases with ⟨nb, rfl, -⟩ | ⟨nb, rfl, eq⟩
      · left; rw [nb] at tb; exact ⟨rfl, tb⟩
      · right; rw [nb] at tb
        have h3 := HLT.out
        have h4 := HEQ.out
        rw [na, nb] at h3 h4
        refine ⟨rfl, tb, ?_, ?_⟩
        · rw [h3, ep, eq]; rfl
        · rw [h4, ep, eq]; rfl
    clear HLT HEQ TA TB h1 h2 na ep tb
    rcases hf with ⟨rfl, tb⟩ | ⟨rfl, tb, hlt, heq⟩
    · go_wp2_with fail
      refine (at32 p (by omega) _).mono ?_; rintro e w3 ⟨z, u, rfl, h3, hb3⟩
      have h3' := h3
      rw [EP.out] at h3'
      obtain ⟨rfl, z1, -, tz, hz⟩ := at_back32 HA.out NA.out h3'
      have HZ := hide hz
      have Z1 := hide z1
      clear h3 h3' hz z1
      go_wp2_with fail
      refine (plain32 a HA.out _).mono ?_; rintro e w4 ⟨rfl, rfl⟩
      go_wp2_with fail
      refine (order32 _ _ Z1.out (Vg.plain_le32 _ HA.out) _).mono ?_; rintro e w5 ⟨c, rfl, h5, hb5⟩
      obtain rfl := HZ.out c h5
      clear h5 HZ
      go_wp2_with fail
      refine (nextup32 a HA.out _).mono ?_; rintro e w6 ⟨x, rfl, hx, hb6⟩
      have HX := hide hx
      have X1 := hide (nb_up32 hx HA.out).1
      clear hx
      go_wp2_with fail
      refine (place32 x X1.out _).mono ?_; rintro e w7 ⟨r, y, rfl, h7, hb7⟩
      have hr := up_place32 HA.out NA.out HX.out h7
      rw [← EP.out] at hr
      clear h7
      rcases hr with ⟨tx, rfl⟩ | ⟨tx, rfl⟩
      all_goals
        have tx' : (FloatKind.f32.format.order x a != some Ordering.eq) = !(FloatKind.f32.format.order x a == some Ordering.eq) := rfl
        rw [tx] at tx'
        simp only [Bool.not_true, Bool.not_false] at tx'
        go_wp2
        go_ret
        exact ⟨rfl, by repeat (first | exact G2 | assumption | refine bch ?_ (by assumption))⟩
    · rcases Int.lt_trichotomy p q with hl | hl | hl
      · rw [decide_eq_true hl] at hlt
        rw [decide_eq_false (by omega)] at heq
        have tpq : (p == q) = false := by rw [beq_eq_false_iff_ne]; omega
        go_wp2_with fail
        refine (at32 p (by omega) _).mono ?_; rintro e w3 ⟨z, u, rfl, h3, hb3⟩
        have h3' := h3
        rw [EP.out] at h3'
        obtain ⟨rfl, z1, -, tz, hz⟩ := at_back32 HA.out NA.out h3'
        have HZ := hide hz
        have Z1 := hide z1
        clear h3 h3' hz z1
        go_wp2_with fail
        refine (plain32 a HA.out _).mono ?_; rintro e w4 ⟨rfl, rfl⟩
        go_wp2_with fail
        refine (order32 _ _ Z1.out (Vg.plain_le32 _ HA.out) _).mono ?_; rintro e w5 ⟨c, rfl, h5, hb5⟩
        obtain rfl := HZ.out c h5
        clear h5 HZ
        go_wp2_with fail
        refine (nextup32 a HA.out _).mono ?_; rintro e w6 ⟨x, rfl, hx, hb6⟩
        have HX := hide hx
        have X1 := hide (nb_up32 hx HA.out).1
        clear hx
        go_wp2_with fail
        refine (place32 x X1.out _).mono ?_; rintro e w7 ⟨r, y, rfl, h7, hb7⟩
        have hr := up_place32 HA.out NA.out HX.out h7
        rw [← EP.out] at hr
        clear h7
        rcases hr with ⟨tx, rfl⟩ | ⟨tx, rfl⟩
        all_goals
          have tx' : (FloatKind.f32.format.order x a != some Ordering.eq) = !(FloatKind.f32.format.order x a == some Ordering.eq) := rfl
          rw [tx] at tx'
          simp only [Bool.not_true, Bool.not_false] at tx'
          go_wp2
          go_ret
          exact ⟨rfl, by repeat (first | exact G2 | assumption | refine bch ?_ (by assumption))⟩
      · rw [decide_eq_false (by omega)] at hlt
        rw [decide_eq_true hl] at heq
        subst hl
        go_wp2_with fail
        refine (at32 p (by omega) _).mono ?_; rintro e w3 ⟨z, u, rfl, h3, hb3⟩
        have h3' := h3
        rw [EP.out] at h3'
        obtain ⟨rfl, z1, -, tz, hz⟩ := at_back32 HA.out NA.out h3'
        have HZ := hide hz
        have Z1 := hide z1
        clear h3 h3' hz z1
        go_wp2_with fail
        refine (plain32 a HA.out _).mono ?_; rintro e w4 ⟨rfl, rfl⟩
        go_wp2_with fail
        refine (order32 _ _ Z1.out (Vg.plain_le32 _ HA.out) _).mono ?_; rintro e w5 ⟨c, rfl, h5, hb5⟩
        obtain rfl := HZ.out c h5
        clear h5 HZ
        go_wp2_with fail
        refine (nextup32 a HA.out _).mono ?_; rintro e w6 ⟨x, rfl, hx, hb6⟩
        have HX := hide hx
        have X1 := hide (nb_up32 hx HA.out).1
        clear hx
        go_wp2_with fail
        refine (place32 x X1.out _).mono ?_; rintro e w7 ⟨r, y, rfl, h7, hb7⟩
        have hr := up_place32 HA.out NA.out HX.out h7
        rw [← EP.out] at hr
        clear h7
        rcases hr with ⟨tx, rfl⟩ | ⟨tx, rfl⟩
        all_goals
          have tx' : (FloatKind.f32.format.order x a != some Ordering.eq) = !(FloatKind.f32.format.order x a == some Ordering.eq) := rfl
          rw [tx] at tx'
          simp only [Bool.not_true, Bool.not_false] at tx'
          go_wp2
          go_ret
          exact ⟨rfl, by repeat (first | exact G2 | assumption | refine bch ?_ (by assumption))⟩
      · rw [decide_eq_false (by omega)] at hlt
        rw [decide_eq_false (by omega)] at heq
        have tlt : decide (p < q) = false := decide_eq_false (by omega)
        have tpq : (p == q) = false := by rw [beq_eq_false_iff_ne]; omega
        go_wp2_with fail
        refine (at32 p (by omega) _).mono ?_; rintro e w3 ⟨z, u, rfl, h3, hb3⟩
        have h3' := h3
        rw [EP.out] at h3'
        obtain ⟨rfl, z1, -, tz, hz⟩ := at_back32 HA.out NA.out h3'
        have HZ := hide hz
        have Z1 := hide z1
        clear h3 h3' hz z1
        go_wp2_with fail
        refine (plain32 a HA.out _).mono ?_; rintro e w4 ⟨rfl, rfl⟩
        go_wp2_with fail
        refine (order32 _ _ Z1.out (Vg.plain_le32 _ HA.out) _).mono ?_; rintro e w5 ⟨c, rfl, h5, hb5⟩
        obtain rfl := HZ.out c h5
        clear h5 HZ
        go_wp2_with fail
        refine (nextup32 a HA.out _).mono ?_; rintro e w6 ⟨x, rfl, hx, hb6⟩
        have HX := hide hx
        have X1 := hide (nb_up32 hx HA.out).1
        clear hx
        go_wp2_with fail
        refine (place32 x X1.out _).mono ?_; rintro e w7 ⟨r, y, rfl, h7, hb7⟩
        have hr := up_place32 HA.out NA.out HX.out h7
        rw [← EP.out] at hr
        clear h7
        rcases hr with ⟨tx, rfl⟩ | ⟨tx, rfl⟩
        all_goals
          have tx' : (FloatKind.f32.format.order x a != some Ordering.eq) = !(FloatKind.f32.format.order x a == some Ordering.eq) := rfl
          rw [tx] at tx'
          simp only [Bool.not_true, Bool.not_false] at tx'
          go_wp2
          go_ret
          exact ⟨rfl, by repeat (first | exact G2 | assumption | refine bch ?_ (by assumption))⟩

set_option maxHeartbeats 8000000 in
theorem countedNear (a b : Nat) (ha : a ≤ 4294967295) (hb : b ≤ 4294967295) (w : World) : Calls Try.prog 92 #[.float .f32 a, .float .f32 b] w fun e w' => e = .returned (.bool true) ∧ Below w.heap.size w w' := by
  have HA := hide ha
  have HB := hide hb
  have TA := hide (self_eq32 a ha)
  have TB := hide (self_eq32 b hb)
  have HLT := hide (ord_lt32 a b ha hb)
  have HEQ := hide (ord_eq32 a b ha hb)
  clear ha hb
  go_enter Try.func92, Try.ntmps92
  go_wp2_with fail
  refine (placeNear a HA.out _).mono ?_; rintro e w1 ⟨p, o, rfl, h1, hb1⟩
  go_wp2_with fail
  refine (placeNear b HB.out _).mono ?_; rintro e w2 ⟨q, v, rfl, h2, hb2⟩
  have G2 := bch hb1 hb2
  have pb := h1.bd
  have qb := h2.bd
  clear hb1 hb2
  have tb := TB.out
  rcases h1.cases with ⟨na, rfl, rfl⟩ | ⟨na, rfl, ep⟩
  · have ta := TA.out
    rw [na] at ta
    clear HLT HEQ TA TB h1 na
    rcases h2.cases with ⟨nb, rfl, -⟩ | ⟨nb, rfl, -⟩
    all_goals
      rw [nb] at tb
      clear nb h2
      go_wp2
      go_ret
      exact ⟨rfl, G2⟩
  · have ta := TA.out
    rw [na] at ta
    have NA := hide na
    have EP := hide ep
    have hf : v = false ∧ (FloatKind.f32.format.order b b == some Ordering.eq) = false ∨ v = true ∧ (FloatKind.f32.format.order b b == some Ordering.eq) = true ∧
        (FloatKind.f32.format.order a b == some Ordering.lt) = decide (p < q) ∧ (FloatKind.f32.format.order a b == some Ordering.eq) = decide (p = q) := by
      rcases h2.cases with ⟨nb, rfl, -⟩ | ⟨nb, rfl, eq⟩
      · left; rw [nb] at tb; exact ⟨rfl, tb⟩
      · right; rw [nb] at tb
        have h3 := HLT.out
        have h4 := HEQ.out
        rw [na, nb] at h3 h4
        refine ⟨rfl, tb, ?_, ?_⟩
        · rw [h3, ep, eq]; rfl
        · rw [h4, ep, eq]; rfl
    clear HLT HEQ TA TB h1 h2 na ep tb
    rcases hf with ⟨rfl, tb⟩ | ⟨rfl, tb, hlt, heq⟩
    · go_wp2_with fail
      refine (atNear p (by omega) _).mono ?_; rintro e w3 ⟨z, u, rfl, h3, hb3⟩
      have h3' := h3
      rw [EP.out] at h3'
      obtain ⟨rfl, z1, -, tz, hz⟩ := at_back32 HA.out NA.out h3'
      have HZ := hide hz
      have Z1 := hide z1
      clear h3 h3' hz z1
      go_wp2_with fail
      refine (plainNear a HA.out _).mono ?_; rintro e w4 ⟨rfl, rfl⟩
      go_wp2_with fail
      refine (orderNear _ _ Z1.out (Vg.plain_le32 _ HA.out) _).mono ?_; rintro e w5 ⟨c, rfl, h5, hb5⟩
      obtain rfl := HZ.out c h5
      clear h5 HZ
      go_wp2_with fail
      refine (nextupNear a HA.out _).mono ?_; rintro e w6 ⟨x, rfl, hx, hb6⟩
      have HX := hide hx
      have X1 := hide (nb_up32 hx HA.out).1
      clear hx
      go_wp2_with fail
      refine (placeNear x X1.out _).mono ?_; rintro e w7 ⟨r, y, rfl, h7, hb7⟩
      have hr := up_place32 HA.out NA.out HX.out h7
      rw [← EP.out] at hr
      clear h7
      rcases hr with ⟨tx, rfl⟩ | ⟨tx, rfl⟩
      all_goals
        have tx' : (FloatKind.f32.format.order x a != some Ordering.eq) = !(FloatKind.f32.format.order x a == some Ordering.eq) := rfl
        rw [tx] at tx'
        simp only [Bool.not_true, Bool.not_false] at tx'
        go_wp2
        go_ret
        exact ⟨rfl, by repeat (first | exact G2 | assumption | refine bch ?_ (by assumption))⟩
    · rcases Int.lt_trichotomy p q with hl | hl | hl
      · rw [decide_eq_true hl] at hlt
        rw [decide_eq_false (by omega)] at heq
        have tpq : (p == q) = false := by rw [beq_eq_false_iff_ne]; omega
        go_wp2_with fail
        refine (atNear p (by omega) _).mono ?_; rintro e w3 ⟨z, u, rfl, h3, hb3⟩
        have h3' := h3
        rw [EP.out] at h3'
        obtain ⟨rfl, z1, -, tz, hz⟩ := at_back32 HA.out NA.out h3'
        have HZ := hide hz
        have Z1 := hide z1
        clear h3 h3' hz z1
        go_wp2_with fail
        refine (plainNear a HA.out _).mono ?_; rintro e w4 ⟨rfl, rfl⟩
        go_wp2_with fail
        refine (orderNear _ _ Z1.out (Vg.plain_le32 _ HA.out) _).mono ?_; rintro e w5 ⟨c, rfl, h5, hb5⟩
        obtain rfl := HZ.out c h5
        clear h5 HZ
        go_wp2_with fail
        refine (nextupNear a HA.out _).mono ?_; rintro e w6 ⟨x, rfl, hx, hb6⟩
        have HX := hide hx
        have X1 := hide (nb_up32 hx HA.out).1
        clear hx
        go_wp2_with fail
        refine (placeNear x X1.out _).mono ?_; rintro e w7 ⟨r, y, rfl, h7, hb7⟩
        have hr := up_place32 HA.out NA.out HX.out h7
        rw [← EP.out] at hr
        clear h7
        rcases hr with ⟨tx, rfl⟩ | ⟨tx, rfl⟩
        all_goals
          have tx' : (FloatKind.f32.format.order x a != some Ordering.eq) = !(FloatKind.f32.format.order x a == some Ordering.eq) := rfl
          rw [tx] at tx'
          simp only [Bool.not_true, Bool.not_false] at tx'
          go_wp2
          go_ret
          exact ⟨rfl, by repeat (first | exact G2 | assumption | refine bch ?_ (by assumption))⟩
      · rw [decide_eq_false (by omega)] at hlt
        rw [decide_eq_true hl] at heq
        subst hl
        go_wp2_with fail
        refine (atNear p (by omega) _).mono ?_; rintro e w3 ⟨z, u, rfl, h3, hb3⟩
        have h3' := h3
        rw [EP.out] at h3'
        obtain ⟨rfl, z1, -, tz, hz⟩ := at_back32 HA.out NA.out h3'
        have HZ := hide hz
        have Z1 := hide z1
        clear h3 h3' hz z1
        go_wp2_with fail
        refine (plainNear a HA.out _).mono ?_; rintro e w4 ⟨rfl, rfl⟩
        go_wp2_with fail
        refine (orderNear _ _ Z1.out (Vg.plain_le32 _ HA.out) _).mono ?_; rintro e w5 ⟨c, rfl, h5, hb5⟩
        obtain rfl := HZ.out c h5
        clear h5 HZ
        go_wp2_with fail
        refine (nextupNear a HA.out _).mono ?_; rintro e w6 ⟨x, rfl, hx, hb6⟩
        have HX := hide hx
        have X1 := hide (nb_up32 hx HA.out).1
        clear hx
        go_wp2_with fail
        refine (placeNear x X1.out _).mono ?_; rintro e w7 ⟨r, y, rfl, h7, hb7⟩
        have hr := up_place32 HA.out NA.out HX.out h7
        rw [← EP.out] at hr
        clear h7
        rcases hr with ⟨tx, rfl⟩ | ⟨tx, rfl⟩
        all_goals
          have tx' : (FloatKind.f32.format.order x a != some Ordering.eq) = !(FloatKind.f32.format.order x a == some Ordering.eq) := rfl
          rw [tx] at tx'
          simp only [Bool.not_true, Bool.not_false] at tx'
          go_wp2
          go_ret
          exact ⟨rfl, by repeat (first | exact G2 | assumption | refine bch ?_ (by assumption))⟩
      · rw [decide_eq_false (by omega)] at hlt
        rw [decide_eq_false (by omega)] at heq
        have tlt : decide (p < q) = false := decide_eq_false (by omega)
        have tpq : (p == q) = false := by rw [beq_eq_false_iff_ne]; omega
        go_wp2_with fail
        refine (atNear p (by omega) _).mono ?_; rintro e w3 ⟨z, u, rfl, h3, hb3⟩
        have h3' := h3
        rw [EP.out] at h3'
        obtain ⟨rfl, z1, -, tz, hz⟩ := at_back32 HA.out NA.out h3'
        have HZ := hide hz
        have Z1 := hide z1
        clear h3 h3' hz z1
        go_wp2_with fail
        refine (plainNear a HA.out _).mono ?_; rintro e w4 ⟨rfl, rfl⟩
        go_wp2_with fail
        refine (orderNear _ _ Z1.out (Vg.plain_le32 _ HA.out) _).mono ?_; rintro e w5 ⟨c, rfl, h5, hb5⟩
        obtain rfl := HZ.out c h5
        clear h5 HZ
        go_wp2_with fail
        refine (nextupNear a HA.out _).mono ?_; rintro e w6 ⟨x, rfl, hx, hb6⟩
        have HX := hide hx
        have X1 := hide (nb_up32 hx HA.out).1
        clear hx
        go_wp2_with fail
        refine (placeNear x X1.out _).mono ?_; rintro e w7 ⟨r, y, rfl, h7, hb7⟩
        have hr := up_place32 HA.out NA.out HX.out h7
        rw [← EP.out] at hr
        clear h7
        rcases hr with ⟨tx, rfl⟩ | ⟨tx, rfl⟩
        all_goals
          have tx' : (FloatKind.f32.format.order x a != some Ordering.eq) = !(FloatKind.f32.format.order x a == some Ordering.eq) := rfl
          rw [tx] at tx'
          simp only [Bool.not_true, Bool.not_false] at tx'
          go_wp2
          go_ret
          exact ⟨rfl, by repeat (first | exact G2 | assumption | refine bch ?_ (by assumption))⟩

end Go.Proofs.Ytgehcnlfplcaaaa

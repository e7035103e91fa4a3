/- The contract of 'measured': Steps adds up. -/
import Derived.Test.YtgehcnlfplcaaaaWFollow
namespace Go.Proofs.Ytgehcnlfplcaaaa
open Go.RowKit

theorem IsSt64.num {a b : Nat} {n : Int} {o : Bool} (h : IsSt64 a b n o) : (Vg.nn true a = true ∨ Vg.nn true b = true) ∧ n = 0 ∧ o = false ∨
    Vg.nn true a = false ∧ Vg.nn true b = false ∧ (o = true ∧ n = Vg.pl true b - Vg.pl true a ∧ -9223372036854775808 ≤ n ∧ n ≤ 9223372036854775807 ∨ o = false ∧ n = 0) := by
  obtain ⟨p, u, q, v, h1, h2, h3⟩ := h
  have e1 := h1.1
  have e2 := h2.1
  cases ha : Vg.nn true a
  · cases hb : Vg.nn true b
    · right
      have p1 := h1.2
      have p2 := h2.2
      rw [ha] at e1 p1
      rw [hb] at e2 p2
      simp only [Bool.false_eq_true, if_false] at p1 p2
      refine ⟨rfl, rfl, ?_⟩
      rcases h3 with ⟨k1, k2, k3⟩ | ⟨k1, k2, k3, k4⟩ | ⟨k1, k2, k3, k4⟩
      · rw [e1, e2] at k1; cases k1
      · left; exact ⟨k4, by omega, by omega, by omega⟩
      · right; exact ⟨k4, k3⟩
    · left
      rw [hb] at e2
      rcases h3 with ⟨k1, k2, k3⟩ | ⟨k1, k2, k3, k4⟩ | ⟨k1, k2, k3, k4⟩
      · exact ⟨.inr rfl, k2, k3⟩
      · rw [e2] at k1; simp at k1
      · rw [e2] at k1; simp at k1
  · left
    rw [ha] at e1
    rcases h3 with ⟨k1, k2, k3⟩ | ⟨k1, k2, k3, k4⟩ | ⟨k1, k2, k3, k4⟩
    · exact ⟨.inl rfl, k2, k3⟩
    · rw [e1] at k1; simp at k1
    · rw [e1] at k1; simp at k1

theorem IsSt32.num {a b : Nat} {n : Int} {o : Bool} (h : IsSt32 a b n o) : (Vg.nn false a = true ∨ Vg.nn false b = true) ∧ n = 0 ∧ o = false ∨
    Vg.nn false a = false ∧ Vg.nn false b = false ∧ (o = true ∧ n = Vg.pl false b - Vg.pl false a ∧ -9223372036854775808 ≤ n ∧ n ≤ 9223372036854775807 ∨ o = false ∧ n = 0) := by
  obtain ⟨p, u, q, v, h1, h2, h3⟩ := h
  have e1 := h1.1
  have e2 := h2.1
  cases ha : Vg.nn false a
  · cases hb : Vg.nn false b
    · right
      have p1 := h1.2
      have p2 := h2.2
      rw [ha] at e1 p1
      rw [hb] at e2 p2
      simp only [Bool.false_eq_true, if_false] at p1 p2
      refine ⟨rfl, rfl, ?_⟩
      rcases h3 with ⟨k1, k2, k3⟩ | ⟨k1, k2, k3, k4⟩ | ⟨k1, k2, k3, k4⟩
      · rw [e1, e2] at k1; cases k1
      · left; exact ⟨k4, by omega, by omega, by omega⟩
      · right; exact ⟨k4, k3⟩
    · left
      rw [hb] at e2
      rcases h3 with ⟨k1, k2, k3⟩ | ⟨k1, k2, k3, k4⟩ | ⟨k1, k2, k3, k4⟩
      · exact ⟨.inr rfl, k2, k3⟩
      · rw [e2] at k1; simp at k1
      · rw [e2] at k1; simp at k1
  · left
    rw [ha] at e1
    rcases h3 with ⟨k1, k2, k3⟩ | ⟨k1, k2, k3, k4⟩ | ⟨k1, k2, k3, k4⟩
    · exact ⟨.inl rfl, k2, k3⟩
    · rw [e1] at k1; simp at k1
    · rw [e1] at k1; simp at k1

set_option maxHeartbeats 8000000 in
theorem measured64 (a b c : Nat) (ha : a ≤ 18446744073709551615) (hb : b ≤ 18446744073709551615) (hc : c ≤ 18446744073709551615) (w : World) : Calls Try.prog 82 #[.float .f64 a, .float .f64 b, .float .f64 c] w fun e w' => e = .returned (.bool true) ∧ Below w.heap.size w w' := by
  have HA := hide ha
  have HB := hide hb
  have HC := hide hc
  have ta := self_ne64 a ha
  have tb := self_ne64 b hb
  have hlt := ord_lt64 a b ha hb
  have hgt := ord_gt64 a b ha hb
  have HLT := hide hlt
  have HGT := hide hgt
  have TA := hide ta
  have TB := hide tb
  clear ha hb hc ta tb hlt hgt
  go_enter Try.func82, Try.ntmps82
  go_wp2_with fail
  refine (steps64 a b HA.out HB.out _).mono ?_; rintro e w1 ⟨n, o1, rfl, h1, hb1⟩
  go_wp2_with fail
  refine (steps64 b a HB.out HA.out _).mono ?_; rintro e w2 ⟨m, o2, rfl, h2, hb2⟩
  have G2 := bch hb1 hb2
  clear hb1 hb2
  rcases h1.num with ⟨h, rfl, rfl⟩ | ⟨na, nb, h1'⟩
  · rcases h2.num with ⟨h', rfl, rfl⟩ | ⟨na, nb, -⟩
    · have ta := TA.out
      have tb := TB.out
      clear h1 h2 h' HLT HGT TA TB
      cases hx : Vg.nn true a
      · rw [hx] at ta h
        have hy : Vg.nn true b = true := by simpa using h
        rw [hy] at tb
        clear hx hy h
        go_wp2
        go_ret
        exact ⟨rfl, G2⟩
      · rw [hx] at ta
        clear tb hx h
        go_wp2
        go_ret
        exact ⟨rfl, G2⟩
    · rcases h with h | h
      · rw [nb] at h; cases h
      · rw [na] at h; cases h
  · have ta := TA.out
    have tb := TB.out
    have hlt := HLT.out
    have hgt := HGT.out
    rw [na] at ta
    rw [nb] at tb
    rw [na, nb] at hlt hgt
    simp only [Bool.not_false, Bool.true_and] at hlt hgt
    clear TA TB HLT HGT h1
    rcases h1' with ⟨rfl, e1, r1, r2⟩ | ⟨rfl, rfl⟩
    · have NA := hide na
      have NB := hide nb
      have E1 := hide e1
      have hm : (o2 = true ∧ m = -n) ∨ (o2 = false) := by
        rcases h2.num with ⟨h', -, -⟩ | ⟨-, -, ⟨k1, k2, -, -⟩ | ⟨k1, -⟩⟩
        · rcases h' with h' | h'
          · rw [nb] at h'; cases h'
          · rw [na] at h'; cases h'
        · left; exact ⟨k1, by omega⟩
        · right; exact k1
      have hlt2 : (FloatKind.f64.format.order a b == some Ordering.lt) = decide (0 < n) := by rw [hlt, decide_eq_decide]; omega
      have hgt2 : (FloatKind.f64.format.order a b == some Ordering.gt) = decide (n < 0) := by rw [hgt, decide_eq_decide]; omega
      clear h2 na nb hlt hgt e1
      rcases Int.lt_trichotomy n 0 with hl | hl | hl
      · rw [decide_eq_false (by omega)] at hlt2
        rw [decide_eq_true hl] at hgt2
        rcases hm with ⟨rfl, rfl⟩ | rfl
        all_goals
          go_wp2_with fail
          refine (nextup64 a HA.out _).mono ?_; rintro e w3 ⟨u, rfl, hu, hb3⟩
          have U1 := hide (nb_up64 hu HA.out)
          clear hu
          go_wp2_with fail
          refine (steps64 u b U1.out.1 HB.out _).mono ?_; rintro e w4 ⟨k, o3, rfl, h3, hb4⟩
          cases o3
          all_goals clear h3
          all_goals go_wp2_with fail
          all_goals
          refine (steps64 b c HB.out HC.out _).mono ?_; rintro e w5 ⟨d, o4, rfl, h4, hb5⟩
          go_wp2_with fail
          refine (steps64 a c HA.out HC.out _).mono ?_; rintro e w6 ⟨r, o5, rfl, h5, hb6⟩
          have hf : o4 = false ∨ o5 = false ∨ o4 = true ∧ o5 = true ∧ r = n + d ∧ -9223372036854775808 ≤ n + d ∧ n + d ≤ 9223372036854775807 := by
            have e1 := E1.out
            rcases h4.num with ⟨-, -, h⟩ | ⟨-, -, ⟨k1, k2, -, -⟩ | ⟨k1, -⟩⟩
            · exact .inl h
            · rcases h5.num with ⟨-, -, h⟩ | ⟨-, -, ⟨j1, j2, j3, j4⟩ | ⟨j1, -⟩⟩
              · exact .inr (.inl h)
              · exact .inr (.inr ⟨k1, j1, by omega, by omega, by omega⟩)
              · exact .inr (.inl j1)
            · exact .inl k1
          clear h4 h5
          rcases hf with rfl | rfl | ⟨rfl, rfl, rfl, g1, g2⟩
          all_goals go_wp2
          all_goals go_ret
          all_goals exact ⟨rfl, by repeat (first | exact G2 | assumption | refine bch ?_ (by assumption))⟩
      · subst hl
        rw [decide_eq_false (by omega)] at hlt2
        rw [decide_eq_false (by omega)] at hgt2
        rcases hm with ⟨rfl, rfl⟩ | rfl
        all_goals
          go_wp2_with fail
          refine (nextup64 a HA.out _).mono ?_; rintro e w3 ⟨u, rfl, hu, hb3⟩
          have U1 := hide (nb_up64 hu HA.out)
          clear hu
          go_wp2_with fail
          refine (steps64 u b U1.out.1 HB.out _).mono ?_; rintro e w4 ⟨k, o3, rfl, h3, hb4⟩
          cases o3
          all_goals clear h3
          all_goals go_wp2_with fail
          all_goals
          refine (steps64 b c HB.out HC.out _).mono ?_; rintro e w5 ⟨d, o4, rfl, h4, hb5⟩
          go_wp2_with fail
          refine (steps64 a c HA.out HC.out _).mono ?_; rintro e w6 ⟨r, o5, rfl, h5, hb6⟩
          have hf : o4 = false ∨ o5 = false ∨ o4 = true ∧ o5 = true ∧ r = d ∧ -9223372036854775808 ≤ d ∧ d ≤ 9223372036854775807 := by
            have e1 := E1.out
            rcases h4.num with ⟨-, -, h⟩ | ⟨-, -, ⟨k1, k2, -, -⟩ | ⟨k1, -⟩⟩
            · exact .inl h
            · rcases h5.num with ⟨-, -, h⟩ | ⟨-, -, ⟨j1, j2, j3, j4⟩ | ⟨j1, -⟩⟩
              · exact .inr (.inl h)
              · exact .inr (.inr ⟨k1, j1, by omega, by omega, by omega⟩)
              · exact .inr (.inl j1)
            · exact .inl k1
          clear h4 h5
          rcases hf with rfl | rfl | ⟨rfl, rfl, rfl, g1, g2⟩
          all_goals go_wp2
          all_goals go_ret
          all_goals exact ⟨rfl, by repeat (first | exact G2 | assumption | refine bch ?_ (by assumption))⟩
      · rw [decide_eq_true hl] at hlt2
        rw [decide_eq_false (by omega)] at hgt2
        rcases hm with ⟨rfl, rfl⟩ | rfl
        all_goals
          go_wp2_with fail
          refine (nextup64 a HA.out _).mono ?_; rintro e w3 ⟨u, rfl, hu, hb3⟩
          have U1 := hide (nb_up64 hu HA.out)
          clear hu
          go_wp2_with fail
          refine (steps64 u b U1.out.1 HB.out _).mono ?_; rintro e w4 ⟨k, o3, rfl, h3, hb4⟩
          have hk : o3 = false ∨ o3 = true ∧ k = n - 1 := by
            rcases h3.num with ⟨-, -, h⟩ | ⟨n3, -, ⟨k1, k2, -, -⟩ | ⟨k1, -⟩⟩
            · exact .inl h
            · refine .inr ⟨k1, ?_⟩
              have e1 := E1.out
              rcases U1.out.2.2 NA.out with ⟨q1, -⟩ | ⟨-, q2⟩
              · have := Vg.pl_bd64 b NB.out; omega
              · omega
            · exact .inl k1
          rcases hk with rfl | ⟨rfl, rfl⟩
          all_goals clear h3
          all_goals go_wp2_with fail
          all_goals
          refine (steps64 b c HB.out HC.out _).mono ?_; rintro e w5 ⟨d, o4, rfl, h4, hb5⟩
          go_wp2_with fail
          refine (steps64 a c HA.out HC.out _).mono ?_; rintro e w6 ⟨r, o5, rfl, h5, hb6⟩
          have hf : o4 = false ∨ o5 = false ∨ o4 = true ∧ o5 = true ∧ r = n + d ∧ -9223372036854775808 ≤ n + d ∧ n + d ≤ 9223372036854775807 := by
            have e1 := E1.out
            rcases h4.num with ⟨-, -, h⟩ | ⟨-, -, ⟨k1, k2, -, -⟩ | ⟨k1, -⟩⟩
            · exact .inl h
            · rcases h5.num with ⟨-, -, h⟩ | ⟨-, -, ⟨j1, j2, j3, j4⟩ | ⟨j1, -⟩⟩
              · exact .inr (.inl h)
              · exact .inr (.inr ⟨k1, j1, by omega, by omega, by omega⟩)
              · exact .inr (.inl j1)
            · exact .inl k1
          clear h4 h5
          rcases hf with rfl | rfl | ⟨rfl, rfl, rfl, g1, g2⟩
          all_goals go_wp2
          all_goals go_ret
          all_goals exact ⟨rfl, by repeat (first | exact G2 | assumption | refine bch ?_ (by assumption))⟩
    · have NA := hide na
      clear h2 na nb hlt hgt
      go_wp2_with fail
      refine (nextup64 a HA.out _).mono ?_; rintro e w3 ⟨u, rfl, hu, hb3⟩
      have U1 := hide (nb_up64 hu HA.out)
      clear hu
      go_wp2_with fail
      refine (steps64 u b U1.out.1 HB.out _).mono ?_; rintro e w4 ⟨k, o3, rfl, h3, hb4⟩
      go_wp2_with fail
      refine (steps64 b c HB.out HC.out _).mono ?_; rintro e w5 ⟨d, o4, rfl, h4, hb5⟩
      go_wp2_with fail
      refine (steps64 a c HA.out HC.out _).mono ?_; rintro e w6 ⟨r, o5, rfl, h5, hb6⟩
      go_wp2
      all_goals go_ret
      all_goals exact ⟨rfl, by repeat (first | exact G2 | assumption | refine bch ?_ (by assumption))⟩

set_option maxHeartbeats 8000000 in
theorem measured32 (a b c : Nat) (ha : a ≤ 4294967295) (hb : b ≤ 4294967295) (hc : c ≤ 4294967295) (w : World) : Calls Try.prog 83 #[.float .f32 a, .float .f32 b, .float .f32 c] w fun e w' => e = .returned (.bool true) ∧ Below w.heap.size w w' := by
  have HA := hide ha
  have HB := hide hb
  have HC := hide hc
  have ta := self_ne32 a ha
  have tb := self_ne32 b hb
  have hlt := ord_lt32 a b ha hb
  have hgt := ord_gt32 a b ha hb
  have HLT := hide hlt
  have HGT := hide hgt
  have TA := hide ta
  have TB := hide tb
  clear ha hb hc ta tb hlt hgt
  go_enter Try.func83, Try.ntmps83
  go_wp2_with fail
  refine (steps32 a b HA.out HB.out _).mono ?_; rintro e w1 ⟨n, o1, rfl, h1, hb1⟩
  go_wp2_with fail
  refine (steps32 b a HB.out HA.out _).mono ?_; rintro e w2 ⟨m, o2, rfl, h2, hb2⟩
  have G2 := bch hb1 hb2
  clear hb1 hb2
  rcases h1.num with ⟨h, rfl, rfl⟩ | ⟨na, nb, h1'⟩
  · rcases h2.num with ⟨h', rfl, rfl⟩ | ⟨na, nb, -⟩
    · have ta := TA.out
      have tb := TB.out
      clear h1 h2 h' HLT HGT TA TB
      cases hx : Vg.nn false a
      · rw [hx] at ta h
        have hy : Vg.nn false b = true := by simpa using h
        rw [hy] at tb
        clear hx hy h
        go_wp2
        go_ret
        exact ⟨rfl, G2⟩
      · rw [hx] at ta
        clear tb hx h
        go_wp2
        go_ret
        exact ⟨rfl, G2⟩
    · rcases h with h | h
      · rw [nb] at h; cases h
      · rw [na] at h; cases h
  · have ta := TA.out
    have tb := TB.out
    have hlt := HLT.out
    have hgt := HGT.out
    rw [na] at ta
    rw [nb] at tb
    rw [na, nb] at hlt hgt
    simp only [Bool.not_false, Bool.true_and] at hlt hgt
    clear TA TB HLT HGT h1
    rcases h1' with ⟨rfl, e1, r1, r2⟩ | ⟨rfl, rfl⟩
    · have NA := hide na
      have NB := hide nb
      have E1 := hide e1
      have hm : (o2 = true ∧ m = -n) ∨ (o2 = false) := by
        rcases h2.num with ⟨h', -, -⟩ | ⟨-, -, ⟨k1, k2, -, -⟩ | ⟨k1, -⟩⟩
        · rcases h' with h' | h'
          · rw [nb] at h'; cases h'
          · rw [na] at h'; cases h'
        · left; exact ⟨k1, by omega⟩
        · right; exact k1
      have hlt2 : (FloatKind.f32.format.order a b == some Ordering.lt) = decide (0 < n) := by rw [hlt, decide_eq_decide]; omega
      have hgt2 : (FloatKind.f32.format.order a b == some Ordering.gt) = decide (n < 0) := by rw [hgt, decide_eq_decide]; omega
      clear h2 na nb hlt hgt e1
      rcases Int.lt_trichotomy n 0 with hl | hl | hl
      · rw [decide_eq_false (by omega)] at hlt2
        rw [decide_eq_true hl] at hgt2
        rcases hm with ⟨rfl, rfl⟩ | rfl
        all_goals
          go_wp2_with fail
          refine (nextup32 a HA.out _).mono ?_; rintro e w3 ⟨u, rfl, hu, hb3⟩
          have U1 := hide (nb_up32 hu HA.out)
          clear hu
          go_wp2_with fail
          refine (steps32 u b U1.out.1 HB.out _).mono ?_; rintro e w4 ⟨k, o3, rfl, h3, hb4⟩
          cases o3
          all_goals clear h3
          all_goals go_wp2_with fail
          all_goals
          refine (steps32 b c HB.out HC.out _).mono ?_; rintro e w5 ⟨d, o4, rfl, h4, hb5⟩
          go_wp2_with fail
          refine (steps32 a c HA.out HC.out _).mono ?_; rintro e w6 ⟨r, o5, rfl, h5, hb6⟩
          have hf : o4 = false ∨ o5 = false ∨ o4 = true ∧ o5 = true ∧ r = n + d ∧ -9223372036854775808 ≤ n + d ∧ n + d ≤ 9223372036854775807 := by
            have e1 := E1.out
            rcases h4.num with ⟨-, -, h⟩ | ⟨-, -, ⟨k1, k2, -, -⟩ | ⟨k1, -⟩⟩
            · exact .inl h
            · rcases h5.num with ⟨-, -, h⟩ | ⟨-, -, ⟨j1, j2, j3, j4⟩ | ⟨j1, -⟩⟩
              · exact .inr (.inl h)
              · exact .inr (.inr ⟨k1, j1, by omega, by omega, by omega⟩)
              · exact .inr (.inl j1)
            · exact .inl k1
          clear h4 h5
          rcases hf with rfl | rfl | ⟨rfl, rfl, rfl, g1, g2⟩
          all_goals go_wp2
          all_goals go_ret
          all_goals exact ⟨rfl, by repeat (first | exact G2 | assumption | refine bch ?_ (by assumption))⟩
      · subst hl
        rw [decide_eq_false (by omega)] at hlt2
        rw [decide_eq_false (by omega)] at hgt2
        rcases hm with ⟨rfl, rfl⟩ | rfl
        all_goals
          go_wp2_with fail
          refine (nextup32 a HA.out _).mono ?_; rintro e w3 ⟨u, rfl, hu, hb3⟩
          have U1 := hide (nb_up32 hu HA.out)
          clear hu
          go_wp2_with fail
          refine (steps32 u b U1.out.1 HB.out _).mono ?_; rintro e w4 ⟨k, o3, rfl, h3, hb4⟩
          cases o3
          all_goals clear h3
          all_goals go_wp2_with fail
          all_goals
          refine (steps32 b c HB.out HC.out _).mono ?_; rintro e w5 ⟨d, o4, rfl, h4, hb5⟩
          go_wp2_with fail
          refine (steps32 a c HA.out HC.out _).mono ?_; rintro e w6 ⟨r, o5, rfl, h5, hb6⟩
          have hf : o4 = false ∨ o5 = false ∨ o4 = true ∧ o5 = true ∧ r = d ∧ -9223372036854775808 ≤ d ∧ d ≤ 9223372036854775807 := by
            have e1 := E1.out
            rcases h4.num with ⟨-, -, h⟩ | ⟨-, -, ⟨k1, k2, -, -⟩ | ⟨k1, -⟩⟩
            · exact .inl h
            · rcases h5.num with ⟨-, -, h⟩ | ⟨-, -, ⟨j1, j2, j3, j4⟩ | ⟨j1, -⟩⟩
              · exact .inr (.inl h)
              · exact .inr (.inr ⟨k1, j1, by omega, by omega, by omega⟩)
              · exact .inr (.inl j1)
            · exact .inl k1
          clear h4 h5
          rcases hf with rfl | rfl | ⟨rfl, rfl, rfl, g1, g2⟩
          all_goals go_wp2
          all_goals go_ret
          all_goals exact ⟨rfl, by repeat (first | exact G2 | assumption | refine bch ?_ (by assumption))⟩
      · rw [decide_eq_true hl] at hlt2
        rw [decide_eq_false (by omega)] at hgt2
        rcases hm with ⟨rfl, rfl⟩ | rfl
        all_goals
          go_wp2_with fail
          refine (nextup32 a HA.out _).mono ?_; rintro e w3 ⟨u, rfl, hu, hb3⟩
          have U1 := hide (nb_up32 hu HA.out)
          clear hu
          go_wp2_with fail
          refine (steps32 u b U1.out.1 HB.out _).mono ?_; rintro e w4 ⟨k, o3, rfl, h3, hb4⟩
          have hk : o3 = false ∨ o3 = true ∧ k = n - 1 := by
            rcases h3.num with ⟨-, -, h⟩ | ⟨n3, -, ⟨k1, k2, -, -⟩ | ⟨k1, -⟩⟩
            · exact .inl h
            · refine .inr ⟨k1, ?_⟩
              have e1 := E1.out
              rcases U1.out.2.2 NA.out with ⟨q1, -⟩ | ⟨-, q2⟩
              · have := Vg.pl_bd32 b NB.out; omega
              · omega
            · exact .inl k1
          rcases hk with rfl | ⟨rfl, rfl⟩
          all_goals clear h3
          all_goals go_wp2_with fail
          all_goals
          refine (steps32 b c HB.out HC.out _).mono ?_; rintro e w5 ⟨d, o4, rfl, h4, hb5⟩
          go_wp2_with fail
          refine (steps32 a c HA.out HC.out _).mono ?_; rintro e w6 ⟨r, o5, rfl, h5, hb6⟩
          have hf : o4 = false ∨ o5 = false ∨ o4 = true ∧ o5 = true ∧ r = n + d ∧ -9223372036854775808 ≤ n + d ∧ n + d ≤ 9223372036854775807 := by
            have e1 := E1.out
            rcases h4.num with ⟨-, -, h⟩ | ⟨-, -, ⟨k1, k2, -, -⟩ | ⟨k1, -⟩⟩
            · exact .inl h
            · rcases h5.num with ⟨-, -, h⟩ | ⟨-, -, ⟨j1, j2, j3, j4⟩ | ⟨j1, -⟩⟩
              · exact .inr (.inl h)
              · exact .inr (.inr ⟨k1, j1, by omega, by omega, by omega⟩)
              · exact .inr (.inl j1)
            · exact .inl k1
          clear h4 h5
          rcases hf with rfl | rfl | ⟨rfl, rfl, rfl, g1, g2⟩
          all_goals go_wp2
          all_goals go_ret
          all_goals exact ⟨rfl, by repeat (first | exact G2 | assumption | refine bch ?_ (by assumption))⟩
    · have NA := hide na
      clear h2 na nb hlt hgt
      go_wp2_with fail
      refine (nextup32 a HA.out _).mono ?_; rintro e w3 ⟨u, rfl, hu, hb3⟩
      have U1 := hide (nb_up32 hu HA.out)
      clear hu
      go_wp2_with fail
      refine (steps32 u b U1.out.1 HB.out _).mono ?_; rintro e w4 ⟨k, o3, rfl, h3, hb4⟩
      go_wp2_with fail
      refine (steps32 b c HB.out HC.out _).mono ?_; rintro e w5 ⟨d, o4, rfl, h4, hb5⟩
      go_wp2_with fail
      refine (steps32 a c HA.out HC.out _).mono ?_; rintro e w6 ⟨r, o5, rfl, h5, hb6⟩
      go_wp2
      all_goals go_ret
      all_goals exact ⟨rfl, by repeat (first | exact G2 | assumption | refine bch ?_ (by assumption))⟩

set_option maxHeartbeats 8000000 in
theorem measuredNear (a b c : Nat) (ha : a ≤ 4294967295) (hb : b ≤ 4294967295) (hc : c ≤ 4294967295) (w : World) : Calls Try.prog 84 #[.float .f32 a, .float .f32 b, .float .f32 c] w fun e w' => e = .returned (.bool true) ∧ Below w.heap.size w w' := by
  have HA := hide ha
  have HB := hide hb
  have HC := hide hc
  have ta := self_ne32 a ha
  have tb := self_ne32 b hb
  have hlt := ord_lt32 a b ha hb
  have hgt := ord_gt32 a b ha hb
  have HLT := hide hlt
  have HGT := hide hgt
  have TA := hide ta
  have TB := hide tb
  clear ha hb hc ta tb hlt hgt
  go_enter Try.func84, Try.ntmps84
  go_wp2_with fail
  refine (stepsNear a b HA.out HB.out _).mono ?_; rintro e w1 ⟨n, o1, rfl, h1, hb1⟩
  go_wp2_with fail
  refine (stepsNear b a HB.out HA.out _).mono ?_; rintro e w2 ⟨m, o2, rfl, h2, hb2⟩
  have G2 := bch hb1 hb2
  clear hb1 hb2
  rcases h1.num with ⟨h, rfl, rfl⟩ | ⟨na, nb, h1'⟩
  · rcases h2.num with ⟨h', rfl, rfl⟩ | ⟨na, nb, -⟩
    · have ta := TA.out
      have tb := TB.out
      clear h1 h2 h' HLT HGT TA TB
      cases hx : Vg.nn false a
      · rw [hx] at ta h
        have hy : Vg.nn false b = true := by simpa using h
        rw [hy] at tb
        clear hx hy h
        go_wp2
        go_ret
        exact ⟨rfl, G2⟩
      · rw [hx] at ta
        clear tb hx h
        go_wp2
        go_ret
        exact ⟨rfl, G2⟩
    · rcases h with h | h
      · rw [nb] at h; cases h
      · rw [na] at h; cases h
  · have ta := TA.out
    have tb := TB.out
    have hlt := HLT.out
    have hgt := HGT.out
    rw [na] at ta
    rw [nb] at tb
    rw [na, nb] at hlt hgt
    simp only [Bool.not_false, Bool.true_and] at hlt hgt
    clear TA TB HLT HGT h1
    rcases h1' with ⟨rfl, e1, r1, r2⟩ | ⟨rfl, rfl⟩
    · have NA := hide na
      have NB := hide nb
      have E1 := hide e1
      have hm : (o2 = true ∧ m = -n) ∨ (o2 = false) := by
        rcases h2.num with ⟨h', -, -⟩ | ⟨-, -, ⟨k1, k2, -, -⟩ | ⟨k1, -⟩⟩
        · rcases h' with h' | h'
          · rw [nb] at h'; cases h'
          · rw [na] at h'; cases h'
        · left; exact ⟨k1, by omega⟩
        · right; exact k1
      have hlt2 : (FloatKind.f32.format.order a b == some Ordering.lt) = decide (0 < n) := by rw [hlt, decide_eq_decide]; omega
      have hgt2 : (FloatKind.f32.format.order a b == some Ordering.gt) = decide (n < 0) := by rw [hgt, decide_eq_decide]; omega
      clear h2 na nb hlt hgt e1
      rcases Int.lt_trichotomy n 0 with hl | hl | hl
      · rw [decide_eq_false (by omega)] at hlt2
        rw [decide_eq_true hl] at hgt2
        rcases hm with ⟨rfl, rfl⟩ | rfl
        all_goals
          go_wp2_with fail
          refine (nextupNear a HA.out _).mono ?_; rintro e w3 ⟨u, rfl, hu, hb3⟩
          have U1 := hide (nb_up32 hu HA.out)
          clear hu
          go_wp2_with fail
          refine (stepsNear u b U1.out.1 HB.out _).mono ?_; rintro e w4 ⟨k, o3, rfl, h3, hb4⟩
          cases o3
          all_goals clear h3
          all_goals go_wp2_with fail
          all_goals
          refine (stepsNear b c HB.out HC.out _).mono ?_; rintro e w5 ⟨d, o4, rfl, h4, hb5⟩
          go_wp2_with fail
          refine (stepsNear a c HA.out HC.out _).mono ?_; rintro e w6 ⟨r, o5, rfl, h5, hb6⟩
          have hf : o4 = false ∨ o5 = false ∨ o4 = true ∧ o5 = true ∧ r = n + d ∧ -9223372036854775808 ≤ n + d ∧ n + d ≤ 9223372036854775807 := by
            have e1 := E1.out
            rcases h4.num with ⟨-, -, h⟩ | ⟨-, -, ⟨k1, k2, -, -⟩ | ⟨k1, -⟩⟩
            · exact .inl h
            · rcases h5.num with ⟨-, -, h⟩ | ⟨-, -, ⟨j1, j2, j3, j4⟩ | ⟨j1, -⟩⟩
              · exact .inr (.inl h)
              · exact .inr (.inr ⟨k1, j1, by omega, by omega, by omega⟩)
              · exact .inr (.inl j1)
            · exact .inl k1
          clear h4 h5
          rcases hf with rfl | rfl | ⟨rfl, rfl, rfl, g1, g2⟩
          all_goals go_wp2
          all_goals go_ret
          all_goals exact ⟨rfl, by repeat (first | exact G2 | assumption | refine bch ?_ (by assumption))⟩
      · subst hl
        rw [decide_eq_false (by omega)] at hlt2
        rw [decide_eq_false (by omega)] at hgt2
        rcases hm with ⟨rfl, rfl⟩ | rfl
        all_goals
          go_wp2_with fail
          refine (nextupNear a HA.out _).mono ?_; rintro e w3 ⟨u, rfl, hu, hb3⟩
          have U1 := hide (nb_up32 hu HA.out)
          clear hu
          go_wp2_with fail
          refine (stepsNear u b U1.out.1 HB.out _).mono ?_; rintro e w4 ⟨k, o3, rfl, h3, hb4⟩
          cases o3
          all_goals clear h3
          all_goals go_wp2_with fail
          all_goals
          refine (stepsNear b c HB.out HC.out _).mono ?_; rintro e w5 ⟨d, o4, rfl, h4, hb5⟩
          go_wp2_with fail
          refine (stepsNear a c HA.out HC.out _).mono ?_; rintro e w6 ⟨r, o5, rfl, h5, hb6⟩
          have hf : o4 = false ∨ o5 = false ∨ o4 = true ∧ o5 = true ∧ r = d ∧ -9223372036854775808 ≤ d ∧ d ≤ 9223372036854775807 := by
            have e1 := E1.out
            rcases h4.num with ⟨-, -, h⟩ | ⟨-, -, ⟨k1, k2, -, -⟩ | ⟨k1, -⟩⟩
            · exact .inl h
            · rcases h5.num with ⟨-, -, h⟩ | ⟨-, -, ⟨j1, j2, j3, j4⟩ | ⟨j1, -⟩⟩
              · exact .inr (.inl h)
              · exact .inr (.inr ⟨k1, j1, by omega, by omega, by omega⟩)
              · exact .inr (.inl j1)
            · exact .inl k1
          clear h4 h5
          rcases hf with rfl | rfl | ⟨rfl, rfl, rfl, g1, g2⟩
          all_goals go_wp2
          all_goals go_ret
          all_goals exact ⟨rfl, by repeat (first | exact G2 | assumption | refine bch ?_ (by assumption))⟩
      · rw [decide_eq_true hl] at hlt2
        rw [decide_eq_false (by omega)] at hgt2
        rcases hm with ⟨rfl, rfl⟩ | rfl
        all_goals
          go_wp2_with fail
          refine (nextupNear a HA.out _).mono ?_; rintro e w3 ⟨u, rfl, hu, hb3⟩
          have U1 := hide (nb_up32 hu HA.out)
          clear hu
          go_wp2_with fail
          refine (stepsNear u b U1.out.1 HB.out _).mono ?_; rintro e w4 ⟨k, o3, rfl, h3, hb4⟩
          have hk : o3 = false ∨ o3 = true ∧ k = n - 1 := by
            rcases h3.num with ⟨-, -, h⟩ | ⟨n3, -, ⟨k1, k2, -, -⟩ | ⟨k1, -⟩⟩
            · exact .inl h
            · refine .inr ⟨k1, ?_⟩
              have e1 := E1.out
              rcases U1.out.2.2 NA.out with ⟨q1, -⟩ | ⟨-, q2⟩
              · have := Vg.pl_bd32 b NB.out; omega
              · omega
            · exact .inl k1
          rcases hk with rfl | ⟨rfl, rfl⟩
          all_goals clear h3
          all_goals go_wp2_with fail
          all_goals
          refine (stepsNear b c HB.out HC.out _).mono ?_; rintro e w5 ⟨d, o4, rfl, h4, hb5⟩
          go_wp2_with fail
          refine (stepsNear a c HA.out HC.out _).mono ?_; rintro e w6 ⟨r, o5, rfl, h5, hb6⟩
          have hf : o4 = false ∨ o5 = false ∨ o4 = true ∧ o5 = true ∧ r = n + d ∧ -9223372036854775808 ≤ n + d ∧ n + d ≤ 9223372036854775807 := by
            have e1 := E1.out
            rcases h4.num with ⟨-, -, h⟩ | ⟨-, -, ⟨k1, k2, -, -⟩ | ⟨k1, -⟩⟩
            · exact .inl h
            · rcases h5.num with ⟨-, -, h⟩ | ⟨-, -, ⟨j1, j2, j3, j4⟩ | ⟨j1, -⟩⟩
              · exact .inr (.inl h)
              · exact .inr (.inr ⟨k1, j1, by omega, by omega, by omega⟩)
              · exact .inr (.inl j1)
            · exact .inl k1
          clear h4 h5
          rcases hf with rfl | rfl | ⟨rfl, rfl, rfl, g1, g2⟩
          all_goals go_wp2
          all_goals go_ret
          all_goals exact ⟨rfl, by repeat (first | exact G2 | assumption | refine bch ?_ (by assumption))⟩
    · have NA := hide na
      clear h2 na nb hlt hgt
      go_wp2_with fail
      refine (nextupNear a HA.out _).mono ?_; rintro e w3 ⟨u, rfl, hu, hb3⟩
      have U1 := hide (nb_up32 hu HA.out)
      clear hu
      go_wp2_with fail
      refine (stepsNear u b U1.out.1 HB.out _).mono ?_; rintro e w4 ⟨k, o3, rfl, h3, hb4⟩
      go_wp2_with fail
      refine (stepsNear b c HB.out HC.out _).mono ?_; rintro e w5 ⟨d, o4, rfl, h4, hb5⟩
      go_wp2_with fail
      refine (stepsNear a c HA.out HC.out _).mono ?_; rintro e w6 ⟨r, o5, rfl, h5, hb6⟩
      go_wp2
      all_goals go_ret
      all_goals exact ⟨rfl, by repeat (first | exact G2 | assumption | refine bch ?_ (by assumption))⟩

end Go.Proofs.Ytgehcnlfplcaaaa

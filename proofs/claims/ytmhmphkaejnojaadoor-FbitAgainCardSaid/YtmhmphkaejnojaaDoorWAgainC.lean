/- Contract of the law's own again. -/
import Derived.Test.YtmhmphkaejnojaaDoorWBackC
namespace Go.Proofs.YtmhmphkaejnojaaDoor
open Go.RowKit

theorem joinz64 (n : Bool) (z : Int) (x : Int) (z0 : 0 ≤ z) (z1 : z ≤ 18446744073709551615) (hx : -9223372036854775808 ≤ x ∧ x ≤ 9223372036854775807) (w : World) (hT : Tab w) :
    Calls Tryd.prog 6 #[.bool n, .int .u64 z, .int .i64 x] w (ToldJ64 (Vg.Jn64 n z.toNat x) w) := by
  obtain ⟨s, rfl⟩ := Int.eq_ofNat_of_zero_le z0
  rw [Int.toNat_natCast]
  exact join64 n s x (by omega) hx w hT
set_option maxRecDepth 20000 in
set_option maxHeartbeats 2000000 in
theorem again64 (n : Bool) (s : Int) (x : Int) (hs : 0 ≤ s ∧ s ≤ 18446744073709551615) (hx : -9223372036854775808 ≤ x ∧ x ≤ 9223372036854775807) (w : World) (hT : Tab w) :
    Calls Tryd.prog 19 #[.bool n, .int .u64 s, .int .i64 x, .int .u64 4503599627370496, .int .i64 (-1074)] w fun e w' => e = .returned (.bool true) ∧ Below w.heap.size w w' := by
  have HS := hide hs
  have HX := hide hx
  have ze := z_eq64
  by_cases c1 : 2 * 4503599627370496 ≤ s ∨ s < 4503599627370496 ∧ x ≠ -1074 ∨ x < -1074
  · have t1 : decide (9007199254740992 ≤ s) = true ∨ decide (9007199254740992 ≤ s) = false ∧ decide (s < 4503599627370496) = true ∧ (x != -1074) = true ∨ decide (9007199254740992 ≤ s) = false ∧ decide (s < 4503599627370496) = true ∧ (x != -1074) = false ∧ decide (x < -1074) = true ∨ decide (9007199254740992 ≤ s) = false ∧ decide (s < 4503599627370496) = false ∧ decide (x < -1074) = true := by
      by_cases d1 : 2 * 4503599627370496 ≤ s
      · left; exact decide_eq_true (by omega)
      · right
        by_cases d2 : s < 4503599627370496
        · by_cases d3 : x = -1074
          · omega
          · left; exact ⟨decide_eq_false (by omega), decide_eq_true (by omega), by rw [bne_iff_ne]; exact d3⟩
        · right; right
          exact ⟨decide_eq_false (by omega), decide_eq_false (by omega), decide_eq_true (by omega)⟩
    clear hs hx c1
    go_enter Tryd.func19, Tryd.ntmps19
    have T1 := hide t1
    clear t1
    go_wp2_with fail
    refine (joinz64 n s x HS.out.1 HS.out.2 HX.out _ hT).mono ?_; rintro e w1 ⟨b, o, k, rfl, hj, hk, hb1⟩
    cases o
    · obtain rfl := (not_zero_err hk).2 rfl
      have hb0 : b = 0 := by
        rcases hj with ⟨_, _, h⟩ | ⟨_, h, _⟩ | ⟨_, _, h, _⟩
        · exact absurd h (by decide)
        · exact absurd h (by decide)
        · omega
      subst hb0
      clear hj hk
      go_wp2
      go_ret
      exact ⟨rfl, hb1⟩
    · obtain rfl := (not_zero_err hk).1 rfl
      clear hj hk
      rcases T1.out with t1 | ⟨t1, t2, t3⟩ | ⟨t1, t2, t3, t4⟩ | ⟨t1, t2, t3⟩
      all_goals
        go_wp2
        go_ret
        exact ⟨rfl, hb1⟩
  · have t1 : decide (9007199254740992 ≤ s) = false := decide_eq_false (by omega)
    have t2 : decide (x < -1074) = false := decide_eq_false (by omega)
    have t3 : decide (s < 4503599627370496) = false ∨ decide (s < 4503599627370496) = true ∧ (x != -1074) = false := by
      by_cases d : s < 4503599627370496
      · right; exact ⟨decide_eq_true (by omega), by rw [bne_eq_false_iff_eq]; omega⟩
      · left; exact decide_eq_false (by omega)
    have C := hide (show s.toNat < 2 * 4503599627370496 ∧ (4503599627370496 ≤ s.toNat ∨ x = -1074) ∧ -1074 ≤ x by omega)
    have T := hide (And.intro t1 (And.intro t2 t3))
    clear hs hx c1 t1 t2 t3
    go_enter Tryd.func19, Tryd.ntmps19
    go_wp2_with fail
    refine (joinz64 n s x HS.out.1 HS.out.2 HX.out _ hT).mono ?_; rintro e w1 ⟨b, o, k, rfl, hj, hk, hb1⟩
    cases o
    · obtain rfl := (not_zero_err hk).2 rfl
      have hb0 : b = 0 := by
        rcases hj with ⟨_, _, h⟩ | ⟨_, h, _⟩ | ⟨_, _, h, _⟩
        · exact absurd h (by decide)
        · exact absurd h (by decide)
        · omega
      subst hb0
      clear hj hk
      go_wp2
      go_ret
      exact ⟨rfl, hb1⟩
    · obtain rfl := (not_zero_err hk).1 rfl
      obtain ⟨hbm, hsp⟩ := sp_of64 hj C.out.1 C.out.2.1 C.out.2.2
      clear hj hk
      have SP := hide hsp
      have BM := hide hbm
      clear hsp hbm
      have e0 : decide (0 < s.toNat) = decide (0 < s) := by rw [decide_eq_decide]; omega
      have e7 : ((s.toNat : Nat) : Int) = s := Int.toNat_of_nonneg HS.out.1
      obtain ⟨z, hz⟩ : ∃ z, decide (0 < s) = z := ⟨_, rfl⟩
      rw [e0, hz, e7] at SP
      clear e0 e7
      obtain ⟨t1, t2, t3⟩ := T.out
      rcases t3 with t3 | ⟨t3, t4⟩
      all_goals
        go_wp2_with fail
        refine (split64 b BM.out _).mono ?_; rintro e w2 ⟨n2, s2, x2, o2, rfl, h, hb2⟩
        obtain ⟨rfl, rfl, rfl, rfl⟩ := h.same SP.out
        clear h
        cases n <;> cases z
        all_goals
          go_wp2
          go_ret
          exact ⟨rfl, bch hb1 (by assumption)⟩

theorem joinzFar (n : Bool) (z : Int) (x : Int) (z0 : 0 ≤ z) (z1 : z ≤ 18446744073709551615) (hx : -9223372036854775808 ≤ x ∧ x ≤ 9223372036854775807) (w : World) (hT : Tab w) :
    Calls Tryd.prog 7 #[.bool n, .int .u64 z, .int .i64 x] w (ToldJ64 (Vg.Jn64 n z.toNat x) w) := by
  obtain ⟨s, rfl⟩ := Int.eq_ofNat_of_zero_le z0
  rw [Int.toNat_natCast]
  exact joinFar n s x (by omega) hx w hT
set_option maxRecDepth 20000 in
set_option maxHeartbeats 2000000 in
theorem againFar (n : Bool) (s : Int) (x : Int) (hs : 0 ≤ s ∧ s ≤ 18446744073709551615) (hx : -9223372036854775808 ≤ x ∧ x ≤ 9223372036854775807) (w : World) (hT : Tab w) :
    Calls Tryd.prog 20 #[.bool n, .int .u64 s, .int .i64 x, .int .u64 4503599627370496, .int .i64 (-1074)] w fun e w' => e = .returned (.bool true) ∧ Below w.heap.size w w' := by
  have HS := hide hs
  have HX := hide hx
  have ze := z_eq64
  by_cases c1 : 2 * 4503599627370496 ≤ s ∨ s < 4503599627370496 ∧ x ≠ -1074 ∨ x < -1074
  · have t1 : decide (9007199254740992 ≤ s) = true ∨ decide (9007199254740992 ≤ s) = false ∧ decide (s < 4503599627370496) = true ∧ (x != -1074) = true ∨ decide (9007199254740992 ≤ s) = false ∧ decide (s < 4503599627370496) = true ∧ (x != -1074) = false ∧ decide (x < -1074) = true ∨ decide (9007199254740992 ≤ s) = false ∧ decide (s < 4503599627370496) = false ∧ decide (x < -1074) = true := by
      by_cases d1 : 2 * 4503599627370496 ≤ s
      · left; exact decide_eq_true (by omega)
      · right
        by_cases d2 : s < 4503599627370496
        · by_cases d3 : x = -1074
          · omega
          · left; exact ⟨decide_eq_false (by omega), decide_eq_true (by omega), by rw [bne_iff_ne]; exact d3⟩
        · right; right
          exact ⟨decide_eq_false (by omega), decide_eq_false (by omega), decide_eq_true (by omega)⟩
    clear hs hx c1
    go_enter Tryd.func20, Tryd.ntmps20
    have T1 := hide t1
    clear t1
    go_wp2_with fail
    refine (joinzFar n s x HS.out.1 HS.out.2 HX.out _ hT).mono ?_; rintro e w1 ⟨b, o, k, rfl, hj, hk, hb1⟩
    cases o
    · obtain rfl := (not_zero_err hk).2 rfl
      have hb0 : b = 0 := by
        rcases hj with ⟨_, _, h⟩ | ⟨_, h, _⟩ | ⟨_, _, h, _⟩
        · exact absurd h (by decide)
        · exact absurd h (by decide)
        · omega
      subst hb0
      clear hj hk
      go_wp2
      go_ret
      exact ⟨rfl, hb1⟩
    · obtain rfl := (not_zero_err hk).1 rfl
      clear hj hk
      rcases T1.out with t1 | ⟨t1, t2, t3⟩ | ⟨t1, t2, t3, t4⟩ | ⟨t1, t2, t3⟩
      all_goals
        go_wp2
        go_ret
        exact ⟨rfl, hb1⟩
  · have t1 : decide (9007199254740992 ≤ s) = false := decide_eq_false (by omega)
    have t2 : decide (x < -1074) = false := decide_eq_false (by omega)
    have t3 : decide (s < 4503599627370496) = false ∨ decide (s < 4503599627370496) = true ∧ (x != -1074) = false := by
      by_cases d : s < 4503599627370496
      · right; exact ⟨decide_eq_true (by omega), by rw [bne_eq_false_iff_eq]; omega⟩
      · left; exact decide_eq_false (by omega)
    have C := hide (show s.toNat < 2 * 4503599627370496 ∧ (4503599627370496 ≤ s.toNat ∨ x = -1074) ∧ -1074 ≤ x by omega)
    have T := hide (And.intro t1 (And.intro t2 t3))
    clear hs hx c1 t1 t2 t3
    go_enter Tryd.func20, Tryd.ntmps20
    go_wp2_with fail
    refine (joinzFar n s x HS.out.1 HS.out.2 HX.out _ hT).mono ?_; rintro e w1 ⟨b, o, k, rfl, hj, hk, hb1⟩
    cases o
    · obtain rfl := (not_zero_err hk).2 rfl
      have hb0 : b = 0 := by
        rcases hj with ⟨_, _, h⟩ | ⟨_, h, _⟩ | ⟨_, _, h, _⟩
        · exact absurd h (by decide)
        · exact absurd h (by decide)
        · omega
      subst hb0
      clear hj hk
      go_wp2
      go_ret
      exact ⟨rfl, hb1⟩
    · obtain rfl := (not_zero_err hk).1 rfl
      obtain ⟨hbm, hsp⟩ := sp_of64 hj C.out.1 C.out.2.1 C.out.2.2
      clear hj hk
      have SP := hide hsp
      have BM := hide hbm
      clear hsp hbm
      have e0 : decide (0 < s.toNat) = decide (0 < s) := by rw [decide_eq_decide]; omega
      have e7 : ((s.toNat : Nat) : Int) = s := Int.toNat_of_nonneg HS.out.1
      obtain ⟨z, hz⟩ : ∃ z, decide (0 < s) = z := ⟨_, rfl⟩
      rw [e0, hz, e7] at SP
      clear e0 e7
      obtain ⟨t1, t2, t3⟩ := T.out
      rcases t3 with t3 | ⟨t3, t4⟩
      all_goals
        go_wp2_with fail
        refine (splitFar b BM.out _).mono ?_; rintro e w2 ⟨n2, s2, x2, o2, rfl, h, hb2⟩
        obtain ⟨rfl, rfl, rfl, rfl⟩ := h.same SP.out
        clear h
        cases n <;> cases z
        all_goals
          go_wp2
          go_ret
          exact ⟨rfl, bch hb1 (by assumption)⟩

theorem joinz32 (n : Bool) (z : Int) (x : Int) (z0 : 0 ≤ z) (z1 : z ≤ 18446744073709551615) (hx : -9223372036854775808 ≤ x ∧ x ≤ 9223372036854775807) (w : World) (hT : Tab w) :
    Calls Tryd.prog 10 #[.bool n, .int .u64 z, .int .i64 x] w (ToldJ32 (Vg.Jn32 n z.toNat x) w) := by
  obtain ⟨s, rfl⟩ := Int.eq_ofNat_of_zero_le z0
  rw [Int.toNat_natCast]
  exact join32 n s x (by omega) hx w hT
set_option maxRecDepth 20000 in
set_option maxHeartbeats 2000000 in
theorem again32 (n : Bool) (s : Int) (x : Int) (hs : 0 ≤ s ∧ s ≤ 18446744073709551615) (hx : -9223372036854775808 ≤ x ∧ x ≤ 9223372036854775807) (w : World) (hT : Tab w) :
    Calls Tryd.prog 21 #[.bool n, .int .u64 s, .int .i64 x, .int .u64 8388608, .int .i64 (-149)] w fun e w' => e = .returned (.bool true) ∧ Below w.heap.size w w' := by
  have HS := hide hs
  have HX := hide hx
  have ze := z_eq32
  by_cases c1 : 2 * 8388608 ≤ s ∨ s < 8388608 ∧ x ≠ -149 ∨ x < -149
  · have t1 : decide (16777216 ≤ s) = true ∨ decide (16777216 ≤ s) = false ∧ decide (s < 8388608) = true ∧ (x != -149) = true ∨ decide (16777216 ≤ s) = false ∧ decide (s < 8388608) = true ∧ (x != -149) = false ∧ decide (x < -149) = true ∨ decide (16777216 ≤ s) = false ∧ decide (s < 8388608) = false ∧ decide (x < -149) = true := by
      by_cases d1 : 2 * 8388608 ≤ s
      · left; exact decide_eq_true (by omega)
      · right
        by_cases d2 : s < 8388608
        · by_cases d3 : x = -149
          · omega
          · left; exact ⟨decide_eq_false (by omega), decide_eq_true (by omega), by rw [bne_iff_ne]; exact d3⟩
        · right; right
          exact ⟨decide_eq_false (by omega), decide_eq_false (by omega), decide_eq_true (by omega)⟩
    clear hs hx c1
    go_enter Tryd.func21, Tryd.ntmps21
    have T1 := hide t1
    clear t1
    go_wp2_with fail
    refine (joinz32 n s x HS.out.1 HS.out.2 HX.out _ hT).mono ?_; rintro e w1 ⟨b, o, k, rfl, hj, hk, hb1⟩
    cases o
    · obtain rfl := (not_zero_err hk).2 rfl
      have hb0 : b = 0 := by
        rcases hj with ⟨_, _, h⟩ | ⟨_, h, _⟩ | ⟨_, _, h, _⟩
        · exact absurd h (by decide)
        · exact absurd h (by decide)
        · omega
      subst hb0
      clear hj hk
      go_wp2
      go_ret
      exact ⟨rfl, hb1⟩
    · obtain rfl := (not_zero_err hk).1 rfl
      clear hj hk
      rcases T1.out with t1 | ⟨t1, t2, t3⟩ | ⟨t1, t2, t3, t4⟩ | ⟨t1, t2, t3⟩
      all_goals
        go_wp2
        go_ret
        exact ⟨rfl, hb1⟩
  · have t1 : decide (16777216 ≤ s) = false := decide_eq_false (by omega)
    have t2 : decide (x < -149) = false := decide_eq_false (by omega)
    have t3 : decide (s < 8388608) = false ∨ decide (s < 8388608) = true ∧ (x != -149) = false := by
      by_cases d : s < 8388608
      · right; exact ⟨decide_eq_true (by omega), by rw [bne_eq_false_iff_eq]; omega⟩
      · left; exact decide_eq_false (by omega)
    have C := hide (show s.toNat < 2 * 8388608 ∧ (8388608 ≤ s.toNat ∨ x = -149) ∧ -149 ≤ x by omega)
    have T := hide (And.intro t1 (And.intro t2 t3))
    clear hs hx c1 t1 t2 t3
    go_enter Tryd.func21, Tryd.ntmps21
    go_wp2_with fail
    refine (joinz32 n s x HS.out.1 HS.out.2 HX.out _ hT).mono ?_; rintro e w1 ⟨b, o, k, rfl, hj, hk, hb1⟩
    cases o
    · obtain rfl := (not_zero_err hk).2 rfl
      have hb0 : b = 0 := by
        rcases hj with ⟨_, _, h⟩ | ⟨_, h, _⟩ | ⟨_, _, h, _⟩
        · exact absurd h (by decide)
        · exact absurd h (by decide)
        · omega
      subst hb0
      clear hj hk
      go_wp2
      go_ret
      exact ⟨rfl, hb1⟩
    · obtain rfl := (not_zero_err hk).1 rfl
      obtain ⟨hbm, hsp⟩ := sp_of32 hj C.out.1 C.out.2.1 C.out.2.2
      clear hj hk
      have SP := hide hsp
      have BM := hide hbm
      clear hsp hbm
      have e0 : decide (0 < s.toNat) = decide (0 < s) := by rw [decide_eq_decide]; omega
      have e7 : ((s.toNat : Nat) : Int) = s := Int.toNat_of_nonneg HS.out.1
      obtain ⟨z, hz⟩ : ∃ z, decide (0 < s) = z := ⟨_, rfl⟩
      rw [e0, hz, e7] at SP
      clear e0 e7
      obtain ⟨t1, t2, t3⟩ := T.out
      rcases t3 with t3 | ⟨t3, t4⟩
      all_goals
        go_wp2_with fail
        refine (split32 b BM.out _).mono ?_; rintro e w2 ⟨n2, s2, x2, o2, rfl, h, hb2⟩
        obtain ⟨rfl, rfl, rfl, rfl⟩ := h.same SP.out
        clear h
        cases n <;> cases z
        all_goals
          go_wp2
          go_ret
          exact ⟨rfl, bch hb1 (by assumption)⟩

theorem joinzNear (n : Bool) (z : Int) (x : Int) (z0 : 0 ≤ z) (z1 : z ≤ 18446744073709551615) (hx : -9223372036854775808 ≤ x ∧ x ≤ 9223372036854775807) (w : World) (hT : Tab w) :
    Calls Tryd.prog 11 #[.bool n, .int .u64 z, .int .i64 x] w (ToldJ32 (Vg.Jn32 n z.toNat x) w) := by
  obtain ⟨s, rfl⟩ := Int.eq_ofNat_of_zero_le z0
  rw [Int.toNat_natCast]
  exact joinNear n s x (by omega) hx w hT
set_option maxRecDepth 20000 in
set_option maxHeartbeats 2000000 in
theorem againNear (n : Bool) (s : Int) (x : Int) (hs : 0 ≤ s ∧ s ≤ 18446744073709551615) (hx : -9223372036854775808 ≤ x ∧ x ≤ 9223372036854775807) (w : World) (hT : Tab w) :
    Calls Tryd.prog 22 #[.bool n, .int .u64 s, .int .i64 x, .int .u64 8388608, .int .i64 (-149)] w fun e w' => e = .returned (.bool true) ∧ Below w.heap.size w w' := by
  have HS := hide hs
  have HX := hide hx
  have ze := z_eq32
  by_cases c1 : 2 * 8388608 ≤ s ∨ s < 8388608 ∧ x ≠ -149 ∨ x < -149
  · have t1 : decide (16777216 ≤ s) = true ∨ decide (16777216 ≤ s) = false ∧ decide (s < 8388608) = true ∧ (x != -149) = true ∨ decide (16777216 ≤ s) = false ∧ decide (s < 8388608) = true ∧ (x != -149) = false ∧ decide (x < -149) = true ∨ decide (16777216 ≤ s) = false ∧ decide (s < 8388608) = false ∧ decide (x < -149) = true := by
      by_cases d1 : 2 * 8388608 ≤ s
      · left; exact decide_eq_true (by omega)
      · right
        by_cases d2 : s < 8388608
        · by_cases d3 : x = -149
          · omega
          · left; exact ⟨decide_eq_false (by omega), decide_eq_true (by omega), by rw [bne_iff_ne]; exact d3⟩
        · right; right
          exact ⟨decide_eq_false (by omega), decide_eq_false (by omega), decide_eq_true (by omega)⟩
    clear hs hx c1
    go_enter Tryd.func22, Tryd.ntmps22
    have T1 := hide t1
    clear t1
    go_wp2_with fail
    refine (joinzNear n s x HS.out.1 HS.out.2 HX.out _ hT).mono ?_; rintro e w1 ⟨b, o, k, rfl, hj, hk, hb1⟩
    cases o
    · obtain rfl := (not_zero_err hk).2 rfl
      have hb0 : b = 0 := by
        rcases hj with ⟨_, _, h⟩ | ⟨_, h, _⟩ | ⟨_, _, h, _⟩
        · exact absurd h (by decide)
        · exact absurd h (by decide)
        · omega
      subst hb0
      clear hj hk
      go_wp2
      go_ret
      exact ⟨rfl, hb1⟩
    · obtain rfl := (not_zero_err hk).1 rfl
      clear hj hk
      rcases T1.out with t1 | ⟨t1, t2, t3⟩ | ⟨t1, t2, t3, t4⟩ | ⟨t1, t2, t3⟩
      all_goals
        go_wp2
        go_ret
        exact ⟨rfl, hb1⟩
  · have t1 : decide (16777216 ≤ s) = false := decide_eq_false (by omega)
    have t2 : decide (x < -149) = false := decide_eq_false (by omega)
    have t3 : decide (s < 8388608) = false ∨ decide (s < 8388608) = true ∧ (x != -149) = false := by
      by_cases d : s < 8388608
      · right; exact ⟨decide_eq_true (by omega), by rw [bne_eq_false_iff_eq]; omega⟩
      · left; exact decide_eq_false (by omega)
    have C := hide (show s.toNat < 2 * 8388608 ∧ (8388608 ≤ s.toNat ∨ x = -149) ∧ -149 ≤ x by omega)
    have T := hide (And.intro t1 (And.intro t2 t3))
    clear hs hx c1 t1 t2 t3
    go_enter Tryd.func22, Tryd.ntmps22
    go_wp2_with fail
    refine (joinzNear n s x HS.out.1 HS.out.2 HX.out _ hT).mono ?_; rintro e w1 ⟨b, o, k, rfl, hj, hk, hb1⟩
    cases o
    · obtain rfl := (not_zero_err hk).2 rfl
      have hb0 : b = 0 := by
        rcases hj with ⟨_, _, h⟩ | ⟨_, h, _⟩ | ⟨_, _, h, _⟩
        · exact absurd h (by decide)
        · exact absurd h (by decide)
        · omega
      subst hb0
      clear hj hk
      go_wp2
      go_ret
      exact ⟨rfl, hb1⟩
    · obtain rfl := (not_zero_err hk).1 rfl
      obtain ⟨hbm, hsp⟩ := sp_of32 hj C.out.1 C.out.2.1 C.out.2.2
      clear hj hk
      have SP := hide hsp
      have BM := hide hbm
      clear hsp hbm
      have e0 : decide (0 < s.toNat) = decide (0 < s) := by rw [decide_eq_decide]; omega
      have e7 : ((s.toNat : Nat) : Int) = s := Int.toNat_of_nonneg HS.out.1
      obtain ⟨z, hz⟩ : ∃ z, decide (0 < s) = z := ⟨_, rfl⟩
      rw [e0, hz, e7] at SP
      clear e0 e7
      obtain ⟨t1, t2, t3⟩ := T.out
      rcases t3 with t3 | ⟨t3, t4⟩
      all_goals
        go_wp2_with fail
        refine (splitNear b BM.out _).mono ?_; rintro e w2 ⟨n2, s2, x2, o2, rfl, h, hb2⟩
        obtain ⟨rfl, rfl, rfl, rfl⟩ := h.same SP.out
        clear h
        cases n <;> cases z
        all_goals
          go_wp2
          go_ret
          exact ⟨rfl, bch hb1 (by assumption)⟩

end Go.Proofs.YtmhmphkaejnojaaDoor

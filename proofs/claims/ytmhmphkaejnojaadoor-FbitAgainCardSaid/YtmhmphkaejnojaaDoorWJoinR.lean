/- Contracts of the reference's Join. -/
import Derived.Test.YtmhmphkaejnojaaDoorWJoinBase
import Derived.Test.YtmhmphkaejnojaaDoorMJoin
namespace Go.Proofs.YtmhmphkaejnojaaDoor
open Go.RowKit

set_option maxHeartbeats 4000000 in
theorem rjoin64 (n : Bool) (s : Nat) (x : Int) (hs : s ≤ 18446744073709551615) (hx : -9223372036854775808 ≤ x ∧ x ≤ 9223372036854775807) (w : World) :
    Calls Tryd.prog 8 #[.bool true, .bool n, .int .u64 s, .int .i64 x] w (ToldU (Vg.Jn64 n s x) w) := by
  by_cases h0 : s = 0
  · subst h0
    have HR : Hid (Vg.Jn64 n 0 x 0 true) := hide (.inl ⟨rfl, rfl, rfl⟩)
    go_enter Tryd.func8, Tryd.ntmps8
    go_wp2
    go_ret2
    exact ⟨_, _, rfl, HR.out, Below.refl _ _⟩
  have t0 : ((s : Int) == 0) = false := by rw [beq_eq_false_iff_ne]; omega
  have S0 : Hid (0 < s) := hide (by omega)
  have S1 := hide hs
  have X0 := hide hx
  have J0 := Vg.LJ.start true s x
  have B0 := Vg.LB.start s
  clear hs hx h0
  go_enter Tryd.func8, Tryd.ntmps8
  go_wp2_with (first | (go_at_call 29; refine (full_64 _).mono ?_; rintro e w' ⟨rfl, rfl⟩) | (go_at_call 31; refine (top_64 _).mono ?_; rintro e w' ⟨rfl, rfl⟩) | (go_at_call 30; refine (least_64 _).mono ?_; rintro e w' ⟨rfl, rfl⟩))
  go_loop [2, 3, 11] (fun u v i => ∃ z y k : Int, u = .int .u64 z ∧ v = .int .i64 y ∧ i = .int .i64 k ∧ 0 < z ∧ z ≤ 18446744073709551615 ∧ -9223372036854775808 ≤ y ∧ y ≤ 9223372036854775807 ∧ 0 ≤ k ∧ k ≤ 64 ∧ Vg.LJ true s x z y ∧ Vg.LB s z k) (fun _ _ i => (64 - intOf i).toNat)
  case atStart => exact ⟨s, x, 0, rfl, rfl, rfl, by have := S0.out; omega, by have := S1.out; omega, X0.out.1, X0.out.2, by omega, by omega, J0, B0⟩
  case round =>
    clear J0 B0 t0
    obtain ⟨z, y, k, rfl, rfl, rfl, z0, z1, y0, y1, k0, k1, hj, hb⟩ := hrel
    have k2 : k < 64 := Int.not_le.1 fun c => hb.end64 c S1.out z0
    by_cases c : z % 2 = 0 ∧ y < 9223372036854775807
    · obtain ⟨c1, c2⟩ := c
      have t1 : (z % 2 == 0) = true := by rw [beq_iff_eq]; exact c1
      have t2 : decide (y < 9223372036854775807) = true := decide_eq_true c2
      have hj2 := hj.half (by omega) c1
      have hb2 := hb.half (by omega) k0 c1
      have y2 : y + 1 ≤ 9223372036854775807 := by omega
      clear c2
      go_wp2
      go_round
      case rel => exact ⟨z / 2, y + 1, k + 1, rfl, rfl, rfl, by omega, by omega, by omega, y2, by omega, by omega, hj2, hb2⟩
      case measure => simp [intOf]; omega
    · have c' : z % 2 = 1 ∨ y = 9223372036854775807 := by omega
      have tt : (z % 2 == 0) = false ∨ (z % 2 == 0) = true ∧ decide (y < 9223372036854775807) = false := by
        by_cases e : z % 2 = 0
        · right; exact ⟨by rw [beq_iff_eq]; exact e, decide_eq_false (by omega)⟩
        · left; rw [beq_eq_false_iff_ne]; exact e
      have C := hide c'
      have HB := hide hb
      clear c c' hb
      by_cases d1 : 2 * 4503599627370496 ≤ z
      · have HR := hide (hj.no64 (n := n) S0.out z0 (by have := C.out; omega))
        have u1 : decide (9007199254740992 ≤ z) = true := decide_eq_true (by omega)
        clear d1 hj
        rcases tt with t1 | ⟨t1, t2⟩
        all_goals
          go_wp2_with (first | (go_at_call 29; refine (full_64 _).mono ?_; rintro e w' ⟨rfl, rfl⟩) | (go_at_call 31; refine (top_64 _).mono ?_; rintro e w' ⟨rfl, rfl⟩) | (go_at_call 30; refine (least_64 _).mono ?_; rintro e w' ⟨rfl, rfl⟩))
          go_ret2
          exact ⟨_, _, rfl, HR.out, Below.refl _ _⟩
      · have u1 : decide (9007199254740992 ≤ z) = false := decide_eq_false (by omega)
        by_cases d2 : y < -1074
        · have HR := hide (hj.no64 (n := n) S0.out z0 (by have := C.out; omega))
          clear hj
          rcases tt with t1 | ⟨t1, t2⟩
          all_goals
            go_wp2_with (first | (go_at_call 29; refine (full_64 _).mono ?_; rintro e w' ⟨rfl, rfl⟩) | (go_at_call 31; refine (top_64 _).mono ?_; rintro e w' ⟨rfl, rfl⟩) | (go_at_call 30; refine (least_64 _).mono ?_; rintro e w' ⟨rfl, rfl⟩))
            go_ret2
            exact ⟨_, _, rfl, HR.out, Below.refl _ _⟩
        · by_cases d3 : 971 + 64 < y
          · have HR := hide (hj.no64 (n := n) S0.out z0 (by omega))
            clear hj
            rcases tt with t1 | ⟨t1, t2⟩
            all_goals
              go_wp2_with (first | (go_at_call 29; refine (full_64 _).mono ?_; rintro e w' ⟨rfl, rfl⟩) | (go_at_call 31; refine (top_64 _).mono ?_; rintro e w' ⟨rfl, rfl⟩) | (go_at_call 30; refine (least_64 _).mono ?_; rintro e w' ⟨rfl, rfl⟩))
              go_ret2
              exact ⟨_, _, rfl, HR.out, Below.refl _ _⟩
          · have Z1 : z < 2 * 4503599627370496 := by omega
            have Y0 : -1074 ≤ y := by omega
            have Y1 : y ≤ 971 + 64 := by omega
            clear d1 d2 d3 z1 y0 y1
            rcases tt with t1 | ⟨t1, t2⟩
            all_goals
              go_wp2_with (first | (go_at_call 29; refine (full_64 _).mono ?_; rintro e w' ⟨rfl, rfl⟩) | (go_at_call 31; refine (top_64 _).mono ?_; rintro e w' ⟨rfl, rfl⟩) | (go_at_call 30; refine (least_64 _).mono ?_; rintro e w' ⟨rfl, rfl⟩))
              go_loop [2, 3] (fun u v => ∃ z y : Int, u = .int .u64 z ∧ v = .int .i64 y ∧ 0 < z ∧ z < 2 * 4503599627370496 ∧ -1074 ≤ y ∧ y ≤ 971 + 64 ∧ Vg.LJ true s x z y) (fun _ v => (intOf v - (-1074)).toNat)
              case atStart => exact ⟨z, y, rfl, rfl, z0, Z1, Y0, Y1, hj⟩
              case round =>
                clear hj z0 Z1 Y0 Y1
                clear t1 u1
                obtain ⟨z, y, rfl, rfl, z0, z1, y0, y1, hj⟩ := hrel
                by_cases c : z < 4503599627370496 ∧ -1074 < y
                · obtain ⟨c1, c2⟩ := c
                  have t1 : decide (z < 4503599627370496) = true := decide_eq_true c1
                  have hj2 := hj.dbl (by omega)
                  have z2 : z * 2 < 2 * 4503599627370496 := by omega
                  clear hj c1
                  go_wp2_with (first | (go_at_call 29; refine (full_64 _).mono ?_; rintro e w' ⟨rfl, rfl⟩) | (go_at_call 31; refine (top_64 _).mono ?_; rintro e w' ⟨rfl, rfl⟩) | (go_at_call 30; refine (least_64 _).mono ?_; rintro e w' ⟨rfl, rfl⟩))
                  go_round
                  case rel => exact ⟨z * 2, y - 1, rfl, rfl, by omega, z2, by omega, by omega, hj2⟩
                  case measure => simp [intOf]; omega
                · have c' : 4503599627370496 ≤ z ∨ y = -1074 := by omega
                  have tt : decide (z < 4503599627370496) = false ∨ decide (z < 4503599627370496) = true ∧ ¬ -1074 < y := by
                    by_cases e : z < 4503599627370496
                    · right; exact ⟨decide_eq_true e, by omega⟩
                    · left; exact decide_eq_false e
                  clear c
                  by_cases d : 971 < y
                  · have HR := hide (hj.no64 (n := n) S0.out z0 (by omega))
                    have t1 : decide (z < 4503599627370496) = false := decide_eq_false (by omega)
                    clear hj c' tt
                    go_wp2_with (first | (go_at_call 29; refine (full_64 _).mono ?_; rintro e w' ⟨rfl, rfl⟩) | (go_at_call 31; refine (top_64 _).mono ?_; rintro e w' ⟨rfl, rfl⟩) | (go_at_call 30; refine (least_64 _).mono ?_; rintro e w' ⟨rfl, rfl⟩))
                    go_ret2
                    exact ⟨_, _, rfl, HR.out, Below.refl _ _⟩
                  · have HR := hide (hj.yes64 (n := n) (w := fi64 z y) S0.out z0 z1 y0 (by omega) c' rfl)
                    have y2 : y ≤ 971 := by omega
                    have B := hide (show 0 ≤ z ∧ z < 2 * 4503599627370496 ∧ -1074 ≤ y ∧ y ≤ 971 from ⟨by omega, z1, y0, y2⟩)
                    clear hj c'
                    rcases tt with t1 | ⟨t1, t2⟩
                    all_goals
                      go_wp2_with (first | (go_at_call 29; refine (full_64 _).mono ?_; rintro e w' ⟨rfl, rfl⟩) | (go_at_call 31; refine (top_64 _).mono ?_; rintro e w' ⟨rfl, rfl⟩) | (go_at_call 30; refine (least_64 _).mono ?_; rintro e w' ⟨rfl, rfl⟩))
                      refine (bits_fin64 _ _ _ B.out.1 B.out.2.1 B.out.2.2.1 B.out.2.2.2 _).mono ?_; rintro e w2 ⟨rfl, hb2⟩
                      go_wp2
                      go_ret2
                      exact ⟨_, _, rfl, HR.out, bch_one hb2⟩
theorem rjoinz64 (n : Bool) (z x : Int) (z0 : 0 ≤ z) (z1 : z ≤ 18446744073709551615) (hx : -9223372036854775808 ≤ x ∧ x ≤ 9223372036854775807) (w : World) :
    Calls Tryd.prog 8 #[.bool true, .bool n, .int .u64 z, .int .i64 x] w (ToldU (Vg.Jn64 n z.toNat x) w) := by
  obtain ⟨s, rfl⟩ := Int.eq_ofNat_of_zero_le z0
  rw [Int.toNat_natCast]
  exact rjoin64 n s x (by omega) hx w

set_option maxHeartbeats 4000000 in
theorem rjoin32 (n : Bool) (s : Nat) (x : Int) (hs : s ≤ 18446744073709551615) (hx : -9223372036854775808 ≤ x ∧ x ≤ 9223372036854775807) (w : World) :
    Calls Tryd.prog 8 #[.bool false, .bool n, .int .u64 s, .int .i64 x] w (ToldU (Vg.Jn32 n s x) w) := by
  by_cases h0 : s = 0
  · subst h0
    have HR : Hid (Vg.Jn32 n 0 x 0 true) := hide (.inl ⟨rfl, rfl, rfl⟩)
    go_enter Tryd.func8, Tryd.ntmps8
    go_wp2
    go_ret2
    exact ⟨_, _, rfl, HR.out, Below.refl _ _⟩
  have t0 : ((s : Int) == 0) = false := by rw [beq_eq_false_iff_ne]; omega
  have S0 : Hid (0 < s) := hide (by omega)
  have S1 := hide hs
  have X0 := hide hx
  have J0 := Vg.LJ.start false s x
  have B0 := Vg.LB.start s
  clear hs hx h0
  go_enter Tryd.func8, Tryd.ntmps8
  go_wp2_with (first | (go_at_call 29; refine (full_32 _).mono ?_; rintro e w' ⟨rfl, rfl⟩) | (go_at_call 31; refine (top_32 _).mono ?_; rintro e w' ⟨rfl, rfl⟩) | (go_at_call 30; refine (least_32 _).mono ?_; rintro e w' ⟨rfl, rfl⟩))
  go_loop [2, 3, 11] (fun u v i => ∃ z y k : Int, u = .int .u64 z ∧ v = .int .i64 y ∧ i = .int .i64 k ∧ 0 < z ∧ z ≤ 18446744073709551615 ∧ -9223372036854775808 ≤ y ∧ y ≤ 9223372036854775807 ∧ 0 ≤ k ∧ k ≤ 64 ∧ Vg.LJ false s x z y ∧ Vg.LB s z k) (fun _ _ i => (64 - intOf i).toNat)
  case atStart => exact ⟨s, x, 0, rfl, rfl, rfl, by have := S0.out; omega, by have := S1.out; omega, X0.out.1, X0.out.2, by omega, by omega, J0, B0⟩
  case round =>
    clear J0 B0 t0
    obtain ⟨z, y, k, rfl, rfl, rfl, z0, z1, y0, y1, k0, k1, hj, hb⟩ := hrel
    have k2 : k < 64 := Int.not_le.1 fun c => hb.end64 c S1.out z0
    by_cases c : z % 2 = 0 ∧ y < 9223372036854775807
    · obtain ⟨c1, c2⟩ := c
      have t1 : (z % 2 == 0) = true := by rw [beq_iff_eq]; exact c1
      have t2 : decide (y < 9223372036854775807) = true := decide_eq_true c2
      have hj2 := hj.half (by omega) c1
      have hb2 := hb.half (by omega) k0 c1
      have y2 : y + 1 ≤ 9223372036854775807 := by omega
      clear c2
      go_wp2
      go_round
      case rel => exact ⟨z / 2, y + 1, k + 1, rfl, rfl, rfl, by omega, by omega, by omega, y2, by omega, by omega, hj2, hb2⟩
      case measure => simp [intOf]; omega
    · have c' : z % 2 = 1 ∨ y = 9223372036854775807 := by omega
      have tt : (z % 2 == 0) = false ∨ (z % 2 == 0) = true ∧ decide (y < 9223372036854775807) = false := by
        by_cases e : z % 2 = 0
        · right; exact ⟨by rw [beq_iff_eq]; exact e, decide_eq_false (by omega)⟩
        · left; rw [beq_eq_false_iff_ne]; exact e
      have C := hide c'
      have HB := hide hb
      clear c c' hb
      by_cases d1 : 2 * 8388608 ≤ z
      · have HR := hide (hj.no32 (n := n) S0.out z0 (by have := C.out; omega))
        have u1 : decide (16777216 ≤ z) = true := decide_eq_true (by omega)
        clear d1 hj
        rcases tt with t1 | ⟨t1, t2⟩
        all_goals
          go_wp2_with (first | (go_at_call 29; refine (full_32 _).mono ?_; rintro e w' ⟨rfl, rfl⟩) | (go_at_call 31; refine (top_32 _).mono ?_; rintro e w' ⟨rfl, rfl⟩) | (go_at_call 30; refine (least_32 _).mono ?_; rintro e w' ⟨rfl, rfl⟩))
          go_ret2
          exact ⟨_, _, rfl, HR.out, Below.refl _ _⟩
      · have u1 : decide (16777216 ≤ z) = false := decide_eq_false (by omega)
        by_cases d2 : y < -149
        · have HR := hide (hj.no32 (n := n) S0.out z0 (by have := C.out; omega))
          clear hj
          rcases tt with t1 | ⟨t1, t2⟩
          all_goals
            go_wp2_with (first | (go_at_call 29; refine (full_32 _).mono ?_; rintro e w' ⟨rfl, rfl⟩) | (go_at_call 31; refine (top_32 _).mono ?_; rintro e w' ⟨rfl, rfl⟩) | (go_at_call 30; refine (least_32 _).mono ?_; rintro e w' ⟨rfl, rfl⟩))
            go_ret2
            exact ⟨_, _, rfl, HR.out, Below.refl _ _⟩
        · by_cases d3 : 104 + 64 < y
          · have HR := hide (hj.no32 (n := n) S0.out z0 (by omega))
            clear hj
            rcases tt with t1 | ⟨t1, t2⟩
            all_goals
              go_wp2_with (first | (go_at_call 29; refine (full_32 _).mono ?_; rintro e w' ⟨rfl, rfl⟩) | (go_at_call 31; refine (top_32 _).mono ?_; rintro e w' ⟨rfl, rfl⟩) | (go_at_call 30; refine (least_32 _).mono ?_; rintro e w' ⟨rfl, rfl⟩))
              go_ret2
              exact ⟨_, _, rfl, HR.out, Below.refl _ _⟩
          · have Z1 : z < 2 * 8388608 := by omega
            have Y0 : -149 ≤ y := by omega
            have Y1 : y ≤ 104 + 64 := by omega
            clear d1 d2 d3 z1 y0 y1
            rcases tt with t1 | ⟨t1, t2⟩
            all_goals
              go_wp2_with (first | (go_at_call 29; refine (full_32 _).mono ?_; rintro e w' ⟨rfl, rfl⟩) | (go_at_call 31; refine (top_32 _).mono ?_; rintro e w' ⟨rfl, rfl⟩) | (go_at_call 30; refine (least_32 _).mono ?_; rintro e w' ⟨rfl, rfl⟩))
              go_loop [2, 3] (fun u v => ∃ z y : Int, u = .int .u64 z ∧ v = .int .i64 y ∧ 0 < z ∧ z < 2 * 8388608 ∧ -149 ≤ y ∧ y ≤ 104 + 64 ∧ Vg.LJ false s x z y) (fun _ v => (intOf v - (-149)).toNat)
              case atStart => exact ⟨z, y, rfl, rfl, z0, Z1, Y0, Y1, hj⟩
              case round =>
                clear hj z0 Z1 Y0 Y1
                clear t1 u1
                obtain ⟨z, y, rfl, rfl, z0, z1, y0, y1, hj⟩ := hrel
                by_cases c : z < 8388608 ∧ -149 < y
                · obtain ⟨c1, c2⟩ := c
                  have t1 : decide (z < 8388608) = true := decide_eq_true c1
                  have hj2 := hj.dbl (by omega)
                  have z2 : z * 2 < 2 * 8388608 := by omega
                  clear hj c1
                  go_wp2_with (first | (go_at_call 29; refine (full_32 _).mono ?_; rintro e w' ⟨rfl, rfl⟩) | (go_at_call 31; refine (top_32 _).mono ?_; rintro e w' ⟨rfl, rfl⟩) | (go_at_call 30; refine (least_32 _).mono ?_; rintro e w' ⟨rfl, rfl⟩))
                  go_round
                  case rel => exact ⟨z * 2, y - 1, rfl, rfl, by omega, z2, by omega, by omega, hj2⟩
                  case measure => simp [intOf]; omega
                · have c' : 8388608 ≤ z ∨ y = -149 := by omega
                  have tt : decide (z < 8388608) = false ∨ decide (z < 8388608) = true ∧ ¬ -149 < y := by
                    by_cases e : z < 8388608
                    · right; exact ⟨decide_eq_true e, by omega⟩
                    · left; exact decide_eq_false e
                  clear c
                  by_cases d : 104 < y
                  · have HR := hide (hj.no32 (n := n) S0.out z0 (by omega))
                    have t1 : decide (z < 8388608) = false := decide_eq_false (by omega)
                    clear hj c' tt
                    go_wp2_with (first | (go_at_call 29; refine (full_32 _).mono ?_; rintro e w' ⟨rfl, rfl⟩) | (go_at_call 31; refine (top_32 _).mono ?_; rintro e w' ⟨rfl, rfl⟩) | (go_at_call 30; refine (least_32 _).mono ?_; rintro e w' ⟨rfl, rfl⟩))
                    go_ret2
                    exact ⟨_, _, rfl, HR.out, Below.refl _ _⟩
                  · have HR := hide (hj.yes32 (n := n) (w := fi32 z y) S0.out z0 z1 y0 (by omega) c' rfl)
                    have y2 : y ≤ 104 := by omega
                    have B := hide (show 0 ≤ z ∧ z < 2 * 8388608 ∧ -149 ≤ y ∧ y ≤ 104 from ⟨by omega, z1, y0, y2⟩)
                    clear hj c'
                    rcases tt with t1 | ⟨t1, t2⟩
                    all_goals
                      go_wp2_with (first | (go_at_call 29; refine (full_32 _).mono ?_; rintro e w' ⟨rfl, rfl⟩) | (go_at_call 31; refine (top_32 _).mono ?_; rintro e w' ⟨rfl, rfl⟩) | (go_at_call 30; refine (least_32 _).mono ?_; rintro e w' ⟨rfl, rfl⟩))
                      refine (bits_fin32 _ _ _ B.out.1 B.out.2.1 B.out.2.2.1 B.out.2.2.2 _).mono ?_; rintro e w2 ⟨rfl, hb2⟩
                      go_wp2
                      go_ret2
                      exact ⟨_, _, rfl, HR.out, bch_one hb2⟩
theorem rjoinz32 (n : Bool) (z x : Int) (z0 : 0 ≤ z) (z1 : z ≤ 18446744073709551615) (hx : -9223372036854775808 ≤ x ∧ x ≤ 9223372036854775807) (w : World) :
    Calls Tryd.prog 8 #[.bool false, .bool n, .int .u64 z, .int .i64 x] w (ToldU (Vg.Jn32 n z.toNat x) w) := by
  obtain ⟨s, rfl⟩ := Int.eq_ofNat_of_zero_le z0
  rw [Int.toNat_natCast]
  exact rjoin32 n s x (by omega) hx w

end Go.Proofs.YtmhmphkaejnojaaDoor

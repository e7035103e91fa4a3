/- Contracts of the reference's Of. -/
import Derived.Test.YtgehcnlfplcaaaaWJoinR
import Derived.Test.YtgehcnlfplcaaaaWOf
namespace Go.Proofs.Ytgehcnlfplcaaaa
open Go.RowKit

set_option maxHeartbeats 4000000 in
theorem rof64 (n : Int) (h1 : -9223372036854775808 ≤ n) (h2 : n ≤ 9223372036854775807) (w : World) :
    Calls Try.prog 35 #[.bool true, .int .i64 n] w (ToldU (Vg.IOf true n) w) := by
  obtain ⟨m, hm⟩ : ∃ m : Nat, n.natAbs = m := ⟨_, rfl⟩
  have m1 : m ≤ 9223372036854775808 := by omega
  have hH := Vg.HI.start true m
  have key : ∀ k z t u : Int, 0 ≤ k → 0 ≤ z → 0 ≤ t → 0 ≤ u → Vg.HI true m k.toNat z.toNat t.toNat u.toNat → z < 2 * 4503599627370496 → ∀ y o, Vg.Jn64 (decide (n < 0)) (z + if u < 2 * t ∨ 2 * t = u ∧ z % 2 = 1 then 1 else 0).toNat k y o → Vg.IOf true n y (decide (t = 0)) := by
    intro k z t u k0 z0 t0 u0 h hz y o hj
    have e : (z + if u < 2 * t ∨ 2 * t = u ∧ z % 2 = 1 then 1 else 0).toNat = z.toNat + if u.toNat < 2 * t.toNat ∨ 2 * t.toNat = u.toNat ∧ z.toNat % 2 = 1 then 1 else 0 := by split <;> split <;> omega
    rw [e, show k = (k.toNat : Int) by omega] at hj
    have := Vg.of_join64 h1 h2 (by rw [hm]; exact h) (by omega) hj
    rwa [show decide (t.toNat = 0) = decide (t = 0) by rw [decide_eq_decide]; exact ⟨fun h => by omega, fun h => by omega⟩] at this
  have KEY := hide key
  clear key
  have hp : decide (n < 0) = true ∧ (n = -(m : Int) ∧ 0 < m) ∨ decide (n < 0) = false ∧ n = m := by
    by_cases c : n < 0
    · left; exact ⟨decide_eq_true c, by omega, by omega⟩
    · right; exact ⟨decide_eq_false c, by omega⟩
  rcases hp with ⟨hd, hn⟩ | ⟨hd, hn⟩
  all_goals
    rw [hd] at KEY
    first
      | (have e2 : IntKind.u64.wrap n = (m : Int) := by rw [IntKind.wrap_u64]; omega)
      | (have e2 : IntKind.u64.wrap n = 18446744073709551616 - (m : Int) := by rw [IntKind.wrap_u64]; omega
         have e3 : IntKind.u64.wrap (-(18446744073709551616 - (m : Int))) = m := by rw [IntKind.wrap_u64]; omega)
    clear hm hn
    go_enter Try.func35, Try.ntmps35
    go_wp2
    go_loop [7, 8, 9, 10] (fun a b c d => ∃ z k t u : Int, a = .int .u64 z ∧ b = .int .i64 k ∧ c = .int .u64 t ∧ d = .int .u64 u ∧ 0 ≤ k ∧ 0 ≤ z ∧ 0 ≤ t ∧ 0 ≤ u ∧ Vg.HI true m k.toNat z.toNat t.toNat u.toNat) (fun a _ _ _ => (intOf a).toNat)
    case atStart => exact ⟨m, 0, 0, 1, rfl, rfl, rfl, rfl, by omega, by omega, by omega, by omega, by rw [Int.toNat_natCast]; exact hH⟩
    case round =>
      clear hH
      obtain ⟨z, k, t, u, rfl, rfl, rfl, rfl, k0, z0, t0, u0, hi⟩ := hrel
      obtain ⟨k1, t1, u1, u2, z1⟩ := hi.bdz z0 t0 u0 (by omega)
      have z2 : z ≤ 9223372036854775808 := by omega
      by_cases c : 9007199254740992 ≤ z
      · have d1 : decide (9007199254740992 ≤ z) = true := decide_eq_true c
        have z4 : 1 ≤ z := by omega
        have hs := hi.stepz k0 z0 t0 u0 (by have : Vg.FULL true = 4503599627370496 := rfl
                                            rw [this]; omega)
        by_cases o : z % 2 = 0
        · rw [if_pos o] at hs
          clear c
          go_wp2_with (first | (go_at_call 103; refine (full_64 _).mono ?_; rintro e w' ⟨rfl, rfl⟩) | (go_at_call 109; refine (top_64 _).mono ?_; rintro e w' ⟨rfl, rfl⟩) | (go_at_call 110; refine (least_64 _).mono ?_; rintro e w' ⟨rfl, rfl⟩))
          go_round
          case rel => exact ⟨z / 2, k + 1, t, u * 2, rfl, rfl, by simp, rfl, by omega, by omega, t0, by omega, hs⟩
          case measure => simp [intOf]; omega
        · rw [if_neg o] at hs
          have o1 : z % 2 = 1 := by omega
          clear c o
          go_wp2_with (first | (go_at_call 103; refine (full_64 _).mono ?_; rintro e w' ⟨rfl, rfl⟩) | (go_at_call 109; refine (top_64 _).mono ?_; rintro e w' ⟨rfl, rfl⟩) | (go_at_call 110; refine (least_64 _).mono ?_; rintro e w' ⟨rfl, rfl⟩))
          go_round
          case rel => exact ⟨z / 2, k + 1, t + u, u * 2, rfl, rfl, by simp, rfl, by omega, by omega, by omega, by omega, hs⟩
          case measure => simp [intOf]; omega
      · have d1 : decide (9007199254740992 ≤ z) = false := decide_eq_false c
        have z3 : z < 2 * 4503599627370496 := by omega
        have K := KEY.out k z t u k0 z0 t0 u0 hi z3
        clear c hi
        by_cases c1 : u < 2 * t
        · rw [if_pos (.inl c1)] at K
          have HK := hide K
          clear K
          go_wp2_with (first | (go_at_call 103; refine (full_64 _).mono ?_; rintro e w' ⟨rfl, rfl⟩) | (go_at_call 109; refine (top_64 _).mono ?_; rintro e w' ⟨rfl, rfl⟩) | (go_at_call 110; refine (least_64 _).mono ?_; rintro e w' ⟨rfl, rfl⟩))
          refine (rjoinz64 _ _ _ (by omega) (by omega) ⟨by omega, by omega⟩ _).mono ?_; rintro e w1 ⟨y, o, rfl, hj, hb1⟩
          have HR := hide (HK.out _ _ hj)
          clear hj
          go_wp2
          go_ret2
          exact ⟨_, _, rfl, HR.out, bch_one hb1⟩
        · by_cases c2 : 2 * t = u
          · by_cases c3 : z % 2 = 1
            · rw [if_pos (.inr ⟨c2, c3⟩)] at K
              have HK := hide K
              clear K
              go_wp2_with (first | (go_at_call 103; refine (full_64 _).mono ?_; rintro e w' ⟨rfl, rfl⟩) | (go_at_call 109; refine (top_64 _).mono ?_; rintro e w' ⟨rfl, rfl⟩) | (go_at_call 110; refine (least_64 _).mono ?_; rintro e w' ⟨rfl, rfl⟩))
              refine (rjoinz64 _ _ _ (by omega) (by omega) ⟨by omega, by omega⟩ _).mono ?_; rintro e w1 ⟨y, o, rfl, hj, hb1⟩
              have HR := hide (HK.out _ _ hj)
              clear hj
              go_wp2
              go_ret2
              exact ⟨_, _, rfl, HR.out, bch_one hb1⟩
            · rw [if_neg (by omega), Int.add_zero] at K
              have HK := hide K
              have c4 : (2 * t == u) = true := by rw [beq_iff_eq]; exact c2
              have c5 : (z % 2 == 1) = false := by rw [beq_eq_false_iff_ne]; exact c3
              clear K c2
              go_wp2_with (first | (go_at_call 103; refine (full_64 _).mono ?_; rintro e w' ⟨rfl, rfl⟩) | (go_at_call 109; refine (top_64 _).mono ?_; rintro e w' ⟨rfl, rfl⟩) | (go_at_call 110; refine (least_64 _).mono ?_; rintro e w' ⟨rfl, rfl⟩))
              refine (rjoinz64 _ _ _ (by omega) (by omega) ⟨by omega, by omega⟩ _).mono ?_; rintro e w1 ⟨y, o, rfl, hj, hb1⟩
              have HR := hide (HK.out _ _ hj)
              clear hj
              go_wp2
              go_ret2
              exact ⟨_, _, rfl, HR.out, bch_one hb1⟩
          · rw [if_neg (by omega), Int.add_zero] at K
            have HK := hide K
            have c4 : (2 * t == u) = false := by rw [beq_eq_false_iff_ne]; exact c2
            clear K c2
            go_wp2_with (first | (go_at_call 103; refine (full_64 _).mono ?_; rintro e w' ⟨rfl, rfl⟩) | (go_at_call 109; refine (top_64 _).mono ?_; rintro e w' ⟨rfl, rfl⟩) | (go_at_call 110; refine (least_64 _).mono ?_; rintro e w' ⟨rfl, rfl⟩))
            refine (rjoinz64 _ _ _ (by omega) (by omega) ⟨by omega, by omega⟩ _).mono ?_; rintro e w1 ⟨y, o, rfl, hj, hb1⟩
            have HR := hide (HK.out _ _ hj)
            clear hj
            go_wp2
            go_ret2
            exact ⟨_, _, rfl, HR.out, bch_one hb1⟩

set_option maxHeartbeats 4000000 in
theorem rof32 (n : Int) (h1 : -9223372036854775808 ≤ n) (h2 : n ≤ 9223372036854775807) (w : World) :
    Calls Try.prog 35 #[.bool false, .int .i64 n] w (ToldU (Vg.IOf false n) w) := by
  obtain ⟨m, hm⟩ : ∃ m : Nat, n.natAbs = m := ⟨_, rfl⟩
  have m1 : m ≤ 9223372036854775808 := by omega
  have hH := Vg.HI.start false m
  have key : ∀ k z t u : Int, 0 ≤ k → 0 ≤ z → 0 ≤ t → 0 ≤ u → Vg.HI false m k.toNat z.toNat t.toNat u.toNat → z < 2 * 8388608 → ∀ y o, Vg.Jn32 (decide (n < 0)) (z + if u < 2 * t ∨ 2 * t = u ∧ z % 2 = 1 then 1 else 0).toNat k y o → Vg.IOf false n y (decide (t = 0)) := by
    intro k z t u k0 z0 t0 u0 h hz y o hj
    have e : (z + if u < 2 * t ∨ 2 * t = u ∧ z % 2 = 1 then 1 else 0).toNat = z.toNat + if u.toNat < 2 * t.toNat ∨ 2 * t.toNat = u.toNat ∧ z.toNat % 2 = 1 then 1 else 0 := by split <;> split <;> omega
    rw [e, show k = (k.toNat : Int) by omega] at hj
    have := Vg.of_join32 h1 h2 (by rw [hm]; exact h) (by omega) hj
    rwa [show decide (t.toNat = 0) = decide (t = 0) by rw [decide_eq_decide]; exact ⟨fun h => by omega, fun h => by omega⟩] at this
  have KEY := hide key
  clear key
  have hp : decide (n < 0) = true ∧ (n = -(m : Int) ∧ 0 < m) ∨ decide (n < 0) = false ∧ n = m := by
    by_cases c : n < 0
    · left; exact ⟨decide_eq_true c, by omega, by omega⟩
    · right; exact ⟨decide_eq_false c, by omega⟩
  rcases hp with ⟨hd, hn⟩ | ⟨hd, hn⟩
  all_goals
    rw [hd] at KEY
    first
      | (have e2 : IntKind.u64.wrap n = (m : Int) := by rw [IntKind.wrap_u64]; omega)
      | (have e2 : IntKind.u64.wrap n = 18446744073709551616 - (m : Int) := by rw [IntKind.wrap_u64]; omega
         have e3 : IntKind.u64.wrap (-(18446744073709551616 - (m : Int))) = m := by rw [IntKind.wrap_u64]; omega)
    clear hm hn
    go_enter Try.func35, Try.ntmps35
    go_wp2
    go_loop [7, 8, 9, 10] (fun a b c d => ∃ z k t u : Int, a = .int .u64 z ∧ b = .int .i64 k ∧ c = .int .u64 t ∧ d = .int .u64 u ∧ 0 ≤ k ∧ 0 ≤ z ∧ 0 ≤ t ∧ 0 ≤ u ∧ Vg.HI false m k.toNat z.toNat t.toNat u.toNat) (fun a _ _ _ => (intOf a).toNat)
    case atStart => exact ⟨m, 0, 0, 1, rfl, rfl, rfl, rfl, by omega, by omega, by omega, by omega, by rw [Int.toNat_natCast]; exact hH⟩
    case round =>
      clear hH
      obtain ⟨z, k, t, u, rfl, rfl, rfl, rfl, k0, z0, t0, u0, hi⟩ := hrel
      obtain ⟨k1, t1, u1, u2, z1⟩ := hi.bdz z0 t0 u0 (by omega)
      have z2 : z ≤ 9223372036854775808 := by omega
      by_cases c : 16777216 ≤ z
      · have d1 : decide (16777216 ≤ z) = true := decide_eq_true c
        have z4 : 1 ≤ z := by omega
        have hs := hi.stepz k0 z0 t0 u0 (by have : Vg.FULL false = 8388608 := rfl
                                            rw [this]; omega)
        by_cases o : z % 2 = 0
        · rw [if_pos o] at hs
          clear c
          go_wp2_with (first | (go_at_call 103; refine (full_32 _).mono ?_; rintro e w' ⟨rfl, rfl⟩) | (go_at_call 109; refine (top_32 _).mono ?_; rintro e w' ⟨rfl, rfl⟩) | (go_at_call 110; refine (least_32 _).mono ?_; rintro e w' ⟨rfl, rfl⟩))
          go_round
          case rel => exact ⟨z / 2, k + 1, t, u * 2, rfl, rfl, by simp, rfl, by omega, by omega, t0, by omega, hs⟩
          case measure => simp [intOf]; omega
        · rw [if_neg o] at hs
          have o1 : z % 2 = 1 := by omega
          clear c o
          go_wp2_with (first | (go_at_call 103; refine (full_32 _).mono ?_; rintro e w' ⟨rfl, rfl⟩) | (go_at_call 109; refine (top_32 _).mono ?_; rintro e w' ⟨rfl, rfl⟩) | (go_at_call 110; refine (least_32 _).mono ?_; rintro e w' ⟨rfl, rfl⟩))
          go_round
          case rel => exact ⟨z / 2, k + 1, t + u, u * 2, rfl, rfl, by simp, rfl, by omega, by omega, by omega, by omega, hs⟩
          case measure => simp [intOf]; omega
      · have d1 : decide (16777216 ≤ z) = false := decide_eq_false c
        have z3 : z < 2 * 8388608 := by omega
        have K := KEY.out k z t u k0 z0 t0 u0 hi z3
        clear c hi
        by_cases c1 : u < 2 * t
        · rw [if_pos (.inl c1)] at K
          have HK := hide K
          clear K
          go_wp2_with (first | (go_at_call 103; refine (full_32 _).mono ?_; rintro e w' ⟨rfl, rfl⟩) | (go_at_call 109; refine (top_32 _).mono ?_; rintro e w' ⟨rfl, rfl⟩) | (go_at_call 110; refine (least_32 _).mono ?_; rintro e w' ⟨rfl, rfl⟩))
          refine (rjoinz32 _ _ _ (by omega) (by omega) ⟨by omega, by omega⟩ _).mono ?_; rintro e w1 ⟨y, o, rfl, hj, hb1⟩
          have HR := hide (HK.out _ _ hj)
          clear hj
          go_wp2
          go_ret2
          exact ⟨_, _, rfl, HR.out, bch_one hb1⟩
        · by_cases c2 : 2 * t = u
          · by_cases c3 : z % 2 = 1
            · rw [if_pos (.inr ⟨c2, c3⟩)] at K
              have HK := hide K
              clear K
              go_wp2_with (first | (go_at_call 103; refine (full_32 _).mono ?_; rintro e w' ⟨rfl, rfl⟩) | (go_at_call 109; refine (top_32 _).mono ?_; rintro e w' ⟨rfl, rfl⟩) | (go_at_call 110; refine (least_32 _).mono ?_; rintro e w' ⟨rfl, rfl⟩))
              refine (rjoinz32 _ _ _ (by omega) (by omega) ⟨by omega, by omega⟩ _).mono ?_; rintro e w1 ⟨y, o, rfl, hj, hb1⟩
              have HR := hide (HK.out _ _ hj)
              clear hj
              go_wp2
              go_ret2
              exact ⟨_, _, rfl, HR.out, bch_one hb1⟩
            · rw [if_neg (by omega), Int.add_zero] at K
              have HK := hide K
              have c4 : (2 * t == u) = true := by rw [beq_iff_eq]; exact c2
              have c5 : (z % 2 == 1) = false := by rw [beq_eq_false_iff_ne]; exact c3
              clear K c2
              go_wp2_with (first | (go_at_call 103; refine (full_32 _).mono ?_; rintro e w' ⟨rfl, rfl⟩) | (go_at_call 109; refine (top_32 _).mono ?_; rintro e w' ⟨rfl, rfl⟩) | (go_at_call 110; refine (least_32 _).mono ?_; rintro e w' ⟨rfl, rfl⟩))
              refine (rjoinz32 _ _ _ (by omega) (by omega) ⟨by omega, by omega⟩ _).mono ?_; rintro e w1 ⟨y, o, rfl, hj, hb1⟩
              have HR := hide (HK.out _ _ hj)
              clear hj
              go_wp2
              go_ret2
              exact ⟨_, _, rfl, HR.out, bch_one hb1⟩
          · rw [if_neg (by omega), Int.add_zero] at K
            have HK := hide K
            have c4 : (2 * t == u) = false := by rw [beq_eq_false_iff_ne]; exact c2
            clear K c2
            go_wp2_with (first | (go_at_call 103; refine (full_32 _).mono ?_; rintro e w' ⟨rfl, rfl⟩) | (go_at_call 109; refine (top_32 _).mono ?_; rintro e w' ⟨rfl, rfl⟩) | (go_at_call 110; refine (least_32 _).mono ?_; rintro e w' ⟨rfl, rfl⟩))
            refine (rjoinz32 _ _ _ (by omega) (by omega) ⟨by omega, by omega⟩ _).mono ?_; rintro e w1 ⟨y, o, rfl, hj, hb1⟩
            have HR := hide (HK.out _ _ hj)
            clear hj
            go_wp2
            go_ret2
            exact ⟨_, _, rfl, HR.out, bch_one hb1⟩

theorem iof_ok64 {n : Int} (h1 : -9223372036854775808 ≤ n) (h2 : n ≤ 9223372036854775807) {z : Int} {o : Bool} (h : Vg.IOf true n z o) : IsOk64 z.toNat z := by
  have := h.bd h1 h2
  simp only [Vg.S, if_true] at this
  exact ⟨by omega, by omega, by omega, .inr ⟨this.2.2, by omega⟩⟩

theorem iof_ok32 {n : Int} (h1 : -9223372036854775808 ≤ n) (h2 : n ≤ 9223372036854775807) {z : Int} {o : Bool} (h : Vg.IOf false n z o) : IsOk32 z.toNat z := by
  have := h.bd h1 h2
  simp only [Vg.S, Bool.false_eq_true, if_false] at this
  exact ⟨by omega, by omega, by omega, .inr ⟨this.2.2, by omega⟩⟩

end Go.Proofs.Ytgehcnlfplcaaaa

/- Contracts of the reference's At. -/
import Derived.Test.YtgehcnlfplcaaaaWAt
namespace Go.Proofs.Ytgehcnlfplcaaaa
open Go.RowKit

theorem bch_one {w w1 : World} {o : Obj} (h : Below (w.alloc o).heap.size (w.alloc o) w1) : Below w.heap.size w w1 := ((Below.refl _ _).alloc (Nat.le_refl _) o).trans (h.mono (by simp))

theorem fi_small64 (m : Int) : fi64 m (-1074) = m := by unfold fi64; split <;> omega
theorem fi_great64 (m q : Int) (hq : m / 4503599627370496 = q) : fi64 (m - (q - 1) * 4503599627370496) (-1074 + (q - 1)) = m := by
  unfold fi64; split <;> omega

set_option maxHeartbeats 1000000 in
theorem rat64p (m : Nat) (hm : m ≤ 9218868437227405312) (t1 : decide (9218868437227405312 < (m : Int)) = false) (t2 : decide ((m : Int) < -9218868437227405312) = false) (t3 : decide ((m : Int) < 0) = false) (HR : Hid (IsAt64 (m : Int) (sn64 false m) true)) (w : World) :
    Calls Try.prog 40 #[.bool true, .int .i64 (m : Int)] w (ToldU (IsAt64 (m : Int)) w) := by
  by_cases c1 : m = 9218868437227405312
  · have t4 : ((m : Int) == 9218868437227405312) = true := by rw [beq_iff_eq]; omega
    have hm' : (m : Int) = 9218868437227405312 := by omega
    have HR2 := hide (show IsAt64 (m : Int) (sn64 false 9218868437227405312) true by rw [← hm']; exact HR.out)
    clear hm'
    clear c1 HR
    go_enter Try.func40, Try.ntmps40
    go_wp2_with (first | (go_at_call 103; refine (full_64 _).mono ?_; rintro e w' ⟨rfl, rfl⟩) | (go_at_call 109; refine (top_64 _).mono ?_; rintro e w' ⟨rfl, rfl⟩) | (go_at_call 110; refine (least_64 _).mono ?_; rintro e w' ⟨rfl, rfl⟩))
    refine (bits_inf64 _ _ _ _).mono ?_; rintro e w2 ⟨rfl, hb2⟩
    go_wp2
    go_ret2
    exact ⟨_, _, rfl, HR2.out, bch_one hb2⟩
  · have t4 : ((m : Int) == 9218868437227405312) = false := by rw [beq_eq_false_iff_ne]; omega
    by_cases c2 : 2 * 4503599627370496 ≤ (m : Int)
    · have t5 : decide (9007199254740992 ≤ (m : Int)) = true := decide_eq_true (by omega)
      obtain ⟨q, e8⟩ : ∃ q, (m : Int) / 4503599627370496 = q := ⟨_, rfl⟩
      have q0 : 2 ≤ q := by omega
      have q1 : q < 2047 := by omega
      have q2 : q * 4503599627370496 ≤ m := by omega
      have q3 : m < (q + 1) * 4503599627370496 := by omega
      have HR2 := hide (show IsAt64 (m : Int) (sn64 false (fi64 ((m : Int) - (q - 1) * 4503599627370496) (-1074 + (q - 1)))) true by rw [fi_great64 m q e8]; exact HR.out)
      clear c1 c2 HR
      go_enter Try.func40, Try.ntmps40
      go_wp2_with (first | (go_at_call 103; refine (full_64 _).mono ?_; rintro e w' ⟨rfl, rfl⟩) | (go_at_call 109; refine (top_64 _).mono ?_; rintro e w' ⟨rfl, rfl⟩) | (go_at_call 110; refine (least_64 _).mono ?_; rintro e w' ⟨rfl, rfl⟩))
      refine (bits_fin64 _ _ _ (by omega) (by omega) (by omega) (by omega) _).mono ?_; rintro e w2 ⟨rfl, hb2⟩
      go_wp2
      go_ret2
      exact ⟨_, _, rfl, HR2.out, bch_one hb2⟩
    · have t5 : decide (9007199254740992 ≤ (m : Int)) = false := decide_eq_false (by omega)
      have HR2 := hide (show IsAt64 (m : Int) (sn64 false (fi64 (m : Int) (-1074))) true by rw [fi_small64]; exact HR.out)
      have c3 : (m : Int) < 2 * 4503599627370496 := by omega
      clear c1 c2 HR
      go_enter Try.func40, Try.ntmps40
      go_wp2_with (first | (go_at_call 103; refine (full_64 _).mono ?_; rintro e w' ⟨rfl, rfl⟩) | (go_at_call 109; refine (top_64 _).mono ?_; rintro e w' ⟨rfl, rfl⟩) | (go_at_call 110; refine (least_64 _).mono ?_; rintro e w' ⟨rfl, rfl⟩))
      refine (bits_fin64 _ _ _ (by omega) (by omega) (by omega) (by omega) _).mono ?_; rintro e w2 ⟨rfl, hb2⟩
      go_wp2
      go_ret2
      exact ⟨_, _, rfl, HR2.out, bch_one hb2⟩

set_option maxHeartbeats 1000000 in
theorem rat64n (p : Int) (m : Nat) (hm : m ≤ 9218868437227405312) (t1 : decide (9218868437227405312 < p) = false) (t2 : decide (p < -9218868437227405312) = false) (t3 : decide (p < 0) = true) (e6 : -p = (m : Int)) (e7 : wrap64 (-p) = (m : Int)) (HR : Hid (IsAt64 p (sn64 true m) true)) (w : World) :
    Calls Try.prog 40 #[.bool true, .int .i64 p] w (ToldU (IsAt64 p) w) := by
  by_cases c1 : m = 9218868437227405312
  · have t4 : ((m : Int) == 9218868437227405312) = true := by rw [beq_iff_eq]; omega
    have hm' : (m : Int) = 9218868437227405312 := by omega
    have HR2 := hide (show IsAt64 p (sn64 true 9218868437227405312) true by rw [← hm']; exact HR.out)
    clear hm'
    clear c1 HR
    go_enter Try.func40, Try.ntmps40
    go_wp2_with (first | (go_at_call 103; refine (full_64 _).mono ?_; rintro e w' ⟨rfl, rfl⟩) | (go_at_call 109; refine (top_64 _).mono ?_; rintro e w' ⟨rfl, rfl⟩) | (go_at_call 110; refine (least_64 _).mono ?_; rintro e w' ⟨rfl, rfl⟩))
    refine (bits_inf64 _ _ _ _).mono ?_; rintro e w2 ⟨rfl, hb2⟩
    go_wp2
    go_ret2
    exact ⟨_, _, rfl, HR2.out, bch_one hb2⟩
  · have t4 : ((m : Int) == 9218868437227405312) = false := by rw [beq_eq_false_iff_ne]; omega
    by_cases c2 : 2 * 4503599627370496 ≤ (m : Int)
    · have t5 : decide (9007199254740992 ≤ (m : Int)) = true := decide_eq_true (by omega)
      obtain ⟨q, e8⟩ : ∃ q, (m : Int) / 4503599627370496 = q := ⟨_, rfl⟩
      have q0 : 2 ≤ q := by omega
      have q1 : q < 2047 := by omega
      have q2 : q * 4503599627370496 ≤ m := by omega
      have q3 : m < (q + 1) * 4503599627370496 := by omega
      have HR2 := hide (show IsAt64 p (sn64 true (fi64 ((m : Int) - (q - 1) * 4503599627370496) (-1074 + (q - 1)))) true by rw [fi_great64 m q e8]; exact HR.out)
      clear c1 c2 HR
      go_enter Try.func40, Try.ntmps40
      go_wp2_with (first | (go_at_call 103; refine (full_64 _).mono ?_; rintro e w' ⟨rfl, rfl⟩) | (go_at_call 109; refine (top_64 _).mono ?_; rintro e w' ⟨rfl, rfl⟩) | (go_at_call 110; refine (least_64 _).mono ?_; rintro e w' ⟨rfl, rfl⟩))
      refine (bits_fin64 _ _ _ (by omega) (by omega) (by omega) (by omega) _).mono ?_; rintro e w2 ⟨rfl, hb2⟩
      go_wp2
      go_ret2
      exact ⟨_, _, rfl, HR2.out, bch_one hb2⟩
    · have t5 : decide (9007199254740992 ≤ (m : Int)) = false := decide_eq_false (by omega)
      have HR2 := hide (show IsAt64 p (sn64 true (fi64 (m : Int) (-1074))) true by rw [fi_small64]; exact HR.out)
      have c3 : (m : Int) < 2 * 4503599627370496 := by omega
      clear c1 c2 HR
      go_enter Try.func40, Try.ntmps40
      go_wp2_with (first | (go_at_call 103; refine (full_64 _).mono ?_; rintro e w' ⟨rfl, rfl⟩) | (go_at_call 109; refine (top_64 _).mono ?_; rintro e w' ⟨rfl, rfl⟩) | (go_at_call 110; refine (least_64 _).mono ?_; rintro e w' ⟨rfl, rfl⟩))
      refine (bits_fin64 _ _ _ (by omega) (by omega) (by omega) (by omega) _).mono ?_; rintro e w2 ⟨rfl, hb2⟩
      go_wp2
      go_ret2
      exact ⟨_, _, rfl, HR2.out, bch_one hb2⟩

set_option maxHeartbeats 1000000 in
theorem rat64 (p : Int) (hp : -9223372036854775808 ≤ p ∧ p ≤ 9223372036854775807) (w : World) :
    Calls Try.prog 40 #[.bool true, .int .i64 p] w (ToldU (IsAt64 p) w) := by
  by_cases h1 : -9218868437227405312 ≤ p ∧ p ≤ 9218868437227405312
  · by_cases h2 : p < 0
    · refine rat64n p (-p).toNat (by omega) (decide_eq_false (by omega)) (decide_eq_false (by omega)) (decide_eq_true h2) (by omega) (by unfold wrap64; omega) (.inl ⟨h1, rfl, ?_⟩) w
      rw [if_pos h2]; simp only [sn64, if_true]; omega
    · obtain ⟨m, rfl⟩ := Int.eq_ofNat_of_zero_le (Int.not_lt.1 h2)
      refine rat64p m (by omega) (decide_eq_false (by omega)) (decide_eq_false (by omega)) (decide_eq_false h2) (.inl ⟨h1, rfl, ?_⟩) w
      rw [if_neg h2]; simp only [sn64, Bool.false_eq_true, if_false]
  · have HR := hide (show IsAt64 p 0 false from .inr ⟨h1, rfl, rfl⟩)
    by_cases h2 : 9218868437227405312 < p
    · have t1 : decide (9218868437227405312 < p) = true := decide_eq_true h2
      clear h1 h2 hp
      go_enter Try.func40, Try.ntmps40
      go_wp2_with (first | (go_at_call 103; refine (full_64 _).mono ?_; rintro e w' ⟨rfl, rfl⟩) | (go_at_call 109; refine (top_64 _).mono ?_; rintro e w' ⟨rfl, rfl⟩) | (go_at_call 110; refine (least_64 _).mono ?_; rintro e w' ⟨rfl, rfl⟩))
      go_ret2
      exact ⟨_, _, rfl, HR.out, Below.refl _ _⟩
    · have t1 : decide (9218868437227405312 < p) = false := decide_eq_false h2
      have t2 : decide (p < -9218868437227405312) = true := decide_eq_true (by omega)
      clear h1 h2 hp
      go_enter Try.func40, Try.ntmps40
      go_wp2_with (first | (go_at_call 103; refine (full_64 _).mono ?_; rintro e w' ⟨rfl, rfl⟩) | (go_at_call 109; refine (top_64 _).mono ?_; rintro e w' ⟨rfl, rfl⟩) | (go_at_call 110; refine (least_64 _).mono ?_; rintro e w' ⟨rfl, rfl⟩))
      go_ret2
      exact ⟨_, _, rfl, HR.out, Below.refl _ _⟩

theorem fi_small32 (m : Int) : fi32 m (-149) = m := by unfold fi32; split <;> omega
theorem fi_great32 (m q : Int) (hq : m / 8388608 = q) : fi32 (m - (q - 1) * 8388608) (-149 + (q - 1)) = m := by
  unfold fi32; split <;> omega

set_option maxHeartbeats 1000000 in
theorem rat32p (m : Nat) (hm : m ≤ 2139095040) (t1 : decide (2139095040 < (m : Int)) = false) (t2 : decide ((m : Int) < -2139095040) = false) (t3 : decide ((m : Int) < 0) = false) (HR : Hid (IsAt32 (m : Int) (sn32 false m) true)) (w : World) :
    Calls Try.prog 40 #[.bool false, .int .i64 (m : Int)] w (ToldU (IsAt32 (m : Int)) w) := by
  by_cases c1 : m = 2139095040
  · have t4 : ((m : Int) == 2139095040) = true := by rw [beq_iff_eq]; omega
    have hm' : (m : Int) = 2139095040 := by omega
    have HR2 := hide (show IsAt32 (m : Int) (sn32 false 2139095040) true by rw [← hm']; exact HR.out)
    clear hm'
    clear c1 HR
    go_enter Try.func40, Try.ntmps40
    go_wp2_with (first | (go_at_call 103; refine (full_32 _).mono ?_; rintro e w' ⟨rfl, rfl⟩) | (go_at_call 109; refine (top_32 _).mono ?_; rintro e w' ⟨rfl, rfl⟩) | (go_at_call 110; refine (least_32 _).mono ?_; rintro e w' ⟨rfl, rfl⟩))
    refine (bits_inf32 _ _ _ _).mono ?_; rintro e w2 ⟨rfl, hb2⟩
    go_wp2
    go_ret2
    exact ⟨_, _, rfl, HR2.out, bch_one hb2⟩
  · have t4 : ((m : Int) == 2139095040) = false := by rw [beq_eq_false_iff_ne]; omega
    by_cases c2 : 2 * 8388608 ≤ (m : Int)
    · have t5 : decide (16777216 ≤ (m : Int)) = true := decide_eq_true (by omega)
      obtain ⟨q, e8⟩ : ∃ q, (m : Int) / 8388608 = q := ⟨_, rfl⟩
      have q0 : 2 ≤ q := by omega
      have q1 : q < 255 := by omega
      have q2 : q * 8388608 ≤ m := by omega
      have q3 : m < (q + 1) * 8388608 := by omega
      have HR2 := hide (show IsAt32 (m : Int) (sn32 false (fi32 ((m : Int) - (q - 1) * 8388608) (-149 + (q - 1)))) true by rw [fi_great32 m q e8]; exact HR.out)
      clear c1 c2 HR
      go_enter Try.func40, Try.ntmps40
      go_wp2_with (first | (go_at_call 103; refine (full_32 _).mono ?_; rintro e w' ⟨rfl, rfl⟩) | (go_at_call 109; refine (top_32 _).mono ?_; rintro e w' ⟨rfl, rfl⟩) | (go_at_call 110; refine (least_32 _).mono ?_; rintro e w' ⟨rfl, rfl⟩))
      refine (bits_fin32 _ _ _ (by omega) (by omega) (by omega) (by omega) _).mono ?_; rintro e w2 ⟨rfl, hb2⟩
      go_wp2
      go_ret2
      exact ⟨_, _, rfl, HR2.out, bch_one hb2⟩
    · have t5 : decide (16777216 ≤ (m : Int)) = false := decide_eq_false (by omega)
      have HR2 := hide (show IsAt32 (m : Int) (sn32 false (fi32 (m : Int) (-149))) true by rw [fi_small32]; exact HR.out)
      have c3 : (m : Int) < 2 * 8388608 := by omega
      clear c1 c2 HR
      go_enter Try.func40, Try.ntmps40
      go_wp2_with (first | (go_at_call 103; refine (full_32 _).mono ?_; rintro e w' ⟨rfl, rfl⟩) | (go_at_call 109; refine (top_32 _).mono ?_; rintro e w' ⟨rfl, rfl⟩) | (go_at_call 110; refine (least_32 _).mono ?_; rintro e w' ⟨rfl, rfl⟩))
      refine (bits_fin32 _ _ _ (by omega) (by omega) (by omega) (by omega) _).mono ?_; rintro e w2 ⟨rfl, hb2⟩
      go_wp2
      go_ret2
      exact ⟨_, _, rfl, HR2.out, bch_one hb2⟩

set_option maxHeartbeats 1000000 in
theorem rat32n (p : Int) (m : Nat) (hm : m ≤ 2139095040) (t1 : decide (2139095040 < p) = false) (t2 : decide (p < -2139095040) = false) (t3 : decide (p < 0) = true) (e6 : -p = (m : Int)) (e7 : wrap64 (-p) = (m : Int)) (HR : Hid (IsAt32 p (sn32 true m) true)) (w : World) :
    Calls Try.prog 40 #[.bool false, .int .i64 p] w (ToldU (IsAt32 p) w) := by
  by_cases c1 : m = 2139095040
  · have t4 : ((m : Int) == 2139095040) = true := by rw [beq_iff_eq]; omega
    have hm' : (m : Int) = 2139095040 := by omega
    have HR2 := hide (show IsAt32 p (sn32 true 2139095040) true by rw [← hm']; exact HR.out)
    clear hm'
    clear c1 HR
    go_enter Try.func40, Try.ntmps40
    go_wp2_with (first | (go_at_call 103; refine (full_32 _).mono ?_; rintro e w' ⟨rfl, rfl⟩) | (go_at_call 109; refine (top_32 _).mono ?_; rintro e w' ⟨rfl, rfl⟩) | (go_at_call 110; refine (least_32 _).mono ?_; rintro e w' ⟨rfl, rfl⟩))
    refine (bits_inf32 _ _ _ _).mono ?_; rintro e w2 ⟨rfl, hb2⟩
    go_wp2
    go_ret2
    exact ⟨_, _, rfl, HR2.out, bch_one hb2⟩
  · have t4 : ((m : Int) == 2139095040) = false := by rw [beq_eq_false_iff_ne]; omega
    by_cases c2 : 2 * 8388608 ≤ (m : Int)
    · have t5 : decide (16777216 ≤ (m : Int)) = true := decide_eq_true (by omega)
      obtain ⟨q, e8⟩ : ∃ q, (m : Int) / 8388608 = q := ⟨_, rfl⟩
      have q0 : 2 ≤ q := by omega
      have q1 : q < 255 := by omega
      have q2 : q * 8388608 ≤ m := by omega
      have q3 : m < (q + 1) * 8388608 := by omega
      have HR2 := hide (show IsAt32 p (sn32 true (fi32 ((m : Int) - (q - 1) * 8388608) (-149 + (q - 1)))) true by rw [fi_great32 m q e8]; exact HR.out)
      clear c1 c2 HR
      go_enter Try.func40, Try.ntmps40
      go_wp2_with (first | (go_at_call 103; refine (full_32 _).mono ?_; rintro e w' ⟨rfl, rfl⟩) | (go_at_call 109; refine (top_32 _).mono ?_; rintro e w' ⟨rfl, rfl⟩) | (go_at_call 110; refine (least_32 _).mono ?_; rintro e w' ⟨rfl, rfl⟩))
      refine (bits_fin32 _ _ _ (by omega) (by omega) (by omega) (by omega) _).mono ?_; rintro e w2 ⟨rfl, hb2⟩
      go_wp2
      go_ret2
      exact ⟨_, _, rfl, HR2.out, bch_one hb2⟩
    · have t5 : decide (16777216 ≤ (m : Int)) = false := decide_eq_false (by omega)
      have HR2 := hide (show IsAt32 p (sn32 true (fi32 (m : Int) (-149))) true by rw [fi_small32]; exact HR.out)
      have c3 : (m : Int) < 2 * 8388608 := by omega
      clear c1 c2 HR
      go_enter Try.func40, Try.ntmps40
      go_wp2_with (first | (go_at_call 103; refine (full_32 _).mono ?_; rintro e w' ⟨rfl, rfl⟩) | (go_at_call 109; refine (top_32 _).mono ?_; rintro e w' ⟨rfl, rfl⟩) | (go_at_call 110; refine (least_32 _).mono ?_; rintro e w' ⟨rfl, rfl⟩))
      refine (bits_fin32 _ _ _ (by omega) (by omega) (by omega) (by omega) _).mono ?_; rintro e w2 ⟨rfl, hb2⟩
      go_wp2
      go_ret2
      exact ⟨_, _, rfl, HR2.out, bch_one hb2⟩

set_option maxHeartbeats 1000000 in
theorem rat32 (p : Int) (hp : -9223372036854775808 ≤ p ∧ p ≤ 9223372036854775807) (w : World) :
    Calls Try.prog 40 #[.bool false, .int .i64 p] w (ToldU (IsAt32 p) w) := by
  by_cases h1 : -2139095040 ≤ p ∧ p ≤ 2139095040
  · by_cases h2 : p < 0
    · refine rat32n p (-p).toNat (by omega) (decide_eq_false (by omega)) (decide_eq_false (by omega)) (decide_eq_true h2) (by omega) (by unfold wrap64; omega) (.inl ⟨h1, rfl, ?_⟩) w
      rw [if_pos h2]; simp only [sn32, if_true]; omega
    · obtain ⟨m, rfl⟩ := Int.eq_ofNat_of_zero_le (Int.not_lt.1 h2)
      refine rat32p m (by omega) (decide_eq_false (by omega)) (decide_eq_false (by omega)) (decide_eq_false h2) (.inl ⟨h1, rfl, ?_⟩) w
      rw [if_neg h2]; simp only [sn32, Bool.false_eq_true, if_false]
  · have HR := hide (show IsAt32 p 0 false from .inr ⟨h1, rfl, rfl⟩)
    by_cases h2 : 2139095040 < p
    · have t1 : decide (2139095040 < p) = true := decide_eq_true h2
      clear h1 h2 hp
      go_enter Try.func40, Try.ntmps40
      go_wp2_with (first | (go_at_call 103; refine (full_32 _).mono ?_; rintro e w' ⟨rfl, rfl⟩) | (go_at_call 109; refine (top_32 _).mono ?_; rintro e w' ⟨rfl, rfl⟩) | (go_at_call 110; refine (least_32 _).mono ?_; rintro e w' ⟨rfl, rfl⟩))
      go_ret2
      exact ⟨_, _, rfl, HR.out, Below.refl _ _⟩
    · have t1 : decide (2139095040 < p) = false := decide_eq_false h2
      have t2 : decide (p < -2139095040) = true := decide_eq_true (by omega)
      clear h1 h2 hp
      go_enter Try.func40, Try.ntmps40
      go_wp2_with (first | (go_at_call 103; refine (full_32 _).mono ?_; rintro e w' ⟨rfl, rfl⟩) | (go_at_call 109; refine (top_32 _).mono ?_; rintro e w' ⟨rfl, rfl⟩) | (go_at_call 110; refine (least_32 _).mono ?_; rintro e w' ⟨rfl, rfl⟩))
      go_ret2
      exact ⟨_, _, rfl, HR.out, Below.refl _ _⟩

end Go.Proofs.Ytgehcnlfplcaaaa

/- Contracts of the reference's Place and At, of binary64. -/
import Derived.Test.YtljnadoodbninaaWIv
import Derived.Test.YtljnadoodbninaaMBit
import Derived.BigQuiet
import Derived.Deep.QuietTactic
namespace Go.Proofs.Ytljnadoodbninaa
open Go.RowKit
theorem sign64 (b : Nat) (hb : b ≤ 18446744073709551615) : Vg.rg true b ≤ 9223372036854775807 ∧ (Vg.ng true b = true ∧ b = Vg.rg true b + 9223372036854775808 ∨ Vg.ng true b = false ∧ b = Vg.rg true b) := by
  simp only [Vg.ng, Vg.rg, Vg.S, if_true, decide_eq_true_eq, decide_eq_false_iff_not]
  omega
set_option maxHeartbeats 400000 in
theorem full_64 (w : World) : Calls Try.prog 116 #[.bool true] w fun e w' => e = .returned (.int .u64 (4503599627370496)) ∧ w = w' := by
  go_enter Try.func116, Try.ntmps116
  go_wp2
  go_ret
  exact ⟨rfl, rfl⟩
set_option maxHeartbeats 400000 in
theorem top_64 (w : World) : Calls Try.prog 117 #[.bool true] w fun e w' => e = .returned (.int .i64 (971)) ∧ w = w' := by
  go_enter Try.func117, Try.ntmps117
  go_wp2
  go_ret
  exact ⟨rfl, rfl⟩
set_option maxHeartbeats 400000 in
theorem least_64 (w : World) : Calls Try.prog 118 #[.bool true] w fun e w' => e = .returned (.int .i64 (-1074)) ∧ w = w' := by
  go_enter Try.func118, Try.ntmps118
  go_wp2
  go_ret
  exact ⟨rfl, rfl⟩
/-- Of a rung r: the kind, the significand, the exponent. -/
def kd64 (r : Nat) : Int := if (r : Int) / 4503599627370496 = 2047 then (if (r : Int) % 4503599627370496 = 0 then 1 else 2) else 0
def sg64 (r : Nat) : Int := if (r : Int) / 4503599627370496 = 2047 then (r : Int) % 4503599627370496 else if 0 < (r : Int) / 4503599627370496 then (r : Int) % 4503599627370496 + 4503599627370496 else (r : Int) % 4503599627370496
def ex64 (r : Nat) : Int := if (r : Int) / 4503599627370496 = 2047 then -1074 else if 0 < (r : Int) / 4503599627370496 then -1074 + (r : Int) / 4503599627370496 - 1 else -1074
set_option maxHeartbeats 1000000 in
theorem of64n (b r : Nat) (hr : r ≤ 9223372036854775807) (hs : decide ((9223372036854775808 : Int) ≤ (b : Int)) = true) (e1 : IntKind.u64.wrap ((b : Int) - 9223372036854775808) = r) (w : World) :
    Calls Try.prog 115 #[.bool true, .int .u64 b] w fun e w' => e = .returned (.agg #[.int .i64 (kd64 r), .bool true, .int .u64 (sg64 r), .int .i64 (ex64 r)]) ∧ Below w.heap.size w w' := by
  go_enter Try.func115, Try.ntmps115
  go_wp2_with (first | (go_at_call 116; refine (full_64 _).mono ?_; rintro e w' ⟨rfl, rfl⟩) | (go_at_call 117; refine (top_64 _).mono ?_; rintro e w' ⟨rfl, rfl⟩) | (go_at_call 118; refine (least_64 _).mono ?_; rintro e w' ⟨rfl, rfl⟩))
  all_goals simp [bodyPost, results, Try.results115, go_sem]
  all_goals (rename_i g1 g2; try simp only [beq_iff_eq, beq_eq_false_iff_ne, bne_iff_ne, ne_eq, bne_eq_false_iff_eq] at g1 g2)
  all_goals refine ⟨⟨by unfold kd64; (repeat' split) <;> omega, by unfold sg64; (repeat' split) <;> omega, by unfold ex64; (repeat' split) <;> omega⟩, ?_⟩
  all_goals exact ((Below.refl _ _).alloc (Nat.le_refl _) _).alloc (by simp) _
set_option maxHeartbeats 1000000 in
theorem of64p (r : Nat) (hr : r ≤ 9223372036854775807) (hs : decide ((9223372036854775808 : Int) ≤ (r : Int)) = false)  (w : World) :
    Calls Try.prog 115 #[.bool true, .int .u64 r] w fun e w' => e = .returned (.agg #[.int .i64 (kd64 r), .bool false, .int .u64 (sg64 r), .int .i64 (ex64 r)]) ∧ Below w.heap.size w w' := by
  go_enter Try.func115, Try.ntmps115
  go_wp2_with (first | (go_at_call 116; refine (full_64 _).mono ?_; rintro e w' ⟨rfl, rfl⟩) | (go_at_call 117; refine (top_64 _).mono ?_; rintro e w' ⟨rfl, rfl⟩) | (go_at_call 118; refine (least_64 _).mono ?_; rintro e w' ⟨rfl, rfl⟩))
  all_goals simp [bodyPost, results, Try.results115, go_sem]
  all_goals (rename_i g1 g2; try simp only [beq_iff_eq, beq_eq_false_iff_ne, bne_iff_ne, ne_eq, bne_eq_false_iff_eq] at g1 g2)
  all_goals refine ⟨⟨by unfold kd64; (repeat' split) <;> omega, by unfold sg64; (repeat' split) <;> omega, by unfold ex64; (repeat' split) <;> omega⟩, ?_⟩
  all_goals exact ((Below.refl _ _).alloc (Nat.le_refl _) _).alloc (by simp) _
/-- What Of tells of a pattern: the kind, the sign, the significand, the exponent. -/
def Num64 (b : Nat) (k : Int) (s : Bool) (g x : Int) : Prop := k = kd64 (Vg.rg true b) ∧ s = Vg.ng true b ∧ g = sg64 (Vg.rg true b) ∧ x = ex64 (Vg.rg true b)
theorem of64 (b : Nat) (hb : b ≤ 18446744073709551615) (w : World) :
    Calls Try.prog 115 #[.bool true, .int .u64 b] w fun e w' => ∃ k s g x, e = .returned (.agg #[.int .i64 k, .bool s, .int .u64 g, .int .i64 x]) ∧ Num64 b k s g x ∧ Below w.heap.size w w' := by
  unfold Num64
  by_cases hs : 9223372036854775808 ≤ b
  · have e1 : Vg.rg true b = b - 9223372036854775808 := by simp only [Vg.rg, Vg.S, if_true]; omega
    have e2 : Vg.ng true b = true := by simp only [Vg.ng, Vg.S, if_true]; exact decide_eq_true hs
    rw [e1, e2]
    exact (of64n b _ (by omega) (decide_eq_true (by omega)) (by simp only [IntKind.wrap_u64]; omega) w).mono fun _ _ ⟨h1, h2⟩ => ⟨_, _, _, _, h1, ⟨rfl, rfl, rfl, rfl⟩, h2⟩
  · have e1 : Vg.rg true b = b := by simp only [Vg.rg, Vg.S, if_true]; omega
    have e2 : Vg.ng true b = false := by simp only [Vg.ng, Vg.S, if_true]; exact decide_eq_false hs
    rw [e1, e2]
    exact (of64p b (by omega) (decide_eq_false (by omega)) w).mono fun _ _ ⟨h1, h2⟩ => ⟨_, _, _, _, h1, ⟨rfl, rfl, rfl, rfl⟩, h2⟩
theorem ret_int {k : IntKind} {a b : Int} (h : a = b) : Ending.returned (.int k a) = .returned (.int k b) := by rw [h]
theorem ret_bool {a b : Bool} (h : a = b) : Ending.returned (.bool a) = .returned (.bool b) := by rw [h]
/-- A sign ahead of a rung. -/
def sn64 (s : Bool) (r : Int) : Int := if s then r + 9223372036854775808 else r
/-- The rung of a significand and an exponent. -/
def fi64 (sig exp : Int) : Int := if 4503599627370496 ≤ sig then (exp - (-1074) + 1) * 4503599627370496 + sig - 4503599627370496 else sig
set_option maxHeartbeats 1000000 in
theorem bits_inf64 (s : Bool) (sig exp : Int) (w : World) : Calls Try.prog 123 #[.bool true, .agg #[.int .i64 1, .bool s, .int .u64 sig, .int .i64 exp]] w fun e w' => e = .returned (.int .u64 (sn64 s 9218868437227405312)) ∧ Below w.heap.size w w' := by
  cases s
  all_goals
    go_enter Try.func123, Try.ntmps123
    go_wp2_with (first | (go_at_call 116; refine (full_64 _).mono ?_; rintro e w' ⟨rfl, rfl⟩) | (go_at_call 117; refine (top_64 _).mono ?_; rintro e w' ⟨rfl, rfl⟩) | (go_at_call 118; refine (least_64 _).mono ?_; rintro e w' ⟨rfl, rfl⟩))
    go_ret
    exact ⟨rfl, (Below.refl _ _).alloc (Nat.le_refl _) _⟩
set_option maxHeartbeats 1000000 in
theorem bits_fin64 (s : Bool) (sig exp : Int) (h0 : 0 ≤ sig) (h1 : sig < 2 * 4503599627370496) (h2 : -1074 ≤ exp) (h3 : exp ≤ 971) (w : World) : Calls Try.prog 123 #[.bool true, .agg #[.int .i64 0, .bool s, .int .u64 sig, .int .i64 exp]] w fun e w' => e = .returned (.int .u64 (sn64 s (fi64 sig exp))) ∧ Below w.heap.size w w' := by
  by_cases hf : 4503599627370496 ≤ sig
  · have e1 : fi64 sig exp = (exp - (-1074) + 1) * 4503599627370496 + sig - 4503599627370496 := if_pos hf
    have hf' : decide ((4503599627370496 : Int) ≤ sig) = true := decide_eq_true hf
    have E1 := hide e1
    clear e1
    cases s
    all_goals
      go_enter Try.func123, Try.ntmps123
      go_wp2_with (first | (go_at_call 116; refine (full_64 _).mono ?_; rintro e w' ⟨rfl, rfl⟩) | (go_at_call 117; refine (top_64 _).mono ?_; rintro e w' ⟨rfl, rfl⟩) | (go_at_call 118; refine (least_64 _).mono ?_; rintro e w' ⟨rfl, rfl⟩))
      go_quiet ((go_at_call 118; exact quiet_left (least_64 _)))
      go_wp2
      go_ret
      refine ⟨ret_int ?_, below_drewN ((Below.refl _ _).alloc (Nat.le_refl _) _) _⟩
      rw [E1.out]; simp only [sn64, if_true, Bool.false_eq_true, if_false]; omega
  · have e1 : fi64 sig exp = sig := if_neg hf
    have hf' : decide ((4503599627370496 : Int) ≤ sig) = false := decide_eq_false hf
    have E1 := hide e1
    clear e1
    cases s
    all_goals
      go_enter Try.func123, Try.ntmps123
      go_wp2_with (first | (go_at_call 116; refine (full_64 _).mono ?_; rintro e w' ⟨rfl, rfl⟩) | (go_at_call 117; refine (top_64 _).mono ?_; rintro e w' ⟨rfl, rfl⟩) | (go_at_call 118; refine (least_64 _).mono ?_; rintro e w' ⟨rfl, rfl⟩))
      go_ret
      refine ⟨ret_int ?_, (Below.refl _ _).alloc (Nat.le_refl _) _⟩
      rw [E1.out]; simp only [sn64, if_true, Bool.false_eq_true, if_false]
/-- What Place tells of a pattern. -/
def IsPl64 (b : Nat) (p : Int) (o : Bool) : Prop := o = !Vg.nn true b ∧ p = if Vg.nn true b then 0 else Vg.pl true b
theorem IsPl64.same {b : Nat} {p q : Int} {o u : Bool} (h : IsPl64 b p o) (k : IsPl64 b q u) : p = q ∧ o = u := ⟨h.2.trans k.2.symm, h.1.trans k.1.symm⟩
theorem IsPl64.of {b : Nat} {k : Int} {s : Bool} {g x : Int} (h : Num64 b k s g x) (hb : b ≤ 18446744073709551615) :
    k = 2 ∧ IsPl64 b 0 false ∨ k = 1 ∧ IsPl64 b (if s then -9218868437227405312 else 9218868437227405312) true ∨
    k = 0 ∧ 0 ≤ g ∧ g < 2 * 4503599627370496 ∧ -1074 ≤ x ∧ x ≤ 971 ∧ IsPl64 b (if s then -(g + (x - (-1074)) * 4503599627370496) else g + (x - (-1074)) * 4503599627370496) true := by
  obtain ⟨h1, h2, h3, h4⟩ := h
  obtain ⟨hr, -⟩ := sign64 b hb
  subst h1 h2 h3 h4
  unfold IsPl64 kd64 sg64 ex64 Vg.pl
  simp only [Vg.nn, Vg.INF, if_true, decide_eq_true_eq]
  generalize Vg.rg true b = r at *
  generalize hq : (r : Int) / 4503599627370496 = q
  generalize ht : (r : Int) % 4503599627370496 = t
  have h0 : (r : Int) = 4503599627370496 * q + t := by omega
  have t0 : 0 ≤ t ∧ t < 4503599627370496 := by omega
  clear hq ht
  cases Vg.ng true b
  all_goals
    by_cases c1 : q = 2047
    · by_cases c2 : t = 0
      · right; left
        have d1 : ¬ 9218868437227405312 < r := by omega
        simp only [if_pos c1, if_pos c2, if_neg d1, if_true, Bool.false_eq_true, if_false, decide_eq_false d1, Bool.not_false, true_and]
        omega
      · left
        have d1 : 9218868437227405312 < r := by omega
        simp only [if_pos c1, if_neg c2, if_pos d1, decide_eq_true d1, Bool.not_true, true_and]
    · have d1 : ¬ 9218868437227405312 < r := by omega
      right; right
      simp only [if_neg c1, if_neg d1, if_true, Bool.false_eq_true, if_false, decide_eq_false d1, Bool.not_false, true_and]
      by_cases c4 : 0 < q
      · simp only [if_pos c4]; omega
      · simp only [if_neg c4]; omega
set_option maxHeartbeats 1000000 in
theorem rplace64 (b : Nat) (hb : b ≤ 18446744073709551615) (w : World) : Calls Try.prog 91 #[.bool true, .int .u64 b] w fun e w' => ∃ p o, e = .returned (.tuple #[.int .i64 p, .bool o]) ∧ IsPl64 b p o ∧ Below w.heap.size w w' := by
  have HB := hide hb
  clear hb
  go_enter Try.func91, Try.ntmps91
  go_wp2_with fail
  refine (of64 _ HB.out _).mono ?_; rintro e w' ⟨k, s, g, x, rfl, hn, hb1⟩
  have hc := IsPl64.of hn HB.out
  clear hn
  rcases hc with ⟨rfl, hp⟩ | ⟨rfl, hp⟩ | ⟨rfl, g0, g1, x0, x1, hp⟩
  · have HP := hide hp
    clear hp
    go_wp2
    go_ret2
    exact ⟨_, _, rfl, HP.out, hb1.alloc hb1.size _⟩
  · have HP := hide hp
    clear hp
    cases s
    all_goals
      go_wp2_with (first | (go_at_call 116; refine (full_64 _).mono ?_; rintro e w' ⟨rfl, rfl⟩) | (go_at_call 117; refine (top_64 _).mono ?_; rintro e w' ⟨rfl, rfl⟩) | (go_at_call 118; refine (least_64 _).mono ?_; rintro e w' ⟨rfl, rfl⟩))
      go_ret2
      exact ⟨_, _, rfl, HP.out, hb1.alloc hb1.size _⟩
  · have HP := hide hp
    clear hp
    cases s
    all_goals
      go_wp2_with (first | (go_at_call 116; refine (full_64 _).mono ?_; rintro e w' ⟨rfl, rfl⟩) | (go_at_call 117; refine (top_64 _).mono ?_; rintro e w' ⟨rfl, rfl⟩) | (go_at_call 118; refine (least_64 _).mono ?_; rintro e w' ⟨rfl, rfl⟩))
      go_quiet ((go_at_call 118; exact quiet_left (least_64 _)))
      go_wp2
      go_ret2
      exact ⟨_, _, rfl, HP.out, below_drewN (hb1.alloc hb1.size _) _⟩
/-- A pattern and a truth are told, and nothing that was there has changed. -/
def ToldU (R : Int → Bool → Prop) (w : World) (e : Ending) (w' : World) : Prop := ∃ z o, e = .returned (.tuple #[.int .u64 z, .bool o]) ∧ R z o ∧ Below w.heap.size w w'
/-- What At tells of a place. -/
def IsAt64 (p : Int) (z : Int) (o : Bool) : Prop := (-9218868437227405312 ≤ p ∧ p ≤ 9218868437227405312) ∧ o = true ∧ z = (if p < 0 then 9223372036854775808 - p else p) ∨ ¬ (-9218868437227405312 ≤ p ∧ p ≤ 9218868437227405312) ∧ o = false ∧ z = 0
theorem IsAt64.same {p y z : Int} {o u : Bool} (h : IsAt64 p y o) (k : IsAt64 p z u) : y = z ∧ o = u := by
  rcases h with ⟨h1, rfl, rfl⟩ | ⟨h1, rfl, rfl⟩ <;> rcases k with ⟨k1, rfl, rfl⟩ | ⟨k1, rfl, rfl⟩
  · exact ⟨rfl, rfl⟩
  · exact absurd h1 k1
  · exact absurd k1 h1
  · exact ⟨rfl, rfl⟩
theorem IsAt64.bd {p z : Int} {o : Bool} (h : IsAt64 p z o) : 0 ≤ z ∧ z ≤ 18446744073709551615 ∧ Vg.nn true z.toNat = false := by
  have e : Vg.nn true z.toNat = false ↔ ¬ 9218868437227405312 < z.toNat % 9223372036854775808 := by simp only [Vg.nn, Vg.rg, Vg.S, Vg.INF, if_true, decide_eq_false_iff_not]
  rw [e]
  rcases h with ⟨h1, -, rfl⟩ | ⟨h1, -, rfl⟩
  · split <;> omega
  · omega
theorem fi_small64 (m : Int) : fi64 m (-1074) = m := by unfold fi64; split <;> omega
theorem fi_great64 (m q : Int) (hq : m / 4503599627370496 = q) : fi64 (m - (q - 1) * 4503599627370496) (-1074 + (q - 1)) = m := by
  unfold fi64; split <;> omega
set_option maxHeartbeats 1000000 in
theorem rat64p (m : Nat) (hm : m ≤ 9218868437227405312) (t1 : decide (9218868437227405312 < (m : Int)) = false) (t2 : decide ((m : Int) < -9218868437227405312) = false) (t3 : decide ((m : Int) < 0) = false) (HR : Hid (IsAt64 (m : Int) (sn64 false m) true)) (w : World) :
    Calls Try.prog 93 #[.bool true, .int .i64 (m : Int)] w (ToldU (IsAt64 (m : Int)) w) := by
  by_cases c1 : m = 9218868437227405312
  · have t4 : ((m : Int) == 9218868437227405312) = true := by rw [beq_iff_eq]; omega
    have hm' : (m : Int) = 9218868437227405312 := by omega
    have HR2 := hide (show IsAt64 (m : Int) (sn64 false 9218868437227405312) true by rw [← hm']; exact HR.out)
    clear hm'
    clear c1 HR
    go_enter Try.func93, Try.ntmps93
    go_wp2_with (first | (go_at_call 116; refine (full_64 _).mono ?_; rintro e w' ⟨rfl, rfl⟩) | (go_at_call 117; refine (top_64 _).mono ?_; rintro e w' ⟨rfl, rfl⟩) | (go_at_call 118; refine (least_64 _).mono ?_; rintro e w' ⟨rfl, rfl⟩))
    refine (bits_inf64 _ _ _ _).mono ?_; rintro e w2 ⟨rfl, hb2⟩
    go_wp2
    go_ret2
    exact ⟨_, _, rfl, HR2.out, bch_one hb2⟩
  · have t4 : ((m : Int) == 9218868437227405312) = false := by rw [beq_eq_false_iff_ne]; omega
    by_cases c2 : 2 * 4503599627370496 ≤ (m : Int)
    · have t5 : decide (9007199254740992 ≤ (m : Int)) = true := decide_eq_true (by omega)
      obtain ⟨q, e8⟩ : ∃ q, (m : Int) / 4503599627370496 = q := ⟨_, rfl⟩
      have q0 : 2 ≤ q := by omega
      have q1 : q < 2047 := by omega
      have q2 : q * 4503599627370496 ≤ m := by omega
      have q3 : m < (q + 1) * 4503599627370496 := by omega
      have HR2 := hide (show IsAt64 (m : Int) (sn64 false (fi64 ((m : Int) - (q - 1) * 4503599627370496) (-1074 + (q - 1)))) true by rw [fi_great64 m q e8]; exact HR.out)
      clear c1 c2 HR
      go_enter Try.func93, Try.ntmps93
      go_wp2_with (first | (go_at_call 116; refine (full_64 _).mono ?_; rintro e w' ⟨rfl, rfl⟩) | (go_at_call 117; refine (top_64 _).mono ?_; rintro e w' ⟨rfl, rfl⟩) | (go_at_call 118; refine (least_64 _).mono ?_; rintro e w' ⟨rfl, rfl⟩))
      refine (bits_fin64 _ _ _ (by omega) (by omega) (by omega) (by omega) _).mono ?_; rintro e w2 ⟨rfl, hb2⟩
      go_wp2
      go_ret2
      exact ⟨_, _, rfl, HR2.out, bch_one hb2⟩
    · have t5 : decide (9007199254740992 ≤ (m : Int)) = false := decide_eq_false (by omega)
      have HR2 := hide (show IsAt64 (m : Int) (sn64 false (fi64 (m : Int) (-1074))) true by rw [fi_small64]; exact HR.out)
      have c3 : (m : Int) < 2 * 4503599627370496 := by omega
      clear c1 c2 HR
      go_enter Try.func93, Try.ntmps93
      go_wp2_with (first | (go_at_call 116; refine (full_64 _).mono ?_; rintro e w' ⟨rfl, rfl⟩) | (go_at_call 117; refine (top_64 _).mono ?_; rintro e w' ⟨rfl, rfl⟩) | (go_at_call 118; refine (least_64 _).mono ?_; rintro e w' ⟨rfl, rfl⟩))
      refine (bits_fin64 _ _ _ (by omega) (by omega) (by omega) (by omega) _).mono ?_; rintro e w2 ⟨rfl, hb2⟩
      go_wp2
      go_ret2
      exact ⟨_, _, rfl, HR2.out, bch_one hb2⟩
set_option maxHeartbeats 1000000 in
theorem rat64n (p : Int) (m : Nat) (hm : m ≤ 9218868437227405312) (t1 : decide (9218868437227405312 < p) = false) (t2 : decide (p < -9218868437227405312) = false) (t3 : decide (p < 0) = true) (e6 : -p = (m : Int)) (e7 : wrap64 (-p) = (m : Int)) (HR : Hid (IsAt64 p (sn64 true m) true)) (w : World) :
    Calls Try.prog 93 #[.bool true, .int .i64 p] w (ToldU (IsAt64 p) w) := by
  by_cases c1 : m = 9218868437227405312
  · have t4 : ((m : Int) == 9218868437227405312) = true := by rw [beq_iff_eq]; omega
    have hm' : (m : Int) = 9218868437227405312 := by omega
    have HR2 := hide (show IsAt64 p (sn64 true 9218868437227405312) true by rw [← hm']; exact HR.out)
    clear hm'
    clear c1 HR
    go_enter Try.func93, Try.ntmps93
    go_wp2_with (first | (go_at_call 116; refine (full_64 _).mono ?_; rintro e w' ⟨rfl, rfl⟩) | (go_at_call 117; refine (top_64 _).mono ?_; rintro e w' ⟨rfl, rfl⟩) | (go_at_call 118; refine (least_64 _).mono ?_; rintro e w' ⟨rfl, rfl⟩))
    refine (bits_inf64 _ _ _ _).mono ?_; rintro e w2 ⟨rfl, hb2⟩
    go_wp2
    go_ret2
    exact ⟨_, _, rfl, HR2.out, bch_one hb2⟩
  · have t4 : ((m : Int) == 9218868437227405312) = false := by rw [beq_eq_false_iff_ne]; omega
    by_cases c2 : 2 * 4503599627370496 ≤ (m : Int)
    · have t5 : decide (9007199254740992 ≤ (m : Int)) = true := decide_eq_true (by omega)
      obtain ⟨q, e8⟩ : ∃ q, (m : Int) / 4503599627370496 = q := ⟨_, rfl⟩
      have q0 : 2 ≤ q := by omega
      have q1 : q < 2047 := by omega
      have q2 : q * 4503599627370496 ≤ m := by omega
      have q3 : m < (q + 1) * 4503599627370496 := by omega
      have HR2 := hide (show IsAt64 p (sn64 true (fi64 ((m : Int) - (q - 1) * 4503599627370496) (-1074 + (q - 1)))) true by rw [fi_great64 m q e8]; exact HR.out)
      clear c1 c2 HR
      go_enter Try.func93, Try.ntmps93
      go_wp2_with (first | (go_at_call 116; refine (full_64 _).mono ?_; rintro e w' ⟨rfl, rfl⟩) | (go_at_call 117; refine (top_64 _).mono ?_; rintro e w' ⟨rfl, rfl⟩) | (go_at_call 118; refine (least_64 _).mono ?_; rintro e w' ⟨rfl, rfl⟩))
      refine (bits_fin64 _ _ _ (by omega) (by omega) (by omega) (by omega) _).mono ?_; rintro e w2 ⟨rfl, hb2⟩
      go_wp2
      go_ret2
      exact ⟨_, _, rfl, HR2.out, bch_one hb2⟩
    · have t5 : decide (9007199254740992 ≤ (m : Int)) = false := decide_eq_false (by omega)
      have HR2 := hide (show IsAt64 p (sn64 true (fi64 (m : Int) (-1074))) true by rw [fi_small64]; exact HR.out)
      have c3 : (m : Int) < 2 * 4503599627370496 := by omega
      clear c1 c2 HR
      go_enter Try.func93, Try.ntmps93
      go_wp2_with (first | (go_at_call 116; refine (full_64 _).mono ?_; rintro e w' ⟨rfl, rfl⟩) | (go_at_call 117; refine (top_64 _).mono ?_; rintro e w' ⟨rfl, rfl⟩) | (go_at_call 118; refine (least_64 _).mono ?_; rintro e w' ⟨rfl, rfl⟩))
      refine (bits_fin64 _ _ _ (by omega) (by omega) (by omega) (by omega) _).mono ?_; rintro e w2 ⟨rfl, hb2⟩
      go_wp2
      go_ret2
      exact ⟨_, _, rfl, HR2.out, bch_one hb2⟩
set_option maxHeartbeats 1000000 in
theorem rat64 (p : Int) (hp : -9223372036854775808 ≤ p ∧ p ≤ 9223372036854775807) (w : World) :
    Calls Try.prog 93 #[.bool true, .int .i64 p] w (ToldU (IsAt64 p) w) := by
  by_cases h1 : -9218868437227405312 ≤ p ∧ p ≤ 9218868437227405312
  · by_cases h2 : p < 0
    · refine rat64n p (-p).toNat (by omega) (decide_eq_false (by omega)) (decide_eq_false (by omega)) (decide_eq_true h2) (by omega) (by unfold wrap64; omega) (.inl ⟨h1, rfl, ?_⟩) w
      rw [if_pos h2]; simp only [sn64, if_true]; omega
    · obtain ⟨m, rfl⟩ := Int.eq_ofNat_of_zero_le (Int.not_lt.1 h2)
      refine rat64p m (by omega) (decide_eq_false (by omega)) (decide_eq_false (by omega)) (decide_eq_false h2) (.inl ⟨h1, rfl, ?_⟩) w
      rw [if_neg h2]; simp only [sn64, Bool.false_eq_true, if_false]
  · have HR := hide (show IsAt64 p 0 false from .inr ⟨h1, rfl, rfl⟩)
    by_cases h2 : 9218868437227405312 < p
    · have t1 : decide (9218868437227405312 < p) = true := decide_eq_true h2
      clear h1 h2 hp
      go_enter Try.func93, Try.ntmps93
      go_wp2_with (first | (go_at_call 116; refine (full_64 _).mono ?_; rintro e w' ⟨rfl, rfl⟩) | (go_at_call 117; refine (top_64 _).mono ?_; rintro e w' ⟨rfl, rfl⟩) | (go_at_call 118; refine (least_64 _).mono ?_; rintro e w' ⟨rfl, rfl⟩))
      go_ret2
      exact ⟨_, _, rfl, HR.out, Below.refl _ _⟩
    · have t1 : decide (9218868437227405312 < p) = false := decide_eq_false h2
      have t2 : decide (p < -9218868437227405312) = true := decide_eq_true (by omega)
      clear h1 h2 hp
      go_enter Try.func93, Try.ntmps93
      go_wp2_with (first | (go_at_call 116; refine (full_64 _).mono ?_; rintro e w' ⟨rfl, rfl⟩) | (go_at_call 117; refine (top_64 _).mono ?_; rintro e w' ⟨rfl, rfl⟩) | (go_at_call 118; refine (least_64 _).mono ?_; rintro e w' ⟨rfl, rfl⟩))
      go_ret2
      exact ⟨_, _, rfl, HR.out, Below.refl _ _⟩

theorem place1_any (p : Int) (hp : Vg.Pl p) (w : World) : Calls Try.prog 91 #[.bool true, .int .u64 (Vg.atn true p : Nat)] w fun e w' => e = .returned (.tuple #[.int .i64 p, .bool true]) ∧ Below w.heap.size w w' := by
  refine (rplace64 _ (Vg.atn_le hp) w).mono ?_
  rintro e w' ⟨q, o, rfl, ⟨h1, h2⟩, hb⟩
  rw [Vg.nn_atn hp] at h1 h2
  rw [h2, h1, Vg.pl_atn hp]
  exact ⟨rfl, hb⟩
theorem at1_any (p : Int) (hp : Vg.Pl p) (w : World) : Calls Try.prog 93 #[.bool true, .int .i64 p] w fun e w' => e = .returned (.tuple #[.int .u64 (Vg.atn true p : Nat), .bool true]) ∧ Below w.heap.size w w' := by
  have b := hp.bd
  refine (rat64 p (by omega) w).mono ?_
  rintro e w' ⟨z, o, rfl, h, hb⟩
  rcases h with ⟨-, rfl, rfl⟩ | ⟨h, -⟩
  · have e : (if p < 0 then 9223372036854775808 - p else p) = ((Vg.atn true p : Nat) : Int) := by
      unfold Vg.atn
      simp only [Vg.S, if_true]
      split <;> omega
    rw [e]
    exact ⟨rfl, hb⟩
  · exact absurd ⟨b.1, b.2⟩ h
end Go.Proofs.Ytljnadoodbninaa

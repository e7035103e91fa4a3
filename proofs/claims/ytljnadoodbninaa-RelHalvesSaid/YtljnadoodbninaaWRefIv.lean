/- Contracts of the reference's smallest functions on patterns and intervals: IsNaN, IsInf, Plain, key, Above. -/
import Derived.Test.YtljnadoodbninaaWIv
namespace Go.Proofs.Ytljnadoodbninaa
open Go.RowKit

theorem rnan_any (x : Nat) (hx : x ≤ 18446744073709551615) (n : Bool) (hn : Vg.nn true x = n) (w : World) : Calls Try.prog 75 #[.int .u64 x] w fun e w' => e = .returned (.bool n) ∧ w = w' := by
  have e1 := Vg.andNot64 x hx
  have t : decide ((9218868437227405312 : Int) < (Vg.rg true x : Int)) = n := by
    rw [← hn]
    unfold Vg.nn
    rw [decide_eq_decide]
    simp only [Vg.INF, if_true]
    omega
  obtain ⟨r, hr⟩ : ∃ r, Vg.rg true x = r := ⟨_, rfl⟩
  rw [hr] at e1 t
  clear hn hr hx
  go_enter Try.func75, Try.ntmps75
  go_wp2
  go_ret
  exact ⟨rfl, rfl⟩
theorem rinf_any (x : Nat) (hx : x ≤ 18446744073709551615) (n : Bool) (hn : Vg.infb x = n) (w : World) : Calls Try.prog 30 #[.int .u64 x] w fun e w' => e = .returned (.bool n) ∧ w = w' := by
  have e1 := Vg.andNot64 x hx
  have t : ((Vg.rg true x : Int) == 9218868437227405312) = n := by
    rw [← hn]
    unfold Vg.infb
    rw [Bool.eq_iff_iff, beq_iff_eq, decide_eq_true_iff]
    omega
  obtain ⟨r, hr⟩ : ∃ r, Vg.rg true x = r := ⟨_, rfl⟩
  rw [hr] at e1 t
  clear hn hr hx
  go_enter Try.func30, Try.ntmps30
  go_wp2
  go_ret
  exact ⟨rfl, rfl⟩
theorem rplain_any (x : Nat) (hx : x ≤ 18446744073709551615) (hn : Vg.nn true x = false) (w : World) : Calls Try.prog 76 #[.int .u64 x] w fun e w' => e = .returned (.int .u64 (Vg.plainb true x : Nat)) ∧ w = w' := by
  have HN := hide hn
  have HX := hide hx
  by_cases h : x = 9223372036854775808
  · have e : Vg.plainb true x = 0 := by subst h; decide
    have t : ((x : Int) == 9223372036854775808) = true := by rw [beq_iff_eq]; omega
    rw [e]
    clear h e hx hn
    go_enter Try.func76, Try.ntmps76
    go_wp2
    go_ret
    exact ⟨rfl, rfl⟩
  · have e : Vg.plainb true x = x := by
      unfold Vg.plainb; split
      · rename_i h0; simp only [Vg.rg, Vg.S, if_true] at h0; omega
      · rfl
    have t : ((x : Int) == 9223372036854775808) = false := by rw [beq_eq_false_iff_ne]; omega
    rw [e]
    clear h e hx hn
    go_enter Try.func76, Try.ntmps76
    go_wp2_with (go_at_call 75; refine (rnan_any x HX.out false HN.out _).mono ?_; rintro e w' ⟨rfl, rfl⟩)
    go_ret
    exact ⟨rfl, rfl⟩
theorem xor_all (m : Nat) (h : m < 2 ^ 64) : 18446744073709551615 ^^^ m = 18446744073709551615 - m := by
  refine Nat.eq_of_testBit_eq fun i => ?_
  rw [show (18446744073709551615 : Nat) = 2 ^ 64 - 1 from rfl, show 2 ^ 64 - 1 - m = 2 ^ 64 - (m + 1) by omega, Nat.testBit_xor, Nat.testBit_two_pow_sub_one, Nat.testBit_two_pow_sub_succ h]
  by_cases c : i < 64
  · simp [c]
  · have : m < 2 ^ i := Nat.lt_of_lt_of_le h (Nat.pow_le_pow_right (by decide) (by omega))
    simp [c, Nat.testBit_lt_two_pow this]
theorem not_u64 (m : Nat) (h : m ≤ 18446744073709551615) : bits .xor .u64 IntKind.u64.max (m : Int) = 18446744073709551615 - (m : Int) := by
  rw [show IntKind.u64.max = ((18446744073709551615 : Nat) : Int) by decide]
  refine Eq.trans (u64_xor_nat 18446744073709551615 m (by decide) (by omega)) ?_
  rw [xor_all m (by omega)]
  omega
/-- A pattern's key: the order of the keys is that of the places. -/
def kkey (x : Nat) : Int := if Vg.pl true x < 0 then 9223372036854775807 + Vg.pl true x else 9223372036854775808 + Vg.pl true x
theorem rkey_any (x : Nat) (hx : x ≤ 18446744073709551615) (hn : Vg.nn true x = false) (w : World) : Calls Try.prog 96 #[.int .u64 x] w fun e w' => e = .returned (.int .u64 (kkey x)) ∧ w = w' := by
  have HN := hide hn
  have HX := hide hx
  obtain ⟨m, hm⟩ : ∃ m, Vg.plainb true x = m := ⟨_, rfl⟩
  have hk : 9223372036854775808 < m ∧ m ≤ 18446744073709551615 ∧ kkey x = 18446744073709551615 - (m : Int) ∨ m ≤ 9223372036854775807 ∧ kkey x = (m : Int) + 9223372036854775808 := by
    rw [← hm]
    simp only [Vg.nn, Vg.INF, Vg.rg, Vg.S, if_true, decide_eq_false_iff_not] at hn
    simp only [kkey, Vg.plainb, Vg.pl, Vg.ng, Vg.rg, Vg.S, if_true, decide_eq_true_eq]
    (repeat' split) <;> omega
  have B := fun w => rplain_any x hx hn w
  rw [hm] at B
  rcases hk with ⟨c1, c2, hk⟩ | ⟨c1, hk⟩
  · have t : decide ((9223372036854775808 : Int) ≤ (m : Int)) = true := decide_eq_true (by omega)
    have HK := hide hk
    clear hk hm hx hn c1
    go_enter Try.func96, Try.ntmps96
    go_wp2_with (go_at_call 76; refine (B _).mono ?_; rintro e w' ⟨rfl, rfl⟩)
    go_ret
    refine ⟨?_, rfl⟩
    rw [HK.out]
    exact congrArg (fun z => Ending.returned (.int .u64 z)) (not_u64 m c2)
  · have t : decide ((9223372036854775808 : Int) ≤ (m : Int)) = false := decide_eq_false (by omega)
    have o := Vg.orSign64 m c1
    have HK := hide hk
    clear hk hm hx hn
    go_enter Try.func96, Try.ntmps96
    go_wp2_with (go_at_call 76; refine (B _).mono ?_; rintro e w' ⟨rfl, rfl⟩)
    go_ret
    refine ⟨?_, rfl⟩
    rw [HK.out]
    rfl
theorem kkey_lt (x y : Nat) (hx : Vg.nn true x = false) (hy : Vg.nn true y = false) : kkey x < kkey y ↔ Vg.pl true x < Vg.pl true y := by
  have a := Vg.pl_pl hx
  have b := Vg.pl_pl hy
  unfold kkey
  split <;> split <;> omega
theorem kkey_bd (x : Nat) (hx : Vg.nn true x = false) : 0 ≤ kkey x ∧ kkey x ≤ 18446744073709551615 := by
  have a := (Vg.pl_pl hx).bd
  unfold kkey
  split <;> omega
/-- Does one stand for more than another? -/
def abv (x y : Nat) : Bool := !Vg.nn true x && !Vg.nn true y && decide (Vg.pl true y < Vg.pl true x)
theorem rabove_any (x y : Nat) (hx : x ≤ 18446744073709551615) (hy : y ≤ 18446744073709551615) (w : World) : Calls Try.prog 64 #[.int .u64 x, .int .u64 y] w fun e w' => e = .returned (.bool (abv x y)) ∧ w = w' := by
  have B1 := fun w => rnan_any x hx _ rfl w
  have B2 := fun w => rnan_any y hy _ rfl w
  unfold abv
  cases h1 : Vg.nn true x
  · cases h2 : Vg.nn true y
    · rw [h1] at B1
      rw [h2] at B2
      have B3 := fun w => rkey_any x hx h1 w
      have B4 := fun w => rkey_any y hy h2 w
      have t : decide (kkey y < kkey x) = decide (Vg.pl true y < Vg.pl true x) := by rw [decide_eq_decide]; exact kkey_lt y x h2 h1
      obtain ⟨n, hn⟩ : ∃ n, decide (Vg.pl true y < Vg.pl true x) = n := ⟨_, rfl⟩
      rw [hn] at t
      simp only [Bool.not_false, Bool.true_and]
      rw [hn]
      clear h1 h2 hn hx hy
      go_enter Try.func64, Try.ntmps64
      go_wp2_with (first | (go_at_call 75; first | ((with_reducible refine (B1 _).mono ?_); rintro e w' ⟨rfl, rfl⟩) | ((with_reducible refine (B2 _).mono ?_); rintro e w' ⟨rfl, rfl⟩)) | (go_at_call 96; first | ((with_reducible refine (B3 _).mono ?_); rintro e w' ⟨rfl, rfl⟩) | ((with_reducible refine (B4 _).mono ?_); rintro e w' ⟨rfl, rfl⟩)))
      go_ret
      exact ⟨rfl, rfl⟩
    · rw [h1] at B1
      rw [h2] at B2
      clear h1 h2 hx hy
      go_enter Try.func64, Try.ntmps64
      go_wp2_with (go_at_call 75; first | ((with_reducible refine (B1 _).mono ?_); rintro e w' ⟨rfl, rfl⟩) | ((with_reducible refine (B2 _).mono ?_); rintro e w' ⟨rfl, rfl⟩))
      go_ret
      exact ⟨rfl, rfl⟩
  · rw [h1] at B1
    clear h1 hx hy B2
    go_enter Try.func64, Try.ntmps64
    go_wp2_with (go_at_call 75; refine (B1 _).mono ?_; rintro e w' ⟨rfl, rfl⟩)
    go_ret
    exact ⟨rfl, rfl⟩
end Go.Proofs.Ytljnadoodbninaa

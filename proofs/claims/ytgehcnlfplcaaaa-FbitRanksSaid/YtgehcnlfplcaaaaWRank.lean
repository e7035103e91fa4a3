/- The contract of 'ranked': Order is an order of all. -/
import Derived.Test.YtgehcnlfplcaaaaWFollow
namespace Go.Proofs.Ytgehcnlfplcaaaa
open Go.RowKit

/-- The key by which Order goes. -/
def ky64 (b : Nat) : Int := if Vg.nn true b = true then 2 * 9223372036854775808 else if Vg.rg true b = 0 ∧ Vg.ng true b = true then -1 else 2 * Vg.pl true b
theorem key_or64 {a b : Nat} {c : Int} (h : IsOr64 a b c) : ky64 a < ky64 b ∧ c = -1 ∨ ky64 a = ky64 b ∧ c = 0 ∨ ky64 b < ky64 a ∧ c = 1 := by
  unfold IsOr64 or64 at h
  subst h
  unfold ky64
  have ra := Vg.rg_bd64 a
  have rb := Vg.rg_bd64 b
  have pa : Vg.nn true a = false → Vg.pl true a ≤ 9218868437227405312 := fun h => (Vg.pl_bd64 a h).2
  have pb : Vg.nn true b = false → Vg.pl true b ≤ 9218868437227405312 := fun h => (Vg.pl_bd64 b h).2
  unfold Vg.pl at pa pb ⊢
  revert pa pb
  generalize Vg.rg true a = r at *
  generalize Vg.rg true b = q at *
  cases Vg.nn true a <;> cases Vg.nn true b <;> cases Vg.ng true a <;> cases Vg.ng true b <;> simp <;> intros <;> (repeat' split) <;> omega

/-- What the floats' own comparisons say, by the keys. -/
def Scen64 (a b : Nat) (p q : Int) : Prop :=
  ∃ A B L H E Z : Bool, (FloatKind.f64.format.order a a != some Ordering.eq) = A ∧ (FloatKind.f64.format.order b b == some Ordering.eq) = !B ∧ (FloatKind.f64.format.order b b != some Ordering.eq) = B ∧
    (FloatKind.f64.format.order a b == some Ordering.lt) = L ∧ (FloatKind.f64.format.order a b == some Ordering.gt) = H ∧ (FloatKind.f64.format.order a b != some Ordering.eq) = !E ∧ (FloatKind.f64.format.order a 0 == some Ordering.eq) = Z ∧
    (A = true ∧ B = false ∧ L = false ∧ H = false ∧ E = false ∧ Z = false ∧ q < p ∨ A = true ∧ B = true ∧ L = false ∧ H = false ∧ E = false ∧ Z = false ∧ p = q ∨ A = false ∧ B = true ∧ L = false ∧ H = false ∧ E = false ∧ p < q ∨
     A = false ∧ B = false ∧ L = true ∧ H = false ∧ E = false ∧ p < q ∨ A = false ∧ B = false ∧ L = false ∧ H = true ∧ E = false ∧ q < p ∨ A = false ∧ B = false ∧ L = false ∧ H = false ∧ E = true ∧ Z = true ∨ A = false ∧ B = false ∧ L = false ∧ H = false ∧ E = true ∧ Z = false ∧ p = q)
theorem scen64 (a b : Nat) (ha : a ≤ 18446744073709551615) (hb : b ≤ 18446744073709551615) : Scen64 a b (ky64 a) (ky64 b) := by
  refine ⟨Vg.nn true a, Vg.nn true b, !Vg.nn true a && !Vg.nn true b && decide (Vg.pl true a < Vg.pl true b), !Vg.nn true a && !Vg.nn true b && decide (Vg.pl true b < Vg.pl true a), !Vg.nn true a && !Vg.nn true b && decide (Vg.pl true a = Vg.pl true b), !Vg.nn true a && decide (Vg.pl true a = 0), self_ne64 a ha, self_eq64 b hb, self_ne64 b hb, ord_lt64 a b ha hb, ord_gt64 a b ha hb, ?_, ?_, ?_⟩
  · rw [bne, ord_eq64 a b ha hb]
  · rw [ord_eq64 a 0 ha (by decide), show Vg.nn true 0 = false by decide, show Vg.pl true 0 = 0 by decide]; simp
  · unfold ky64
    have pa : Vg.nn true a = false → Vg.pl true a ≤ 9218868437227405312 := fun h => (Vg.pl_bd64 a h).2
    have pb : Vg.nn true b = false → Vg.pl true b ≤ 9218868437227405312 := fun h => (Vg.pl_bd64 b h).2
    unfold Vg.pl at pa pb ⊢
    revert pa pb
    generalize Vg.rg true a = r
    generalize Vg.rg true b = q
    cases Vg.nn true a <;> cases Vg.nn true b <;> cases Vg.ng true a <;> cases Vg.ng true b <;> simp <;> intros <;> (repeat' split) <;> omega

/-- The key by which Order goes. -/
def ky32 (b : Nat) : Int := if Vg.nn false b = true then 2 * 2147483648 else if Vg.rg false b = 0 ∧ Vg.ng false b = true then -1 else 2 * Vg.pl false b
theorem key_or32 {a b : Nat} {c : Int} (h : IsOr32 a b c) : ky32 a < ky32 b ∧ c = -1 ∨ ky32 a = ky32 b ∧ c = 0 ∨ ky32 b < ky32 a ∧ c = 1 := by
  unfold IsOr32 or32 at h
  subst h
  unfold ky32
  have ra := Vg.rg_bd32 a
  have rb := Vg.rg_bd32 b
  have pa : Vg.nn false a = false → Vg.pl false a ≤ 2139095040 := fun h => (Vg.pl_bd32 a h).2
  have pb : Vg.nn false b = false → Vg.pl false b ≤ 2139095040 := fun h => (Vg.pl_bd32 b h).2
  unfold Vg.pl at pa pb ⊢
  revert pa pb
  generalize Vg.rg false a = r at *
  generalize Vg.rg false b = q at *
  cases Vg.nn false a <;> cases Vg.nn false b <;> cases Vg.ng false a <;> cases Vg.ng false b <;> simp <;> intros <;> (repeat' split) <;> omega

/-- What the floats' own comparisons say, by the keys. -/
def Scen32 (a b : Nat) (p q : Int) : Prop :=
  ∃ A B L H E Z : Bool, (FloatKind.f32.format.order a a != some Ordering.eq) = A ∧ (FloatKind.f32.format.order b b == some Ordering.eq) = !B ∧ (FloatKind.f32.format.order b b != some Ordering.eq) = B ∧
    (FloatKind.f32.format.order a b == some Ordering.lt) = L ∧ (FloatKind.f32.format.order a b == some Ordering.gt) = H ∧ (FloatKind.f32.format.order a b != some Ordering.eq) = !E ∧ (FloatKind.f32.format.order a 0 == some Ordering.eq) = Z ∧
    (A = true ∧ B = false ∧ L = false ∧ H = false ∧ E = false ∧ Z = false ∧ q < p ∨ A = true ∧ B = true ∧ L = false ∧ H = false ∧ E = false ∧ Z = false ∧ p = q ∨ A = false ∧ B = true ∧ L = false ∧ H = false ∧ E = false ∧ p < q ∨
     A = false ∧ B = false ∧ L = true ∧ H = false ∧ E = false ∧ p < q ∨ A = false ∧ B = false ∧ L = false ∧ H = true ∧ E = false ∧ q < p ∨ A = false ∧ B = false ∧ L = false ∧ H = false ∧ E = true ∧ Z = true ∨ A = false ∧ B = false ∧ L = false ∧ H = false ∧ E = true ∧ Z = false ∧ p = q)
theorem scen32 (a b : Nat) (ha : a ≤ 4294967295) (hb : b ≤ 4294967295) : Scen32 a b (ky32 a) (ky32 b) := by
  refine ⟨Vg.nn false a, Vg.nn false b, !Vg.nn false a && !Vg.nn false b && decide (Vg.pl false a < Vg.pl false b), !Vg.nn false a && !Vg.nn false b && decide (Vg.pl false b < Vg.pl false a), !Vg.nn false a && !Vg.nn false b && decide (Vg.pl false a = Vg.pl false b), !Vg.nn false a && decide (Vg.pl false a = 0), self_ne32 a ha, self_eq32 b hb, self_ne32 b hb, ord_lt32 a b ha hb, ord_gt32 a b ha hb, ?_, ?_, ?_⟩
  · rw [bne, ord_eq32 a b ha hb]
  · rw [ord_eq32 a 0 ha (by decide), show Vg.nn false 0 = false by decide, show Vg.pl false 0 = 0 by decide]; simp
  · unfold ky32
    have pa : Vg.nn false a = false → Vg.pl false a ≤ 2139095040 := fun h => (Vg.pl_bd32 a h).2
    have pb : Vg.nn false b = false → Vg.pl false b ≤ 2139095040 := fun h => (Vg.pl_bd32 b h).2
    unfold Vg.pl at pa pb ⊢
    revert pa pb
    generalize Vg.rg false a = r
    generalize Vg.rg false b = q
    cases Vg.nn false a <;> cases Vg.nn false b <;> cases Vg.ng false a <;> cases Vg.ng false b <;> simp <;> intros <;> (repeat' split) <;> omega

set_option maxHeartbeats 8000000 in
theorem ranked64 (a b c : Nat) (ha : a ≤ 18446744073709551615) (hb : b ≤ 18446744073709551615) (hc : c ≤ 18446744073709551615) (w : World) : Calls Try.prog 93 #[.float .f64 a, .float .f64 b, .float .f64 c] w fun e w' => e = .returned (.bool true) ∧ Below w.heap.size w w' := by
  have HA := hide ha
  have HB := hide hb
  have HC := hide hc
  have HS := hide (scen64 a b ha hb)
  clear ha hb hc
  go_enter Try.func93, Try.ntmps93
  go_wp2_with fail
  refine (order64 a b HA.out HB.out _).mono ?_; rintro e w1 ⟨x, rfl, h1, hb1⟩
  go_wp2_with fail
  refine (order64 b c HB.out HC.out _).mono ?_; rintro e w2 ⟨y, rfl, h2, hb2⟩
  go_wp2_with fail
  refine (order64 a c HA.out HC.out _).mono ?_; rintro e w3 ⟨z, rfl, h3, hb3⟩
  have G3 := bch (bch hb1 hb2) hb3
  have K1 := hide (key_or64 h1)
  have K2 := hide (key_or64 h2)
  have K3 := hide (key_or64 h3)
  have x1 : -1 ≤ x ∧ x ≤ 1 := by have := K1.out; omega
  clear h1 h2 h3 hb1 hb2 hb3
  go_wp2_with fail
  refine (order64 b a HB.out HA.out _).mono ?_; rintro e w4 ⟨u, rfl, h4, hb4⟩
  obtain rfl : u = -x := by have := key_or64 h4; have := K1.out; omega
  have G4 := bch G3 hb4
  clear h4 hb4 G3
  go_wp2_with fail
  refine (order64 a a HA.out HA.out _).mono ?_; rintro e w5 ⟨v, rfl, h5, hb5⟩
  obtain rfl : v = 0 := by have := key_or64 h5; omega
  have G5 := bch G4 hb5
  clear h5 hb5 G4 x1
  have k1 := K1.out
  have k2 := K2.out
  have k3 := K3.out
  have hs := HS.out
  clear K1 K2 K3 HS HA HB HC
  generalize ky64 a = p at *
  generalize ky64 b = q at *
  generalize ky64 c = r at *
  obtain ⟨A, B, L, H, E, Z, t1, t2, t3, t4, t5, t6, t7, hs⟩ := hs
  rcases hs with ⟨rfl, rfl, rfl, rfl, rfl, rfl, hk⟩ | ⟨rfl, rfl, rfl, rfl, rfl, rfl, hk⟩ | ⟨rfl, rfl, rfl, rfl, rfl, hk⟩ | ⟨rfl, rfl, rfl, rfl, rfl, hk⟩ | ⟨rfl, rfl, rfl, rfl, rfl, hk⟩ | ⟨rfl, rfl, rfl, rfl, rfl, rfl⟩ | ⟨rfl, rfl, rfl, rfl, rfl, rfl, hk⟩
  all_goals rcases k1 with ⟨j1, rfl⟩ | ⟨j1, rfl⟩ | ⟨j1, rfl⟩
  all_goals first | (exfalso; omega) | skip
  all_goals rcases k2 with ⟨j2, rfl⟩ | ⟨j2, rfl⟩ | ⟨j2, rfl⟩
  all_goals rcases k3 with ⟨j3, rfl⟩ | ⟨j3, rfl⟩ | ⟨j3, rfl⟩
  all_goals first | (exfalso; omega) | skip
  all_goals clear j1 j2 j3
  all_goals go_wp2
  all_goals go_ret
  all_goals exact ⟨rfl, G5⟩

set_option maxHeartbeats 8000000 in
theorem rankedFar (a b c : Nat) (ha : a ≤ 18446744073709551615) (hb : b ≤ 18446744073709551615) (hc : c ≤ 18446744073709551615) (w : World) : Calls Try.prog 95 #[.float .f64 a, .float .f64 b, .float .f64 c] w fun e w' => e = .returned (.bool true) ∧ Below w.heap.size w w' := by
  have HA := hide ha
  have HB := hide hb
  have HC := hide hc
  have HS := hide (scen64 a b ha hb)
  clear ha hb hc
  go_enter Try.func95, Try.ntmps95
  go_wp2_with fail
  refine (orderFar a b HA.out HB.out _).mono ?_; rintro e w1 ⟨x, rfl, h1, hb1⟩
  go_wp2_with fail
  refine (orderFar b c HB.out HC.out _).mono ?_; rintro e w2 ⟨y, rfl, h2, hb2⟩
  go_wp2_with fail
  refine (orderFar a c HA.out HC.out _).mono ?_; rintro e w3 ⟨z, rfl, h3, hb3⟩
  have G3 := bch (bch hb1 hb2) hb3
  have K1 := hide (key_or64 h1)
  have K2 := hide (key_or64 h2)
  have K3 := hide (key_or64 h3)
  have x1 : -1 ≤ x ∧ x ≤ 1 := by have := K1.out; omega
  clear h1 h2 h3 hb1 hb2 hb3
  go_wp2_with fail
  refine (orderFar b a HB.out HA.out _).mono ?_; rintro e w4 ⟨u, rfl, h4, hb4⟩
  obtain rfl : u = -x := by have := key_or64 h4; have := K1.out; omega
  have G4 := bch G3 hb4
  clear h4 hb4 G3
  go_wp2_with fail
  refine (orderFar a a HA.out HA.out _).mono ?_; rintro e w5 ⟨v, rfl, h5, hb5⟩
  obtain rfl : v = 0 := by have := key_or64 h5; omega
  have G5 := bch G4 hb5
  clear h5 hb5 G4 x1
  have k1 := K1.out
  have k2 := K2.out
  have k3 := K3.out
  have hs := HS.out
  clear K1 K2 K3 HS HA HB HC
  generalize ky64 a = p at *
  generalize ky64 b = q at *
  generalize ky64 c = r at *
  obtain ⟨A, B, L, H, E, Z, t1, t2, t3, t4, t5, t6, t7, hs⟩ := hs
  rcases hs with ⟨rfl, rfl, rfl, rfl, rfl, rfl, hk⟩ | ⟨rfl, rfl, rfl, rfl, rfl, rfl, hk⟩ | ⟨rfl, rfl, rfl, rfl, rfl, hk⟩ | ⟨rfl, rfl, rfl, rfl, rfl, hk⟩ | ⟨rfl, rfl, rfl, rfl, rfl, hk⟩ | ⟨rfl, rfl, rfl, rfl, rfl, rfl⟩ | ⟨rfl, rfl, rfl, rfl, rfl, rfl, hk⟩
  all_goals rcases k1 with ⟨j1, rfl⟩ | ⟨j1, rfl⟩ | ⟨j1, rfl⟩
  all_goals first | (exfalso; omega) | skip
  all_goals rcases k2 with ⟨j2, rfl⟩ | ⟨j2, rfl⟩ | ⟨j2, rfl⟩
  all_goals rcases k3 with ⟨j3, rfl⟩ | ⟨j3, rfl⟩ | ⟨j3, rfl⟩
  all_goals first | (exfalso; omega) | skip
  all_goals clear j1 j2 j3
  all_goals go_wp2
  all_goals go_ret
  all_goals exact ⟨rfl, G5⟩

set_option maxHeartbeats 8000000 in
theorem ranked32 (a b c : Nat) (ha : a ≤ 4294967295) (hb : b ≤ 4294967295) (hc : c ≤ 4294967295) (w : World) : Calls Try.prog 94 #[.float .f32 a, .float .f32 b, .float .f32 c] w fun e w' => e = .returned (.bool true) ∧ Below w.heap.size w w' := by
  have HA := hide ha
  have HB := hide hb
  have HC := hide hc
  have HS := hide (scen32 a b ha hb)
  clear ha hb hc
  go_enter Try.func94, Try.ntmps94
  go_wp2_with fail
  refine (order32 a b HA.out HB.out _).mono ?_; rintro e w1 ⟨x, rfl, h1, hb1⟩
  go_wp2_with fail
  refine (order32 b c HB.out HC.out _).mono ?_; rintro e w2 ⟨y, rfl, h2, hb2⟩
  go_wp2_with fail
  refine (order32 a c HA.out HC.out _).mono ?_; rintro e w3 ⟨z, rfl, h3, hb3⟩
  have G3 := bch (bch hb1 hb2) hb3
  have K1 := hide (key_or32 h1)
  have K2 := hide (key_or32 h2)
  have K3 := hide (key_or32 h3)
  have x1 : -1 ≤ x ∧ x ≤ 1 := by have := K1.out; omega
  clear h1 h2 h3 hb1 hb2 hb3
  go_wp2_with fail
  refine (order32 b a HB.out HA.out _).mono ?_; rintro e w4 ⟨u, rfl, h4, hb4⟩
  obtain rfl : u = -x := by have := key_or32 h4; have := K1.out; omega
  have G4 := bch G3 hb4
  clear h4 hb4 G3
  go_wp2_with fail
  refine (order32 a a HA.out HA.out _).mono ?_; rintro e w5 ⟨v, rfl, h5, hb5⟩
  obtain rfl : v = 0 := by have := key_or32 h5; omega
  have G5 := bch G4 hb5
  clear h5 hb5 G4 x1
  have k1 := K1.out
  have k2 := K2.out
  have k3 := K3.out
  have hs := HS.out
  clear K1 K2 K3 HS HA HB HC
  generalize ky32 a = p at *
  generalize ky32 b = q at *
  generalize ky32 c = r at *
  obtain ⟨A, B, L, H, E, Z, t1, t2, t3, t4, t5, t6, t7, hs⟩ := hs
  rcases hs with ⟨rfl, rfl, rfl, rfl, rfl, rfl, hk⟩ | ⟨rfl, rfl, rfl, rfl, rfl, rfl, hk⟩ | ⟨rfl, rfl, rfl, rfl, rfl, hk⟩ | ⟨rfl, rfl, rfl, rfl, rfl, hk⟩ | ⟨rfl, rfl, rfl, rfl, rfl, hk⟩ | ⟨rfl, rfl, rfl, rfl, rfl, rfl⟩ | ⟨rfl, rfl, rfl, rfl, rfl, rfl, hk⟩
  all_goals rcases k1 with ⟨j1, rfl⟩ | ⟨j1, rfl⟩ | ⟨j1, rfl⟩
  all_goals first | (exfalso; omega) | skip
  all_goals rcases k2 with ⟨j2, rfl⟩ | ⟨j2, rfl⟩ | ⟨j2, rfl⟩
  all_goals rcases k3 with ⟨j3, rfl⟩ | ⟨j3, rfl⟩ | ⟨j3, rfl⟩
  all_goals first | (exfalso; omega) | skip
  all_goals clear j1 j2 j3
  all_goals go_wp2
  all_goals go_ret
  all_goals exact ⟨rfl, G5⟩

end Go.Proofs.Ytgehcnlfplcaaaa

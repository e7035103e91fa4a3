/- Contracts of the reference's Bits at a binary64 number, lesser, greater. -/
import Derived.Test.YtljnadoodbninaaWRnd
import Derived.Test.YtljnadoodbninaaWSet
namespace Vg
open Go Ieee in
/-- A number's units as a significand and a place. -/
theorem val_kL {r : Nat} (h0 : 0 < r) (h : r < 9218868437227405312) : ∃ k L, val FloatKind.f64.format r = k * 2 ^ L ∧ r = L * 4503599627370496 + k ∧ 0 < k ∧ k < 9007199254740992 ∧ (4503599627370496 ≤ k ∨ L = 0) ∧ L ≤ 2045 := by
  unfold val
  rw [f64_B]
  split
  · exact ⟨r, 0, by rw [Nat.pow_zero, Nat.mul_one], by omega, h0, by omega, .inr rfl, by omega⟩
  · exact ⟨4503599627370496 + r % 4503599627370496, r / 4503599627370496 - 1, rfl, by omega, by omega, by omega, .inl (by omega), by omega⟩
end Vg
namespace Go.Proofs.Ytljnadoodbninaa
open Go.RowKit
theorem zi_inj {s : Bool} {n : Nat} {m M : Nat} {Z : Int} (hm : 0 < m) (h : Vg.zi s n * (M : Int) = Z * (m : Int)) : n * M = Z.natAbs * m ∧ (Z < 0 → s = true) ∧ (0 < Z → s = false) := by
  have e := congrArg Int.natAbs h
  rw [Int.natAbs_mul, Int.natAbs_mul] at e
  have e1 : (Vg.zi s n).natAbs = n := by cases s <;> simp [Vg.zi]
  rw [e1] at e
  refine ⟨e, fun hz => ?_, fun hz => ?_⟩
  · cases s
    · have : Z * (m : Int) < 0 := Int.mul_neg_of_neg_of_pos hz (by omega)
      rw [← h] at this
      have : 0 ≤ Vg.zi false n * (M : Int) := Int.mul_nonneg (by simp [Vg.zi]) (by omega)
      omega
    · rfl
  · cases s
    · rfl
    · have : 0 < Z * (m : Int) := Int.mul_pos hz (by omega)
      rw [← h] at this
      have : Vg.zi true n * (M : Int) ≤ 0 := by
        have : 0 ≤ (n : Int) * (M : Int) := Int.mul_nonneg (by omega) (by omega)
        simp only [Vg.zi, if_true, Int.neg_mul]; omega
      omega
set_option maxRecDepth 20000 in
set_option maxHeartbeats 4000000 in
theorem rounded_zero (d : Int) (s : Bool) (A1 A2 : Option Addr) (n1 c1 n2 c2 : Nat) (xs : List Nat) (w : World) (h1 : Rw w (.slice A1 n1 c1) xs) (l1 : xs.length ≤ 65536) (h0 : Vg.nat32 xs = 0) :
    Calls Try.prog 124 #[.int .i64 d, .agg #[.bool s, .slice A1 n1 c1, .slice A2 n2 c2], .int .i64 53, .int .i64 1023] w fun e w' => e = .returned (.int .u64 0) ∧ Below w.heap.size w w' := by
  have RS := fun (w' : World) (h : Below w.heap.size w w') => rsign_any s A1 A2 n1 c1 n2 c2 xs w' (h1.keep h) (by omega)
  have e0 : sg s (Vg.nat32 xs) = 0 := if_pos h0
  rw [e0] at RS
  clear h1 l1 h0 e0
  go_enter Try.func124, Try.ntmps124
  go_wp2_with fail
  refine (RS _ b_one).mono ?_; rintro e w1 ⟨rfl, hb⟩
  have g := bch_one hb
  clear hb RS
  go_wp2
  go_ret
  exact ⟨rfl, g⟩
theorem sv_natAbs (p : Int) : (Vg.sv p).natAbs = Vg.val FloatKind.f64.format p.natAbs := by unfold Vg.sv; split <;> omega
theorem mk_atn {p : Int} {s : Bool} (h1 : p < 0 → s = true) (h2 : 0 < p → s = false) : mk s p.natAbs = Vg.atn true p := by
  unfold mk Vg.atn
  simp only [Vg.S, if_true]
  by_cases h0 : p = 0
  · subst h0; rfl
  · rw [if_neg (by omega)]
    rcases Int.lt_or_gt_of_ne h0 with h | h
    · rw [h1 h, if_pos rfl, if_pos h]; omega
    · rw [h2 h, if_neg (show ¬ (false = true) by decide), if_neg (by omega)]; omega
theorem rounded_num (d : Int) (hd : d = 1 ∨ d = -1 ∨ d = 0) (p : Int) (b1 : -9218868437227405312 < p) (b2 : p < 9218868437227405312) (v : Value) (B : Nat) (w : World) (hv : Rt w v (Vg.sv p) Vg.LP B) (hB : B ≤ 65536) :
    Calls Try.prog 124 #[.int .i64 d, v, .int .i64 53, .int .i64 1023] w fun e w' => e = .returned (.int .u64 (Vg.atn true p : Nat)) ∧ Below w.heap.size w w' := by
  obtain ⟨s, A1, n1, c1, A2, n2, c2, xs, ys, rfl, h1, h2, h3, h4, h5, h6⟩ := hv
  obtain ⟨k1, k2, k3⟩ := zi_inj h4 h3
  rw [sv_natAbs] at k1
  by_cases h0 : p = 0
  · subst h0
    have e0 : Vg.nat32 xs = 0 := by
      rw [show (0 : Int).natAbs = 0 from rfl, Vg.val_zero, Nat.zero_mul] at k1
      have := Vg.LP_pos
      rcases Nat.mul_eq_zero.1 k1 with h | h <;> omega
    rw [Vg.atn_zero]
    exact rounded_zero d s A1 A2 n1 c1 n2 c2 xs w h1 (by omega) e0
  · obtain ⟨k, L, e1, e2, e3, e4, e5, e6⟩ := Vg.val_kL (r := p.natAbs) (by omega) (by omega)
    rw [e1] at k1
    have r := rounded_exact d hd s A1 A2 n1 c1 n2 c2 xs ys w h1 h2 h4 (by omega) (by omega) k L e3 e4 e5 e6 k1.symm
    rw [← e2] at r
    have hv0 : 0 < Vg.val FloatKind.f64.format p.natAbs := by rw [e1]; exact Nat.mul_pos e3 (Nat.two_pow_pos L)
    have e : mk s p.natAbs = Vg.atn true p := mk_atn (fun h => k2 (by rw [Vg.sv_neg (by omega)]; omega)) (fun h => k3 (by rw [Vg.sv_pos (by omega)]; omega))
    rwa [e] at r
set_option maxRecDepth 20000 in
theorem bits_num (d : Int) (hd : d = 1 ∨ d = -1 ∨ d = 0) (p : Int) (b1 : -9218868437227405312 < p) (b2 : p < 9218868437227405312) (v : Value) (B : Nat) (w : World) (hv : Rt w v (Vg.sv p) Vg.LP B) (hB : B ≤ 65536) :
    Calls Try.prog 97 #[.int .i64 d, v] w fun e w' => e = .returned (.int .u64 (Vg.atn true p : Nat)) ∧ Below w.heap.size w w' := by
  have R := fun (w' : World) (h : Below w.heap.size w w') => rounded_num d hd p b1 b2 v B w' (hv.keep h) hB
  obtain ⟨s, A1, n1, c1, A2, n2, c2, xs, ys, rfl, -⟩ := hv
  clear hd b1 b2 hB
  go_enter Try.func97, Try.ntmps97
  go_wp2_with fail
  refine (R _ b_one).mono ?_; rintro e w1 ⟨rfl, hb⟩
  have g := bch_one hb
  clear hb R
  go_wp2
  go_ret
  exact ⟨rfl, g⟩
end Go.Proofs.Ytljnadoodbninaa

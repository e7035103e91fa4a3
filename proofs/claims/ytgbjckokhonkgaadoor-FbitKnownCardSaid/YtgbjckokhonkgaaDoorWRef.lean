/- Contracts of the reference's smallest functions. -/
import Derived.Test.YtgbjckokhonkgaaDoorWLeaf
namespace Go.Proofs.YtgbjckokhonkgaaDoor
open Go.RowKit

set_option maxHeartbeats 400000 in
theorem full_64 (w : World) : Calls Tryd.prog 39 #[.bool true] w fun e w' => e = .returned (.int .u64 (4503599627370496)) ∧ w = w' := by
  go_enter Tryd.func39, Tryd.ntmps39
  go_wp2
  go_ret
  exact ⟨rfl, rfl⟩

set_option maxHeartbeats 400000 in
theorem top_64 (w : World) : Calls Tryd.prog 41 #[.bool true] w fun e w' => e = .returned (.int .i64 (971)) ∧ w = w' := by
  go_enter Tryd.func41, Tryd.ntmps41
  go_wp2
  go_ret
  exact ⟨rfl, rfl⟩

set_option maxHeartbeats 400000 in
theorem least_64 (w : World) : Calls Tryd.prog 40 #[.bool true] w fun e w' => e = .returned (.int .i64 (-1074)) ∧ w = w' := by
  go_enter Tryd.func40, Tryd.ntmps40
  go_wp2
  go_ret
  exact ⟨rfl, rfl⟩

set_option maxHeartbeats 400000 in
theorem full_32 (w : World) : Calls Tryd.prog 39 #[.bool false] w fun e w' => e = .returned (.int .u64 (8388608)) ∧ w = w' := by
  go_enter Tryd.func39, Tryd.ntmps39
  go_wp2
  go_ret
  exact ⟨rfl, rfl⟩

set_option maxHeartbeats 400000 in
theorem top_32 (w : World) : Calls Tryd.prog 41 #[.bool false] w fun e w' => e = .returned (.int .i64 (104)) ∧ w = w' := by
  go_enter Tryd.func41, Tryd.ntmps41
  go_wp2
  go_ret
  exact ⟨rfl, rfl⟩

set_option maxHeartbeats 400000 in
theorem least_32 (w : World) : Calls Tryd.prog 40 #[.bool false] w fun e w' => e = .returned (.int .i64 (-149)) ∧ w = w' := by
  go_enter Tryd.func40, Tryd.ntmps40
  go_wp2
  go_ret
  exact ⟨rfl, rfl⟩

/-- Of a rung r: the kind, the significand, the exponent. -/
def kd64 (r : Nat) : Int := if (r : Int) / 4503599627370496 = 2047 then (if (r : Int) % 4503599627370496 = 0 then 1 else 2) else 0
def sg64 (r : Nat) : Int := if (r : Int) / 4503599627370496 = 2047 then (r : Int) % 4503599627370496 else if 0 < (r : Int) / 4503599627370496 then (r : Int) % 4503599627370496 + 4503599627370496 else (r : Int) % 4503599627370496
def ex64 (r : Nat) : Int := if (r : Int) / 4503599627370496 = 2047 then -1074 else if 0 < (r : Int) / 4503599627370496 then -1074 + (r : Int) / 4503599627370496 - 1 else -1074

set_option maxHeartbeats 1000000 in
theorem of64n (b r : Nat) (hr : r ≤ 9223372036854775807) (hs : decide ((9223372036854775808 : Int) ≤ (b : Int)) = true) (e1 : IntKind.u64.wrap ((b : Int) - 9223372036854775808) = r) (w : World) :
    Calls Tryd.prog 37 #[.bool true, .int .u64 b] w fun e w' => e = .returned (.agg #[.int .i64 (kd64 r), .bool true, .int .u64 (sg64 r), .int .i64 (ex64 r)]) ∧ Below w.heap.size w w' := by
  go_enter Tryd.func37, Tryd.ntmps37
  go_wp2_with (first | (go_at_call 39; refine (full_64 _).mono ?_; rintro e w' ⟨rfl, rfl⟩) | (go_at_call 41; refine (top_64 _).mono ?_; rintro e w' ⟨rfl, rfl⟩) | (go_at_call 40; refine (least_64 _).mono ?_; rintro e w' ⟨rfl, rfl⟩))
  all_goals simp [bodyPost, results, Tryd.results37, go_sem]
  all_goals (rename_i g1 g2; try simp only [beq_iff_eq, beq_eq_false_iff_ne, bne_iff_ne, ne_eq, bne_eq_false_iff_eq] at g1 g2)
  all_goals refine ⟨⟨by unfold kd64; (repeat' split) <;> omega, by unfold sg64; (repeat' split) <;> omega, by unfold ex64; (repeat' split) <;> omega⟩, ?_⟩
  all_goals exact ((Below.refl _ _).alloc (Nat.le_refl _) _).alloc (by simp) _

set_option maxHeartbeats 1000000 in
theorem of64p (r : Nat) (hr : r ≤ 9223372036854775807) (hs : decide ((9223372036854775808 : Int) ≤ (r : Int)) = false)  (w : World) :
    Calls Tryd.prog 37 #[.bool true, .int .u64 r] w fun e w' => e = .returned (.agg #[.int .i64 (kd64 r), .bool false, .int .u64 (sg64 r), .int .i64 (ex64 r)]) ∧ Below w.heap.size w w' := by
  go_enter Tryd.func37, Tryd.ntmps37
  go_wp2_with (first | (go_at_call 39; refine (full_64 _).mono ?_; rintro e w' ⟨rfl, rfl⟩) | (go_at_call 41; refine (top_64 _).mono ?_; rintro e w' ⟨rfl, rfl⟩) | (go_at_call 40; refine (least_64 _).mono ?_; rintro e w' ⟨rfl, rfl⟩))
  all_goals simp [bodyPost, results, Tryd.results37, go_sem]
  all_goals (rename_i g1 g2; try simp only [beq_iff_eq, beq_eq_false_iff_ne, bne_iff_ne, ne_eq, bne_eq_false_iff_eq] at g1 g2)
  all_goals refine ⟨⟨by unfold kd64; (repeat' split) <;> omega, by unfold sg64; (repeat' split) <;> omega, by unfold ex64; (repeat' split) <;> omega⟩, ?_⟩
  all_goals exact ((Below.refl _ _).alloc (Nat.le_refl _) _).alloc (by simp) _

/-- What Of tells of a pattern: the kind, the sign, the significand, the exponent. -/
def Num64 (b : Nat) (k : Int) (s : Bool) (g x : Int) : Prop := k = kd64 (Vg.rg true b) ∧ s = Vg.ng true b ∧ g = sg64 (Vg.rg true b) ∧ x = ex64 (Vg.rg true b)

theorem of64 (b : Nat) (hb : b ≤ 18446744073709551615) (w : World) :
    Calls Tryd.prog 37 #[.bool true, .int .u64 b] w fun e w' => ∃ k s g x, e = .returned (.agg #[.int .i64 k, .bool s, .int .u64 g, .int .i64 x]) ∧ Num64 b k s g x ∧ Below w.heap.size w w' := by
  unfold Num64
  by_cases hs : 9223372036854775808 ≤ b
  · have e1 : Vg.rg true b = b - 9223372036854775808 := by simp only [Vg.rg, Vg.S, if_true]; omega
    have e2 : Vg.ng true b = true := by simp only [Vg.ng, Vg.S, if_true]; exact decide_eq_true hs
    rw [e1, e2]
    exact (of64n b _ (by omega) (decide_eq_true (by omega)) (by simp only [IntKind.wrap_u64]; omega) w).mono fun _ _ ⟨h1, h2⟩ => ⟨_, _, _, _, h1, ⟨rfl, rfl, rfl, rfl⟩, h2⟩
  · have e1 : Vg.rg true b = b := by simp only [Vg.rg, Vg.S, if_true]; omega
    have e2 : Vg.ng true b = false := by simp only [Vg.ng, Vg.S, if_true]; exact decide_eq_false hs
    rw [e1, e2]
    exact (of64p b (by omega) (decide_eq_false (by omega)) w).mono fun _ _ ⟨h1, h2⟩ => ⟨_, _, _, _, h1, ⟨rfl, rfl, rfl, rfl⟩, h2⟩

/-- Of a rung r: the kind, the significand, the exponent. -/
def kd32 (r : Nat) : Int := if (r : Int) / 8388608 = 255 then (if (r : Int) % 8388608 = 0 then 1 else 2) else 0
def sg32 (r : Nat) : Int := if (r : Int) / 8388608 = 255 then (r : Int) % 8388608 else if 0 < (r : Int) / 8388608 then (r : Int) % 8388608 + 8388608 else (r : Int) % 8388608
def ex32 (r : Nat) : Int := if (r : Int) / 8388608 = 255 then -149 else if 0 < (r : Int) / 8388608 then -149 + (r : Int) / 8388608 - 1 else -149

set_option maxHeartbeats 1000000 in
theorem of32n (b r : Nat) (hr : r ≤ 2147483647) (hs : decide ((2147483648 : Int) ≤ (b : Int)) = true) (e0 : (b : Int).tmod 4294967296 = b) (e1 : IntKind.u64.wrap ((b : Int) - 2147483648) = r) (w : World) :
    Calls Tryd.prog 37 #[.bool false, .int .u64 b] w fun e w' => e = .returned (.agg #[.int .i64 (kd32 r), .bool true, .int .u64 (sg32 r), .int .i64 (ex32 r)]) ∧ Below w.heap.size w w' := by
  go_enter Tryd.func37, Tryd.ntmps37
  go_wp2_with (first | (go_at_call 39; refine (full_32 _).mono ?_; rintro e w' ⟨rfl, rfl⟩) | (go_at_call 41; refine (top_32 _).mono ?_; rintro e w' ⟨rfl, rfl⟩) | (go_at_call 40; refine (least_32 _).mono ?_; rintro e w' ⟨rfl, rfl⟩))
  all_goals simp [bodyPost, results, Tryd.results37, go_sem]
  all_goals (rename_i g1 g2; try simp only [beq_iff_eq, beq_eq_false_iff_ne, bne_iff_ne, ne_eq, bne_eq_false_iff_eq] at g1 g2)
  all_goals refine ⟨⟨by unfold kd32; (repeat' split) <;> omega, by unfold sg32; (repeat' split) <;> omega, by unfold ex32; (repeat' split) <;> omega⟩, ?_⟩
  all_goals exact ((Below.refl _ _).alloc (Nat.le_refl _) _).alloc (by simp) _

set_option maxHeartbeats 1000000 in
theorem of32p (r : Nat) (hr : r ≤ 2147483647) (hs : decide ((2147483648 : Int) ≤ (r : Int)) = false) (e0 : (r : Int).tmod 4294967296 = r)  (w : World) :
    Calls Tryd.prog 37 #[.bool false, .int .u64 r] w fun e w' => e = .returned (.agg #[.int .i64 (kd32 r), .bool false, .int .u64 (sg32 r), .int .i64 (ex32 r)]) ∧ Below w.heap.size w w' := by
  go_enter Tryd.func37, Tryd.ntmps37
  go_wp2_with (first | (go_at_call 39; refine (full_32 _).mono ?_; rintro e w' ⟨rfl, rfl⟩) | (go_at_call 41; refine (top_32 _).mono ?_; rintro e w' ⟨rfl, rfl⟩) | (go_at_call 40; refine (least_32 _).mono ?_; rintro e w' ⟨rfl, rfl⟩))
  all_goals simp [bodyPost, results, Tryd.results37, go_sem]
  all_goals (rename_i g1 g2; try simp only [beq_iff_eq, beq_eq_false_iff_ne, bne_iff_ne, ne_eq, bne_eq_false_iff_eq] at g1 g2)
  all_goals refine ⟨⟨by unfold kd32; (repeat' split) <;> omega, by unfold sg32; (repeat' split) <;> omega, by unfold ex32; (repeat' split) <;> omega⟩, ?_⟩
  all_goals exact ((Below.refl _ _).alloc (Nat.le_refl _) _).alloc (by simp) _

/-- What Of tells of a pattern: the kind, the sign, the significand, the exponent. -/
def Num32 (b : Nat) (k : Int) (s : Bool) (g x : Int) : Prop := k = kd32 (Vg.rg false b) ∧ s = Vg.ng false b ∧ g = sg32 (Vg.rg false b) ∧ x = ex32 (Vg.rg false b)

theorem of32 (b : Nat) (hb : b ≤ 4294967295) (w : World) :
    Calls Tryd.prog 37 #[.bool false, .int .u64 b] w fun e w' => ∃ k s g x, e = .returned (.agg #[.int .i64 k, .bool s, .int .u64 g, .int .i64 x]) ∧ Num32 b k s g x ∧ Below w.heap.size w w' := by
  unfold Num32
  by_cases hs : 2147483648 ≤ b
  · have e1 : Vg.rg false b = b - 2147483648 := by simp only [Vg.rg, Vg.S, Bool.false_eq_true, if_false]; omega
    have e2 : Vg.ng false b = true := by simp only [Vg.ng, Vg.S, Bool.false_eq_true, if_false]; exact decide_eq_true hs
    rw [e1, e2]
    exact (of32n b _ (by omega) (decide_eq_true (by omega)) (by rw [Int.tmod_eq_emod_of_nonneg (by omega)]; omega) (by simp only [IntKind.wrap_u64]; omega) w).mono fun _ _ ⟨h1, h2⟩ => ⟨_, _, _, _, h1, ⟨rfl, rfl, rfl, rfl⟩, h2⟩
  · have e1 : Vg.rg false b = b := by simp only [Vg.rg, Vg.S, Bool.false_eq_true, if_false]; omega
    have e2 : Vg.ng false b = false := by simp only [Vg.ng, Vg.S, Bool.false_eq_true, if_false]; exact decide_eq_false hs
    rw [e1, e2]
    exact (of32p b (by omega) (decide_eq_false (by omega)) (by rw [Int.tmod_eq_emod_of_nonneg (by omega)]; omega) w).mono fun _ _ ⟨h1, h2⟩ => ⟨_, _, _, _, h1, ⟨rfl, rfl, rfl, rfl⟩, h2⟩

end Go.Proofs.YtgbjckokhonkgaaDoor

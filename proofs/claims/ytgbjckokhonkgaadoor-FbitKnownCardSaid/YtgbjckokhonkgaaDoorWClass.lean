/- Contracts of the program's Class. -/
import Derived.Test.YtgbjckokhonkgaaDoorWClassR
namespace Go.Proofs.YtgbjckokhonkgaaDoor
open Go.RowKit

set_option maxHeartbeats 1000000 in
theorem class64_of (b r : Nat) (s : Bool) (c : Int) (hb : b ≤ 18446744073709551615) (e1 : bits .andNot .u64 (b : Int) 9223372036854775808 = r) (e2 : ((b : Int) != (r : Int)) = s)
    (h : decide ((9218868437227405312 : Int) < (r : Int)) = true ∧ c = 0 ∨
      decide ((9218868437227405312 : Int) < (r : Int)) = false ∧ ((r : Int) == 9218868437227405312) = true ∧ decide ((4503599627370496 : Int) ≤ (r : Int)) = true ∧ (0 : Int) < (r : Int) ∧ c = (if s then 1 else 8) ∨
      decide ((9218868437227405312 : Int) < (r : Int)) = false ∧ ((r : Int) == 9218868437227405312) = false ∧ decide ((4503599627370496 : Int) ≤ (r : Int)) = true ∧ (0 : Int) < (r : Int) ∧ c = (if s then 2 else 7) ∨
      decide ((9218868437227405312 : Int) < (r : Int)) = false ∧ ((r : Int) == 9218868437227405312) = false ∧ decide ((4503599627370496 : Int) ≤ (r : Int)) = false ∧ (0 : Int) < (r : Int) ∧ c = (if s then 3 else 6) ∨
      decide ((9218868437227405312 : Int) < (r : Int)) = false ∧ ((r : Int) == 9218868437227405312) = false ∧ decide ((4503599627370496 : Int) ≤ (r : Int)) = false ∧ (r : Int) ≤ 0 ∧ c = (if s then 4 else 5)) (w : World) :
    Calls Tryd.prog 6 #[.float .f64 b] w fun e w' => e = .returned (.int .i64 c) ∧ Below w.heap.size w w' := by
  rcases h with ⟨t1, rfl⟩ | ⟨t1, t2, t3, t4, rfl⟩ | ⟨t1, t2, t3, t4, rfl⟩ | ⟨t1, t2, t3, t4, rfl⟩ | ⟨t1, t2, t3, t4, rfl⟩
  all_goals cases s
  all_goals
    go_enter Tryd.func6, Tryd.ntmps6
    go_wp2_with (first | (go_at_call 22; refine (format64 _).mono ?_; rintro e w' ⟨rfl, hb1⟩) | (go_at_call 23; refine (pattern64 _ hb _).mono ?_; rintro e w' ⟨rfl, rfl⟩))
    go_ret
    exact ⟨rfl, hb1.alloc hb1.size _⟩

theorem class64 (b : Nat) (hb : b ≤ 18446744073709551615) (w : World) : Calls Tryd.prog 6 #[.float .f64 b] w fun e w' => ∃ c, e = .returned (.int .i64 c) ∧ IsCl64 b c ∧ Below w.heap.size w w' := by
  refine (class64_of b (Vg.rg true b) (Vg.ng true b) (if Vg.nn true b then 0 else if Vg.ng true b then 4 - far64 (Vg.rg true b) else 5 + far64 (Vg.rg true b)) hb (Vg.andNot64 b hb) ?_ ?_ w).mono fun _ _ ⟨h1, h2⟩ => ⟨_, h1, rfl, h2⟩
  · have h := sign64 b hb
    rcases h with ⟨_, ⟨h1, h2⟩ | ⟨h1, h2⟩⟩
    · rw [h1, bne_iff_ne]; omega
    · rw [h1, bne_eq_false_iff_eq]; omega
  · unfold far64
    simp only [Vg.nn, Vg.INF, if_true, decide_eq_true_eq, decide_eq_false_iff_not, beq_iff_eq, beq_eq_false_iff_ne]
    generalize Vg.rg true b = r
    cases Vg.ng true b <;> simp only [if_true, Bool.false_eq_true, if_false] <;> ((repeat' split) <;> omega)

set_option maxHeartbeats 1000000 in
theorem class32_of (b r : Nat) (s : Bool) (c : Int) (hb : b ≤ 4294967295) (e1 : bits .andNot .u64 (b : Int) 2147483648 = r) (e2 : ((b : Int) != (r : Int)) = s)
    (h : decide ((2139095040 : Int) < (r : Int)) = true ∧ c = 0 ∨
      decide ((2139095040 : Int) < (r : Int)) = false ∧ ((r : Int) == 2139095040) = true ∧ decide ((8388608 : Int) ≤ (r : Int)) = true ∧ (0 : Int) < (r : Int) ∧ c = (if s then 1 else 8) ∨
      decide ((2139095040 : Int) < (r : Int)) = false ∧ ((r : Int) == 2139095040) = false ∧ decide ((8388608 : Int) ≤ (r : Int)) = true ∧ (0 : Int) < (r : Int) ∧ c = (if s then 2 else 7) ∨
      decide ((2139095040 : Int) < (r : Int)) = false ∧ ((r : Int) == 2139095040) = false ∧ decide ((8388608 : Int) ≤ (r : Int)) = false ∧ (0 : Int) < (r : Int) ∧ c = (if s then 3 else 6) ∨
      decide ((2139095040 : Int) < (r : Int)) = false ∧ ((r : Int) == 2139095040) = false ∧ decide ((8388608 : Int) ≤ (r : Int)) = false ∧ (r : Int) ≤ 0 ∧ c = (if s then 4 else 5)) (w : World) :
    Calls Tryd.prog 7 #[.float .f32 b] w fun e w' => e = .returned (.int .i64 c) ∧ Below w.heap.size w w' := by
  rcases h with ⟨t1, rfl⟩ | ⟨t1, t2, t3, t4, rfl⟩ | ⟨t1, t2, t3, t4, rfl⟩ | ⟨t1, t2, t3, t4, rfl⟩ | ⟨t1, t2, t3, t4, rfl⟩
  all_goals cases s
  all_goals
    go_enter Tryd.func7, Tryd.ntmps7
    go_wp2_with (first | (go_at_call 24; refine (format32 _).mono ?_; rintro e w' ⟨rfl, hb1⟩) | (go_at_call 25; refine (pattern32 _ hb _).mono ?_; rintro e w' ⟨rfl, rfl⟩))
    go_ret
    exact ⟨rfl, hb1.alloc hb1.size _⟩

theorem class32 (b : Nat) (hb : b ≤ 4294967295) (w : World) : Calls Tryd.prog 7 #[.float .f32 b] w fun e w' => ∃ c, e = .returned (.int .i64 c) ∧ IsCl32 b c ∧ Below w.heap.size w w' := by
  refine (class32_of b (Vg.rg false b) (Vg.ng false b) (if Vg.nn false b then 0 else if Vg.ng false b then 4 - far32 (Vg.rg false b) else 5 + far32 (Vg.rg false b)) hb (Vg.andNot32 b hb) ?_ ?_ w).mono fun _ _ ⟨h1, h2⟩ => ⟨_, h1, rfl, h2⟩
  · have h := sign32 b hb
    rcases h with ⟨_, ⟨h1, h2⟩ | ⟨h1, h2⟩⟩
    · rw [h1, bne_iff_ne]; omega
    · rw [h1, bne_eq_false_iff_eq]; omega
  · unfold far32
    simp only [Vg.nn, Vg.INF, Bool.false_eq_true, if_false, decide_eq_true_eq, decide_eq_false_iff_not, beq_iff_eq, beq_eq_false_iff_ne]
    generalize Vg.rg false b = r
    cases Vg.ng false b <;> simp only [if_true, Bool.false_eq_true, if_false] <;> ((repeat' split) <;> omega)

end Go.Proofs.YtgbjckokhonkgaaDoor

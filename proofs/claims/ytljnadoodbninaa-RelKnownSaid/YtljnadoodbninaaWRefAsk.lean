/- Contracts of the reference's has, asked, EachSome, EachEach. -/
import Derived.Test.YtljnadoodbninaaWRefRead
import Derived.Deep.LoopGhost
namespace Go.Proofs.Ytljnadoodbninaa
open Go.RowKit

/-- Is a place a point of a row? -/
def hasb (N : Bool) (P Q k : Int) : Bool := !N && decide (P ≤ k) && decide (k ≤ Q)
theorem has_any (N : Bool) (P Q k : Int) (n : Bool) (hn : hasb N P Q k = n) (w : World) : Calls Try.prog 107 #[.agg #[.bool N, .int .i64 P, .int .i64 Q], .int .i64 k] w fun e w' => e = .returned (.bool n) ∧ Below w.heap.size w w' := by
  unfold hasb at hn
  cases N
  · by_cases h1 : P ≤ k
    · by_cases h2 : k ≤ Q
      · obtain rfl : n = true := by rw [← hn]; simp [h1, h2]
        clear hn
        go_enter Try.func107, Try.ntmps107
        go_wp2
        go_ret
        exact ⟨rfl, b_one⟩
      · obtain rfl : n = false := by rw [← hn]; simp [h2]
        clear hn
        go_enter Try.func107, Try.ntmps107
        go_wp2
        go_ret
        exact ⟨rfl, b_one⟩
    · obtain rfl : n = false := by rw [← hn]; simp [h1]
      clear hn
      go_enter Try.func107, Try.ntmps107
      go_wp2
      go_ret
      exact ⟨rfl, b_one⟩
  · obtain rfl : n = false := by rw [← hn]; simp
    clear hn
    go_enter Try.func107, Try.ntmps107
    go_wp2
    go_ret
    exact ⟨rfl, b_one⟩

/-- What is asked of two points. -/
def askb (q a b : Int) : Bool := if q = 0 then decide (a = b) else if q = 1 then decide (a ≤ b) else if q = 2 then decide (a < b) else if q = 3 then decide (b < a) else if q = 4 then decide (b ≤ a) else !decide (a = b)
theorem asked_any (q a b : Int) (hq : 0 ≤ q ∧ q ≤ 5) (n : Bool) (hn : askb q a b = n) (w : World) : Calls Try.prog 108 #[.int .i64 q, .int .i64 a, .int .i64 b] w fun e w' => e = .returned (.bool n) ∧ w = w' := by
  have d1 : (a == b) = decide (a = b) := by rw [Bool.eq_iff_iff]; simp
  have d2 : (a != b) = !decide (a = b) := by rw [Bool.eq_iff_iff]; simp
  obtain rfl | rfl | rfl | rfl | rfl | rfl : q = 0 ∨ q = 1 ∨ q = 2 ∨ q = 3 ∨ q = 4 ∨ q = 5 := by omega
  all_goals
    simp only [askb, if_true, show ¬ (1 : Int) = 0 by decide, show ¬ (2 : Int) = 0 by decide, show ¬ (3 : Int) = 0 by decide, show ¬ (4 : Int) = 0 by decide, show ¬ (5 : Int) = 0 by decide, show ¬ (2 : Int) = 1 by decide, show ¬ (3 : Int) = 1 by decide, show ¬ (4 : Int) = 1 by decide, show ¬ (5 : Int) = 1 by decide, show ¬ (3 : Int) = 2 by decide, show ¬ (4 : Int) = 2 by decide, show ¬ (5 : Int) = 2 by decide, show ¬ (4 : Int) = 3 by decide, show ¬ (5 : Int) = 3 by decide, show ¬ (5 : Int) = 4 by decide, if_false] at hn
    first | rw [hn] at d1 | skip
    first | rw [hn] at d2 | skip
    clear hq
    go_enter Try.func108, Try.ntmps108
    go_wp2
    go_ret
    exact ⟨by simp [*], rfl⟩
end Go.Proofs.Ytljnadoodbninaa

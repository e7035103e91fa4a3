/- The sixteen states have their numbers. The walk. -/
import Derived.Test.YtljnadoodbninaaWAwake
namespace Go.Proofs.Ytljnadoodbninaa.relNames
open Go.RowKit

set_option maxRecDepth 20000 in
set_option maxHeartbeats 4000000 in
theorem walk (w : World) : Calls Try.prog 6 #[] w fun e w' => e = .returned (.bool true) ∧ Below w.heap.size w w' := by
  go_enter Try.func6, Try.ntmps6
  go_wp2
  go_loop [2] (fun i => ∃ k : Int, i = .int .i64 k ∧ 0 ≤ k ∧ k ≤ 16) (fun i => (16 - intOf i).toNat)
  case atStart => exact ⟨0, rfl, by omega, by omega⟩
  case round =>
    obtain ⟨k, rfl, h0, hk⟩ := hrel
    by_cases c : k < 16
    · obtain h | h | h | h | h | h | h | h | h | h | h | h | h | h | h | h : k = 0 ∨ k = 1 ∨ k = 2 ∨ k = 3 ∨ k = 4 ∨ k = 5 ∨ k = 6 ∨ k = 7 ∨ k = 8 ∨ k = 9 ∨ k = 10 ∨ k = 11 ∨ k = 12 ∨ k = 13 ∨ k = 14 ∨ k = 15 := by omega
      all_goals
        subst h
        clear c hk h0
        go_wp2
        go_round
        case rel => exact ⟨_, rfl, by omega, by omega⟩
        case measure => simp [intOf]
    · obtain rfl : k = 16 := by omega
      clear c hk h0
      go_wp2_with (go_at_call 28; refine (awake_any _).mono ?_; rintro e w' ⟨rfl, hb⟩)
      go_ret
      exact ⟨rfl, bch_one hb⟩

end Go.Proofs.Ytljnadoodbninaa.relNames

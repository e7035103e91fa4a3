/- The contract of the law's 'across', and what its calls say once the state is known. -/
import Derived.Test.YtljnadoodbninaaMAcross
import Derived.Test.YtljnadoodbninaaWAwake
import Derived.Test.YtljnadoodbninaaWBd
namespace Go.Proofs.Ytljnadoodbninaa
open Go.RowKit
theorem TB.yes {φ : Prop} {w w' : World} {e : Ending} (h : TB φ w e w') (k : φ) : e = .returned (.bool true) ∧ Below w.heap.size w w' := by
  obtain ⟨b, h1, h2, h3⟩ := h
  exact ⟨by rw [h1, h2.2 k], h3⟩
theorem TB.no {φ : Prop} {w w' : World} {e : Ending} (h : TB φ w e w') (k : ¬ φ) : e = .returned (.bool false) ∧ Below w.heap.size w w' := by
  obtain ⟨b, h1, h2, h3⟩ := h
  have : b = false := by
    cases b
    · rfl
    · exact absurd (h2.1 rfl) k
  exact ⟨by rw [h1, this], h3⟩
theorem IsOv.bd {p q r s k : Int} (h : IsOv p q r s k) : 0 ≤ k ∧ k ≤ 15 := by
  have := ov_all h
  omega
theorem across_any (k : Int) (h0 : 0 ≤ k) (h1 : k ≤ 15) (w : World) : Calls Try.prog 59 #[.int .i64 k] w fun e w' => e = .returned (.int .i64 (acr k)) ∧ w = w' := by
  have hk : k = 0 ∨ k = 1 ∨ k = 2 ∨ k = 3 ∨ k = 4 ∨ k = 5 ∨ k = 6 ∨ k = 7 ∨ k = 8 ∨ k = 9 ∨ k = 10 ∨ k = 11 ∨ k = 12 ∨ k = 13 ∨ k = 14 ∨ k = 15 := by omega
  clear h0 h1
  rcases hk with rfl | rfl | rfl | rfl | rfl | rfl | rfl | rfl | rfl | rfl | rfl | rfl | rfl | rfl | rfl | rfl
  all_goals
    go_enter Try.func59, Try.ntmps59
    go_wp2
    go_ret
    exact ⟨rfl, rfl⟩
end Go.Proofs.Ytljnadoodbninaa

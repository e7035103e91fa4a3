/- The states of two intervals, and the state that stands across the table. Plain arithmetic. -/
import Derived.Test.YtljnadoodbninaaWOverlap
namespace Go.Proofs.Ytljnadoodbninaa

/-- The state that stands across the table. -/
def acr (k : Int) : Int := if k = 0 ∨ k = 9 then k else if k = 1 ∨ k = 2 then 3 - k else 18 - k
set_option maxHeartbeats 2000000 in
theorem ov_all {p q r s k : Int} (h : IsOv p q r s k) : (k = 0 ∧ q < p ∧ s < r) ∨ (k = 1 ∧ q < p ∧ r ≤ s) ∨ (k = 2 ∧ p ≤ q ∧ s < r) ∨ (k = 3 ∧ (p ≤ q ∧ r ≤ s) ∧ q < r) ∨ (k = 15 ∧ (p ≤ q ∧ r ≤ s) ∧ s < p) ∨
    (k = 4 ∧ (p ≤ q ∧ r ≤ s) ∧ p < q ∧ q = r ∧ r < s) ∨ (k = 14 ∧ (p ≤ q ∧ r ≤ s) ∧ r < s ∧ s = p ∧ p < q) ∨ (k = 5 ∧ (p ≤ q ∧ r ≤ s) ∧ p < r ∧ r < q ∧ q < s) ∨ (k = 13 ∧ (p ≤ q ∧ r ≤ s) ∧ r < p ∧ p < s ∧ s < q) ∨
    (k = 10 ∧ (p ≤ q ∧ r ≤ s) ∧ p < r ∧ q = s) ∨ (k = 11 ∧ (p ≤ q ∧ r ≤ s) ∧ p < r ∧ s < q) ∨ (k = 8 ∧ (p ≤ q ∧ r ≤ s) ∧ r < p ∧ q = s) ∨ (k = 7 ∧ (p ≤ q ∧ r ≤ s) ∧ r < p ∧ q < s) ∨ (k = 6 ∧ (p ≤ q ∧ r ≤ s) ∧ p = r ∧ q < s) ∨ (k = 12 ∧ (p ≤ q ∧ r ≤ s) ∧ p = r ∧ s < q) ∨ (k = 9 ∧ (p ≤ q ∧ r ≤ s) ∧ p = r ∧ q = s) := by
  unfold IsOv at h
  by_cases c1 : q < p
  · by_cases c2 : s < r
    · have : ov p q r s = 0 := by unfold ov; rw [if_pos ⟨c1, c2⟩]
      exact .inl ⟨h.trans this, c1, c2⟩
    · have : ov p q r s = 1 := by unfold ov; rw [if_neg (by omega), if_pos c1]
      exact .inr (.inl ⟨h.trans this, c1, by omega⟩)
  · by_cases c2 : s < r
    · have : ov p q r s = 2 := by unfold ov; rw [if_neg (by omega), if_neg c1, if_pos c2]
      exact .inr (.inr (.inl ⟨h.trans this, by omega, c2⟩))
    · have WW := ov_ways (Int.not_lt.1 c1) (Int.not_lt.1 c2)
      rw [← h] at WW
      clear h
      rcases WW with ⟨d1, rfl⟩ | ⟨d1, ⟨d2, rfl⟩ | ⟨d2, ⟨d3, rfl⟩ | ⟨d3, rfl⟩ | ⟨d3, d4, ⟨d5, rfl⟩ | ⟨d5, rfl⟩ | ⟨d5, rfl⟩ | ⟨d5, rfl⟩ | ⟨d5, rfl⟩ | ⟨d5, rfl⟩ | ⟨d5, rfl⟩ | ⟨d5, rfl⟩ | ⟨d5, rfl⟩⟩⟩⟩
      all_goals first | exact .inl ⟨rfl, by omega⟩ | exact .inr (.inl ⟨rfl, by omega⟩) | exact .inr (.inr (.inl ⟨rfl, by omega⟩)) | exact .inr (.inr (.inr (.inl ⟨rfl, by omega⟩))) | exact .inr (.inr (.inr (.inr (.inl ⟨rfl, by omega⟩)))) | exact .inr (.inr (.inr (.inr (.inr (.inl ⟨rfl, by omega⟩))))) | exact .inr (.inr (.inr (.inr (.inr (.inr (.inl ⟨rfl, by omega⟩)))))) | exact .inr (.inr (.inr (.inr (.inr (.inr (.inr (.inl ⟨rfl, by omega⟩))))))) | exact .inr (.inr (.inr (.inr (.inr (.inr (.inr (.inr (.inl ⟨rfl, by omega⟩)))))))) | exact .inr (.inr (.inr (.inr (.inr (.inr (.inr (.inr (.inr (.inl ⟨rfl, by omega⟩))))))))) | exact .inr (.inr (.inr (.inr (.inr (.inr (.inr (.inr (.inr (.inr (.inl ⟨rfl, by omega⟩)))))))))) | exact .inr (.inr (.inr (.inr (.inr (.inr (.inr (.inr (.inr (.inr (.inr (.inl ⟨rfl, by omega⟩))))))))))) | exact .inr (.inr (.inr (.inr (.inr (.inr (.inr (.inr (.inr (.inr (.inr (.inr (.inl ⟨rfl, by omega⟩)))))))))))) | exact .inr (.inr (.inr (.inr (.inr (.inr (.inr (.inr (.inr (.inr (.inr (.inr (.inr (.inl ⟨rfl, by omega⟩))))))))))))) | exact .inr (.inr (.inr (.inr (.inr (.inr (.inr (.inr (.inr (.inr (.inr (.inr (.inr (.inr (.inl ⟨rfl, by omega⟩)))))))))))))) | exact .inr (.inr (.inr (.inr (.inr (.inr (.inr (.inr (.inr (.inr (.inr (.inr (.inr (.inr (.inr (⟨rfl, by omega⟩)))))))))))))))
set_option maxHeartbeats 2000000 in
theorem ov_across {p q r s k m : Int} (h : IsOv p q r s k) (g : IsOv r s p q m) : m = acr k := by
  have a := ov_all h
  have b := ov_all g
  unfold acr
  rcases a with a | a | a | a | a | a | a | a | a | a | a | a | a | a | a | a
  all_goals
    obtain ⟨rfl, a⟩ := a
    first | rw [if_pos (by omega)] | rw [if_neg (by omega), if_pos (by omega)] | rw [if_neg (by omega), if_neg (by omega)]
    rcases b with b | b | b | b | b | b | b | b | b | b | b | b | b | b | b | b <;> (obtain ⟨rfl, b⟩ := b; omega)
end Go.Proofs.Ytljnadoodbninaa

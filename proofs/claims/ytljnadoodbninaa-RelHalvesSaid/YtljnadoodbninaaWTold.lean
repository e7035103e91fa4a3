/- A truth that is told, by its name. -/
import Derived.Test.YtljnadoodbninaaWAcross
namespace Go.Proofs.Ytljnadoodbninaa
open Go.RowKit
/-- A truth by its name. -/
def Fact (n : Bool) (φ : Prop) : Prop := n = true ↔ φ
theorem TB.bool {φ : Prop} {n : Bool} (hn : Fact n φ) {w w' : World} {e : Ending} (h : TB φ w e w') : e = .returned (.bool n) ∧ Below w.heap.size w w' := by
  obtain ⟨b, h1, h2, h3⟩ := h
  have : b = n := by rw [Bool.eq_iff_iff, h2]; exact hn.symm
  exact ⟨by rw [h1, this], h3⟩
end Go.Proofs.Ytljnadoodbninaa

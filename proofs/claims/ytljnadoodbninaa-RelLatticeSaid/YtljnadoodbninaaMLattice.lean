/- Intersections and hulls by places are a lattice. Plain arithmetic. -/
import Derived.Test.YtljnadoodbninaaWTold
namespace Go.Proofs.Ytljnadoodbninaa
open Vg

theorem meet_comm {p q r s x y : Int} (h : Meet p q r s x y) : Meet r s p q x y := by
  unfold Meet at *
  rw [Int.min_comm s q, Int.max_comm r p]; exact h
theorem join_comm {p q r s x y : Int} (h : Join p q r s x y) : Join r s p q x y := by
  unfold Join at *
  rw [Int.min_comm r p, Int.max_comm s q]; exact h
set_option maxHeartbeats 2000000 in
theorem meet_assoc {p q r s t u i1 i2 m1 m2 y1 y2 : Int} (hp : Iv p q) (hr : Iv r s) (ht : Iv t u) (hi : Meet p q r s i1 i2) (hm : Meet i1 i2 t u m1 m2) (hy : Meet r s t u y1 y2) : Meet p q y1 y2 m1 m2 := by
  have := PI_pos
  have b1 : -PI ≤ p ∧ p ≤ PI ∧ -PI ≤ q ∧ q ≤ PI := by unfold Iv at hp; omega
  have b2 : -PI ≤ r ∧ r ≤ PI ∧ -PI ≤ s ∧ s ≤ PI := by unfold Iv at hr; omega
  have b3 : -PI ≤ t ∧ t ≤ PI ∧ -PI ≤ u ∧ u ≤ PI := by unfold Iv at ht; omega
  clear hp hr ht
  unfold Meet at *
  rcases hi with ⟨a, rfl, rfl⟩ | ⟨a, rfl, rfl⟩ <;> rcases hy with ⟨b, rfl, rfl⟩ | ⟨b, rfl, rfl⟩ <;> rcases hm with ⟨c, rfl, rfl⟩ | ⟨c, rfl, rfl⟩
  all_goals first | exact .inl ⟨by omega, rfl, rfl⟩ | exact .inr ⟨by omega, by omega, by omega⟩ | (exfalso; omega)
theorem join_assoc {p q r s t u i1 i2 m1 m2 y1 y2 : Int} (hi : Join p q r s i1 i2) (hm : Join i1 i2 t u m1 m2) (hy : Join r s t u y1 y2) : Join p q y1 y2 m1 m2 := by
  unfold Join at *
  obtain ⟨rfl, rfl⟩ := hi
  obtain ⟨rfl, rfl⟩ := hm
  obtain ⟨rfl, rfl⟩ := hy
  exact ⟨by omega, by omega⟩
theorem meet_self {p q : Int} (h : Iv p q) : Meet p q p q p q := by
  have := PI_pos
  unfold Iv Meet at *
  omega
theorem join_self (p q : Int) : Join p q p q p q := by unfold Join; omega
theorem meet_join {p q r s x y : Int} (h : Iv p q) (k : Iv r s) (hj : Join p q r s x y) : Meet p q x y p q := by
  have := PI_pos
  unfold Join at hj
  obtain ⟨rfl, rfl⟩ := hj
  unfold Iv Meet at *
  omega
theorem join_meet {p q r s x y : Int} (h : Iv p q) (k : Iv r s) (hm : Meet p q r s x y) : Join p q x y p q := by
  have := PI_pos
  unfold Meet at hm
  unfold Iv Join at *
  rcases hm with ⟨a, rfl, rfl⟩ | ⟨a, rfl, rfl⟩ <;> omega
/-- Subset, Equal, Disjoint beside the two. -/
theorem sub_meet {p q r s x y : Int} (h : Iv p q) (k : Iv r s) (hm : Meet p q r s x y) : (x = p ∧ y = q) ↔ (q < p ∨ r ≤ p ∧ q ≤ s) := by
  have := PI_pos
  unfold Meet at hm
  unfold Iv at *
  rcases hm with ⟨a, rfl, rfl⟩ | ⟨a, rfl, rfl⟩ <;> constructor <;> intro g <;> omega
theorem sub_join {p q r s x y : Int} (h : Iv p q) (k : Iv r s) (hm : Join p q r s x y) : (x = r ∧ y = s) ↔ (q < p ∨ r ≤ p ∧ q ≤ s) := by
  have := PI_pos
  unfold Join at hm
  unfold Iv at *
  obtain ⟨rfl, rfl⟩ := hm
  constructor <;> intro g <;> omega
theorem dis_meet {p q r s x y : Int} (hm : Meet p q r s x y) : (y < x) ↔ (min q s < max p r) := by
  have := PI_pos
  unfold Meet at hm
  rcases hm with ⟨a, rfl, rfl⟩ | ⟨a, rfl, rfl⟩ <;> constructor <;> intro g <;> omega
end Go.Proofs.Ytljnadoodbninaa

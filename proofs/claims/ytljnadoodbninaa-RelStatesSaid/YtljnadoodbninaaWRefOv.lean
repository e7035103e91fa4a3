/- What the reference's Overlap tells: the table's rows. -/
import Derived.Test.YtljnadoodbninaaWRefRels
import Derived.Test.YtljnadoodbninaaWOverlap
namespace Go.Proofs.Ytljnadoodbninaa
open Go.RowKit
theorem ov_rws {p q r s P Q R S n : Int} (h : Vg.Rws p q r s P Q R S n) : ov p q r s = ov P Q R S := by
  obtain ⟨-, pq, pr, ps, qr, qs, rs, -⟩ := h
  unfold ov
  simp only [pq.1, pq.2, rs.1, rs.2, qr.1, ps.2, pr.1, pr.2, qs.1, qs.2, (lt_le qr).2.2, (lt_le qs).2.2]
  have e : s = p ↔ S = P := by have := (lt_le ps).2.2; exact ⟨fun h => (this.1 h.symm).symm, fun h => (this.2 h.symm).symm⟩
  simp only [e]
/-- The table's rows. -/
def ovT (P Q R S : Int) (i : Nat) : Bool := if i = 0 then decide (Q < R) else if i = 1 then decide (P < Q) && decide (Q = R) && decide (R < S) else if i = 2 then decide (P < R) && decide (R < Q) && decide (Q < S) else if i = 3 then decide (P = R) && decide (Q < S) else if i = 4 then decide (R < P) && decide (Q < S) else if i = 5 then decide (R < P) && decide (Q = S) else if i = 6 then decide (P = R) && decide (Q = S) else if i = 7 then decide (P < R) && decide (Q = S) else if i = 8 then decide (P < R) && decide (S < Q) else if i = 9 then decide (P = R) && decide (S < Q) else if i = 10 then decide (R < P) && decide (P < S) && decide (S < Q) else if i = 11 then decide (R < S) && decide (S = P) && decide (P < Q) else false
theorem ovT_hit {P Q R S : Int} {i : Nat} (h1 : P ≤ Q) (h2 : R ≤ S) (hi : i < 12) (hf : ∀ j, j < i → ovT P Q R S j = false) (ht : ovT P Q R S i = true) : ov P Q R S = i + 3 := by
  obtain rfl | rfl | rfl | rfl | rfl | rfl | rfl | rfl | rfl | rfl | rfl | rfl : i = 0 ∨ i = 1 ∨ i = 2 ∨ i = 3 ∨ i = 4 ∨ i = 5 ∨ i = 6 ∨ i = 7 ∨ i = 8 ∨ i = 9 ∨ i = 10 ∨ i = 11 := by omega
  · simp [ovT] at  ht; unfold ov; repeat (first | rw [if_pos (by omega)] | rw [if_neg (by omega)])
    all_goals first | rfl | (simp; done) | omega
  · have f0 := hf 0 (by decide); simp [ovT] at f0 ht; unfold ov; repeat (first | rw [if_pos (by omega)] | rw [if_neg (by omega)])
    all_goals first | rfl | (simp; done) | omega
  · have f0 := hf 0 (by decide); have f1 := hf 1 (by decide); simp [ovT] at f0 f1 ht; unfold ov; repeat (first | rw [if_pos (by omega)] | rw [if_neg (by omega)])
    all_goals first | rfl | (simp; done) | omega
  · have f0 := hf 0 (by decide); have f1 := hf 1 (by decide); have f2 := hf 2 (by decide); simp [ovT] at f0 f1 f2 ht; unfold ov; repeat (first | rw [if_pos (by omega)] | rw [if_neg (by omega)])
    all_goals first | rfl | (simp; done) | omega
  · have f0 := hf 0 (by decide); have f1 := hf 1 (by decide); have f2 := hf 2 (by decide); have f3 := hf 3 (by decide); simp [ovT] at f0 f1 f2 f3 ht; unfold ov; repeat (first | rw [if_pos (by omega)] | rw [if_neg (by omega)])
    all_goals first | rfl | (simp; done) | omega
  · have f0 := hf 0 (by decide); have f1 := hf 1 (by decide); have f2 := hf 2 (by decide); have f3 := hf 3 (by decide); have f4 := hf 4 (by decide); simp [ovT] at f0 f1 f2 f3 f4 ht; unfold ov; repeat (first | rw [if_pos (by omega)] | rw [if_neg (by omega)])
    all_goals first | rfl | (simp; done) | omega
  · have f0 := hf 0 (by decide); have f1 := hf 1 (by decide); have f2 := hf 2 (by decide); have f3 := hf 3 (by decide); have f4 := hf 4 (by decide); have f5 := hf 5 (by decide); simp [ovT] at f0 f1 f2 f3 f4 f5 ht; unfold ov; repeat (first | rw [if_pos (by omega)] | rw [if_neg (by omega)])
    all_goals first | rfl | (simp; done) | omega
  · have f0 := hf 0 (by decide); have f1 := hf 1 (by decide); have f2 := hf 2 (by decide); have f3 := hf 3 (by decide); have f4 := hf 4 (by decide); have f5 := hf 5 (by decide); have f6 := hf 6 (by decide); simp [ovT] at f0 f1 f2 f3 f4 f5 f6 ht; unfold ov; repeat (first | rw [if_pos (by omega)] | rw [if_neg (by omega)])
    all_goals first | rfl | (simp; done) | omega
  · have f0 := hf 0 (by decide); have f1 := hf 1 (by decide); have f2 := hf 2 (by decide); have f3 := hf 3 (by decide); have f4 := hf 4 (by decide); have f5 := hf 5 (by decide); have f6 := hf 6 (by decide); have f7 := hf 7 (by decide); simp [ovT] at f0 f1 f2 f3 f4 f5 f6 f7 ht; unfold ov; repeat (first | rw [if_pos (by omega)] | rw [if_neg (by omega)])
    all_goals first | rfl | (simp; done) | omega
  · have f0 := hf 0 (by decide); have f1 := hf 1 (by decide); have f2 := hf 2 (by decide); have f3 := hf 3 (by decide); have f4 := hf 4 (by decide); have f5 := hf 5 (by decide); have f6 := hf 6 (by decide); have f7 := hf 7 (by decide); have f8 := hf 8 (by decide); simp [ovT] at f0 f1 f2 f3 f4 f5 f6 f7 f8 ht; unfold ov; repeat (first | rw [if_pos (by omega)] | rw [if_neg (by omega)])
    all_goals first | rfl | (simp; done) | omega
  · have f0 := hf 0 (by decide); have f1 := hf 1 (by decide); have f2 := hf 2 (by decide); have f3 := hf 3 (by decide); have f4 := hf 4 (by decide); have f5 := hf 5 (by decide); have f6 := hf 6 (by decide); have f7 := hf 7 (by decide); have f8 := hf 8 (by decide); have f9 := hf 9 (by decide); simp [ovT] at f0 f1 f2 f3 f4 f5 f6 f7 f8 f9 ht; unfold ov; repeat (first | rw [if_pos (by omega)] | rw [if_neg (by omega)])
    all_goals first | rfl | (simp; done) | omega
  · have f0 := hf 0 (by decide); have f1 := hf 1 (by decide); have f2 := hf 2 (by decide); have f3 := hf 3 (by decide); have f4 := hf 4 (by decide); have f5 := hf 5 (by decide); have f6 := hf 6 (by decide); have f7 := hf 7 (by decide); have f8 := hf 8 (by decide); have f9 := hf 9 (by decide); have f10 := hf 10 (by decide); simp [ovT] at f0 f1 f2 f3 f4 f5 f6 f7 f8 f9 f10 ht; unfold ov; repeat (first | rw [if_pos (by omega)] | rw [if_neg (by omega)])
    all_goals first | rfl | (simp; done) | omega
theorem ovT_miss {P Q R S : Int} (h1 : P ≤ Q) (h2 : R ≤ S) (hf : ∀ j, j < 12 → ovT P Q R S j = false) : ov P Q R S = 15 := by
  have f0 := hf 0 (by decide); have f1 := hf 1 (by decide); have f2 := hf 2 (by decide); have f3 := hf 3 (by decide); have f4 := hf 4 (by decide); have f5 := hf 5 (by decide); have f6 := hf 6 (by decide); have f7 := hf 7 (by decide); have f8 := hf 8 (by decide); have f9 := hf 9 (by decide); have f10 := hf 10 (by decide); have f11 := hf 11 (by decide); simp [ovT] at f0 f1 f2 f3 f4 f5 f6 f7 f8 f9 f10 f11; unfold ov; repeat (first | rw [if_pos (by omega)] | rw [if_neg (by omega)])
end Go.Proofs.Ytljnadoodbninaa

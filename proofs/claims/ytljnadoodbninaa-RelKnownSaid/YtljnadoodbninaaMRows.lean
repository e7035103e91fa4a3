/- What the reference asks of two rows, in closed form: that is what the relations say of the ends. -/
import Derived.Test.YtljnadoodbninaaWRefEach
import Derived.Test.YtljnadoodbninaaMCuts
import Derived.Test.YtljnadoodbninaaWTold
namespace Go.Proofs.Ytljnadoodbninaa
open Go.RowKit
/-- A row of an interval. -/
def Ivn (P Q n : Int) : Prop := (∃ a b m : Int, P = 4 * a ∧ Q = 4 * b ∧ n = 4 * m) ∧ 4 ≤ n ∧ ((P = n ∧ Q = 0) ∨ (0 ≤ P ∧ P ≤ Q ∧ Q ≤ n ∧ P < n ∧ 0 < Q))
theorem has_iff {N : Bool} {P Q n k : Int} (h : Ivn P Q n) (hN : N = true ↔ Q < P) (_h1 : 1 ≤ k) (_h2 : k < n) : hasb N P Q k = true ↔ P ≤ k ∧ k ≤ Q := by
  obtain ⟨-, -, h⟩ := h
  unfold hasb
  simp only [Bool.and_eq_true, Bool.not_eq_true', decide_eq_true_eq]
  have e : N = false ↔ ¬ Q < P := by rw [← hN]; simp
  rw [e]
  omega
theorem two_of {i : Int} (h : 1 ≤ i) : i.tmod 2 = i % 2 := Int.tmod_eq_emod_of_nonneg (by omega)
theorem at_lo {P Q n : Int} (h : Ivn P Q n) (c : P ≤ Q) : ∃ i, 1 ≤ i ∧ i < n ∧ i % 2 = 0 ∧ P ≤ i ∧ i ≤ Q ∧ (i = P ∧ 0 < P ∨ P = 0 ∧ i = 2) := by
  obtain ⟨⟨a, b, m, e1, e2, e3⟩, h4, h⟩ := h
  by_cases z : P = 0
  · exact ⟨2, by omega, by omega, by omega, by omega, by omega, by omega⟩
  · exact ⟨P, by omega, by omega, by omega, by omega, by omega, by omega⟩
theorem at_hi {P Q n : Int} (h : Ivn P Q n) (c : P ≤ Q) : ∃ i, 1 ≤ i ∧ i < n ∧ i % 2 = 0 ∧ P ≤ i ∧ i ≤ Q ∧ (i = Q ∧ Q < n ∨ Q = n ∧ i = n - 2) := by
  obtain ⟨⟨a, b, m, e1, e2, e3⟩, h4, h⟩ := h
  by_cases z : Q = n
  · exact ⟨n - 2, by omega, by omega, by omega, by omega, by omega, by omega⟩
  · exact ⟨Q, by omega, by omega, by omega, by omega, by omega, by omega⟩
theorem at_1 {P Q n : Int} (h : Ivn P Q n) (c : P ≤ Q) : ∃ i, 1 ≤ i ∧ i < n ∧ P ≤ i ∧ i ≤ Q ∧ (i = P ∧ 0 < P ∨ P = 0 ∧ i = 1) := by
  obtain ⟨⟨a, b, m, e1, e2, e3⟩, h4, h⟩ := h
  by_cases z : P = 0
  · exact ⟨1, by omega, by omega, by omega, by omega, by omega⟩
  · exact ⟨P, by omega, by omega, by omega, by omega, by omega⟩
theorem at_n {P Q n : Int} (h : Ivn P Q n) (c : P ≤ Q) : ∃ i, 1 ≤ i ∧ i < n ∧ P ≤ i ∧ i ≤ Q ∧ (i = Q ∧ Q < n ∨ Q = n ∧ i = n - 1) := by
  obtain ⟨⟨a, b, m, e1, e2, e3⟩, h4, h⟩ := h
  by_cases z : Q = n
  · exact ⟨n - 1, by omega, by omega, by omega, by omega, by omega⟩
  · exact ⟨Q, by omega, by omega, by omega, by omega, by omega⟩
theorem ES_iff {q P Q R S n : Int} {N M : Bool} (h : Ivn P Q n) (k : Ivn R S n) (hN : N = true ↔ Q < P) (hM : M = true ↔ S < R) :
    ES q N P Q M R S n n ↔ ∀ i, 1 ≤ i → i < n → i % 2 = 0 → P ≤ i → i ≤ Q → ∃ t, 1 ≤ t ∧ t < n ∧ R ≤ t ∧ t ≤ S ∧ askb q i t = true := by
  constructor
  · intro H i h1 h2 h3 h4 h5
    obtain ⟨t, t1, t2, t3, t4⟩ := H i h1 h2 (by rw [two_of h1]; omega) ((has_iff h hN h1 h2).2 ⟨h4, h5⟩)
    have := (has_iff k hM t1 t2).1 t3
    exact ⟨t, t1, t2, this.1, this.2, t4⟩
  · intro H i h1 h2 h3 h4
    have := (has_iff h hN h1 h2).1 h4
    rw [two_of h1] at h3
    obtain ⟨t, t1, t2, t3, t4, t5⟩ := H i h1 h2 (by omega) this.1 this.2
    exact ⟨t, t1, t2, (has_iff k hM t1 t2).2 ⟨t3, t4⟩, t5⟩
theorem EE_iff {q P Q R S n : Int} {N M : Bool} (h : Ivn P Q n) (k : Ivn R S n) (hN : N = true ↔ Q < P) (hM : M = true ↔ S < R) :
    EE q N P Q M R S n n ↔ ∀ i, 1 ≤ i → i < n → i % 2 = 0 → P ≤ i → i ≤ Q → ∀ t, 1 ≤ t → t < n → R ≤ t → t ≤ S → askb q i t = true := by
  constructor
  · intro H i h1 h2 h3 h4 h5 t t1 t2 t3 t4
    exact H i h1 h2 t t1 t2 (by rw [two_of h1]; omega) ((has_iff h hN h1 h2).2 ⟨h4, h5⟩) ((has_iff k hM t1 t2).2 ⟨t3, t4⟩)
  · intro H i h1 h2 t t1 t2 h3 h4 h5
    have a := (has_iff h hN h1 h2).1 h4
    have b := (has_iff k hM t1 t2).1 h5
    rw [two_of h1] at h3
    exact H i h1 h2 (by omega) a.1 a.2 t t1 t2 b.1 b.2
theorem ask0 (a b : Int) : askb 0 a b = true ↔ a = b := by simp [askb]
theorem ask1 (a b : Int) : askb 1 a b = true ↔ a ≤ b := by simp [askb]
theorem ask2 (a b : Int) : askb 2 a b = true ↔ a < b := by simp [askb]
theorem ask3 (a b : Int) : askb 3 a b = true ↔ b < a := by simp [askb]
theorem ask4 (a b : Int) : askb 4 a b = true ↔ b ≤ a := by simp [askb]
theorem ask5 (a b : Int) : askb 5 a b = true ↔ a ≠ b := by simp [askb]
section
variable {P Q R S n : Int} {N M : Bool} (h : Ivn P Q n) (k : Ivn R S n) (hN : N = true ↔ Q < P) (hM : M = true ↔ S < R)
include h k hN hM
theorem ES0 : ES 0 N P Q M R S n n ↔ Q < P ∨ R ≤ P ∧ Q ≤ S := by
  rw [ES_iff h k hN hM]
  simp only [ask0]
  by_cases c : P ≤ Q
  · obtain ⟨i, i1, i2, i3, i4, i5, i6⟩ := at_lo h c
    obtain ⟨j, j1, j2, j3, j4, j5, j6⟩ := at_hi h c
    obtain ⟨⟨a, b, m, e1, e2, e3⟩, h4, h⟩ := h
    obtain ⟨⟨a', b', m', e1', e2', e3'⟩, h4', k⟩ := k
    constructor
    · intro H
      obtain ⟨t, t1, t2, t3, t4, t5⟩ := H i i1 i2 i3 i4 i5
      obtain ⟨u, u1, u2, u3, u4, u5⟩ := H j j1 j2 j3 j4 j5
      clear h hN hM
      omega
    · intro H x x1 x2 x3 x4 x5
      exact ⟨x, x1, x2, by omega, by omega, rfl⟩
  · constructor
    · intro _; omega
    · intro _ x x1 x2 x3 x4 x5; omega
/-- For each of the first a point of the second that is not below. -/
theorem ES1 : ES 1 N P Q M R S n n ↔ Q < P ∨ R ≤ S ∧ Q ≤ S := by
  rw [ES_iff h k hN hM]
  simp only [ask1]
  by_cases c : P ≤ Q
  · obtain ⟨j, j1, j2, j3, j4, j5, j6⟩ := at_hi h c
    by_cases d : R ≤ S
    · obtain ⟨u, u1, u2, u3, u4, u5⟩ := at_n k d
      obtain ⟨⟨a, b, m, e1, e2, e3⟩, h4, h⟩ := h
      obtain ⟨⟨a', b', m', e1', e2', e3'⟩, h4', k⟩ := k
      constructor
      · intro H
        obtain ⟨t, t1, t2, t3, t4, t5⟩ := H j j1 j2 j3 j4 j5
        clear h hN hM
        omega
      · intro H x x1 x2 x3 x4 x5
        exact ⟨u, u1, u2, u3, u4, by omega⟩
    · constructor
      · intro H
        obtain ⟨t, t1, t2, t3, t4, t5⟩ := H j j1 j2 j3 j4 j5
        omega
      · intro H; omega
  · constructor
    · intro _; omega
    · intro _ x x1 x2 x3 x4 x5; omega
theorem ES4 : ES 4 N P Q M R S n n ↔ Q < P ∨ R ≤ S ∧ R ≤ P := by
  rw [ES_iff h k hN hM]
  simp only [ask4]
  by_cases c : P ≤ Q
  · obtain ⟨j, j1, j2, j3, j4, j5, j6⟩ := at_lo h c
    by_cases d : R ≤ S
    · obtain ⟨u, u1, u2, u3, u4, u5⟩ := at_1 k d
      obtain ⟨⟨a, b, m, e1, e2, e3⟩, h4, h⟩ := h
      obtain ⟨⟨a', b', m', e1', e2', e3'⟩, h4', k⟩ := k
      constructor
      · intro H
        obtain ⟨t, t1, t2, t3, t4, t5⟩ := H j j1 j2 j3 j4 j5
        clear h hN hM
        omega
      · intro H x x1 x2 x3 x4 x5
        exact ⟨u, u1, u2, u3, u4, by omega⟩
    · constructor
      · intro H
        obtain ⟨t, t1, t2, t3, t4, t5⟩ := H j j1 j2 j3 j4 j5
        omega
      · intro H; omega
  · constructor
    · intro _; omega
    · intro _ x x1 x2 x3 x4 x5; omega
theorem ES2 : ES 2 N P Q M R S n n ↔ Q < P ∨ R ≤ S ∧ (Q < S ∨ Q = S ∧ Q = n) := by
  rw [ES_iff h k hN hM]
  simp only [ask2]
  by_cases c : P ≤ Q
  · obtain ⟨j, j1, j2, j3, j4, j5, j6⟩ := at_hi h c
    by_cases d : R ≤ S
    · obtain ⟨u, u1, u2, u3, u4, u5⟩ := at_n k d
      obtain ⟨⟨a, b, m, e1, e2, e3⟩, h4, h⟩ := h
      obtain ⟨⟨a', b', m', e1', e2', e3'⟩, h4', k⟩ := k
      constructor
      · intro H
        obtain ⟨t, t1, t2, t3, t4, t5⟩ := H j j1 j2 j3 j4 j5
        clear h hN hM
        omega
      · intro H x x1 x2 x3 x4 x5
        exact ⟨u, u1, u2, u3, u4, by omega⟩
    · constructor
      · intro H
        obtain ⟨t, t1, t2, t3, t4, t5⟩ := H j j1 j2 j3 j4 j5
        omega
      · intro H; omega
  · constructor
    · intro _; omega
    · intro _ x x1 x2 x3 x4 x5; omega
theorem ES3 : ES 3 N P Q M R S n n ↔ Q < P ∨ R ≤ S ∧ (R < P ∨ R = P ∧ R = 0) := by
  rw [ES_iff h k hN hM]
  simp only [ask3]
  by_cases c : P ≤ Q
  · obtain ⟨j, j1, j2, j3, j4, j5, j6⟩ := at_lo h c
    by_cases d : R ≤ S
    · obtain ⟨u, u1, u2, u3, u4, u5⟩ := at_1 k d
      obtain ⟨⟨a, b, m, e1, e2, e3⟩, h4, h⟩ := h
      obtain ⟨⟨a', b', m', e1', e2', e3'⟩, h4', k⟩ := k
      constructor
      · intro H
        obtain ⟨t, t1, t2, t3, t4, t5⟩ := H j j1 j2 j3 j4 j5
        clear h hN hM
        omega
      · intro H x x1 x2 x3 x4 x5
        exact ⟨u, u1, u2, u3, u4, by omega⟩
    · constructor
      · intro H
        obtain ⟨t, t1, t2, t3, t4, t5⟩ := H j j1 j2 j3 j4 j5
        omega
      · intro H; omega
  · constructor
    · intro _; omega
    · intro _ x x1 x2 x3 x4 x5; omega
theorem EE1 : EE 1 N P Q M R S n n ↔ Q < P ∨ S < R ∨ Q ≤ R := by
  rw [EE_iff h k hN hM]
  simp only [ask1]
  by_cases c : P ≤ Q
  · by_cases d : R ≤ S
    · obtain ⟨j, j1, j2, j3, j4, j5, j6⟩ := at_hi h c
      obtain ⟨u, u1, u2, u3, u4, u5⟩ := at_1 k d
      obtain ⟨⟨a, b, m, e1, e2, e3⟩, h4, h⟩ := h
      obtain ⟨⟨a', b', m', e1', e2', e3'⟩, h4', k⟩ := k
      constructor
      · intro H
        have := H j j1 j2 j3 j4 j5 u u1 u2 u3 u4
        clear hN hM
        omega
      · intro H x x1 x2 x3 x4 x5 t t1 t2 t3 t4
        omega
    · constructor
      · intro _; omega
      · intro _ x x1 x2 x3 x4 x5 t t1 t2 t3 t4; omega
  · constructor
    · intro _; omega
    · intro _ x x1 x2 x3 x4 x5; omega
theorem EE2 : EE 2 N P Q M R S n n ↔ Q < P ∨ S < R ∨ Q < R := by
  rw [EE_iff h k hN hM]
  simp only [ask2]
  by_cases c : P ≤ Q
  · by_cases d : R ≤ S
    · obtain ⟨j, j1, j2, j3, j4, j5, j6⟩ := at_hi h c
      obtain ⟨u, u1, u2, u3, u4, u5⟩ := at_1 k d
      obtain ⟨⟨a, b, m, e1, e2, e3⟩, h4, h⟩ := h
      obtain ⟨⟨a', b', m', e1', e2', e3'⟩, h4', k⟩ := k
      constructor
      · intro H
        have := H j j1 j2 j3 j4 j5 u u1 u2 u3 u4
        clear hN hM
        omega
      · intro H x x1 x2 x3 x4 x5 t t1 t2 t3 t4
        omega
    · constructor
      · intro _; omega
      · intro _ x x1 x2 x3 x4 x5 t t1 t2 t3 t4; omega
  · constructor
    · intro _; omega
    · intro _ x x1 x2 x3 x4 x5; omega
theorem EE5 : EE 5 N P Q M R S n n ↔ Q < P ∨ S < R ∨ Q < R ∨ S < P := by
  rw [EE_iff h k hN hM]
  simp only [ask5]
  by_cases c : P ≤ Q
  · by_cases d : R ≤ S
    · obtain ⟨j, j1, j2, j3, j4, j5, j6⟩ := at_lo h c
      obtain ⟨u, u1, u2, u3, u4, u5, u6⟩ := at_lo k d
      obtain ⟨⟨a, b, m, e1, e2, e3⟩, h4, h⟩ := h
      obtain ⟨⟨a', b', m', e1', e2', e3'⟩, h4', k⟩ := k
      constructor
      · intro H
        by_cases z : R ≤ P
        · have := H j j1 j2 j3 j4 j5 j j1 j2 (by omega)
          by_cases y : j ≤ S
          · exact absurd rfl (this y)
          · omega
        · have := H u u1 u2 u3 (by omega)
          by_cases y : u ≤ Q
          · exact absurd rfl (this y u u1 u2 u4 u5)
          · omega
      · intro H x x1 x2 x3 x4 x5 t t1 t2 t3 t4
        omega
    · constructor
      · intro _; omega
      · intro _ x x1 x2 x3 x4 x5 t t1 t2 t3 t4; omega
  · constructor
    · intro _; omega
    · intro _ x x1 x2 x3 x4 x5; omega
end
end Go.Proofs.Ytljnadoodbninaa

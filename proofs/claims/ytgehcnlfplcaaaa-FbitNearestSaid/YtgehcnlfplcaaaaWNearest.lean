/- The contract of 'nearest': no number is nearer to an integer than Of's. -/
import Derived.Test.YtgehcnlfplcaaaaWOf
import Derived.Test.YtgehcnlfplcaaaaWFollow
import Derived.Test.YtgehcnlfplcaaaaMNearest
namespace Go.Proofs.Ytgehcnlfplcaaaa
open Go.RowKit

/-- What the program's tests say of an integer's number and its neighbours. -/
theorem iof_pl64 {n z : Int} {o : Bool} (h1 : -9223372036854775808 ≤ n) (h2 : n ≤ 9223372036854775807) (h : Vg.IOf true n z o) : z.toNat ≤ 18446744073709551615 ∧ Vg.nn true z.toNat = false ∧ z.toNat = floatOfInt (Vg.fm true) n ∧ (-9218868437227405312 < Vg.pl true z.toNat ∧ Vg.pl true z.toNat < 9218868437227405312) := by
  have b := h.bd h1 h2
  have e : z.toNat = floatOfInt (Vg.fm true) n := by rw [h.1]; rfl
  obtain ⟨r, r1, -, -, r4⟩ := Vg.of_pl true n h1 h2
  simp only [Vg.S, if_true] at b
  simp only [Vg.INF, if_true] at r1
  refine ⟨by omega, b.2.2, e, ?_⟩
  rw [e, r4]
  split <;> omega
theorem n164 {n m y z : Int} {o u : Bool} (h1 : -9223372036854775808 ≤ n) (h2 : n ≤ 9223372036854775807) (k1 : -9223372036854775808 ≤ m) (k2 : m ≤ 9223372036854775807) (h : Vg.IOf true n z o) (k : Vg.IOf true m y u) :
    decide (n < m) = true ∧ (FloatKind.f64.format.order z.toNat y.toNat == some Ordering.gt) = false ∧ (n == m) = false ∨ decide (n < m) = false ∧ (n == m) = true ∧ (FloatKind.f64.format.order z.toNat y.toNat != some Ordering.eq) = false ∨ decide (n < m) = false ∧ (n == m) = false := by
  obtain ⟨a1, a2, a3, -⟩ := iof_pl64 h1 h2 h
  obtain ⟨b1, b2, b3, -⟩ := iof_pl64 k1 k2 k
  rcases Int.lt_trichotomy n m with c | c | c
  · left
    have := Vg.of_mono true (Int.le_of_lt c) h1 k2
    refine ⟨decide_eq_true c, ?_, by rw [beq_eq_false_iff_ne]; omega⟩
    rw [ord_gt64 _ _ a1 b1, a2, b2, a3, b3]
    simp only [Bool.not_false, Bool.true_and, decide_eq_false_iff_not]; omega
  · right; left
    subst c
    refine ⟨decide_eq_false (by omega), by rw [beq_iff_eq], ?_⟩
    obtain ⟨rfl, -⟩ := h.same k
    rw [self_ne64 _ a1, a2]
  · right; right
    exact ⟨decide_eq_false (by omega), by rw [beq_eq_false_iff_ne]; omega⟩
theorem n264 {n y z : Int} {o u : Bool} (h1 : -9223372036854775808 < n) (h2 : n ≤ 9223372036854775807) (h0 : n ≠ 0) (h : Vg.IOf true n z o) (k : Vg.IOf true (-n) y u) : (FloatKind.f64.format.order y.toNat (Vg.ngf true z.toNat) != some Ordering.eq) = false := by
  obtain ⟨a1, a2, a3, -⟩ := iof_pl64 (by omega) h2 h
  obtain ⟨b1, b2, b3, -⟩ := iof_pl64 (by omega) (by omega) k
  obtain ⟨c1, -, c3, c4⟩ := Vg.ngf64 _ a1
  have e := ord_eq64 _ _ b1 c1
  rw [b2, c3, a2, c4, b3, a3, Vg.of_neg true h1 h2 h0] at e
  unfold bne
  rw [b3, a3, e]; simp
theorem n364 {n z w : Int} {o t : Bool} (h1 : -9223372036854775808 ≤ n) (h2 : n ≤ 9223372036854775807) (h : Vg.IOf true n z o) (hw : Vg.Wh true z.toNat w t) :
    o = true ∧ t = true ∧ w = n ∨ o = false ∧ t = false ∨ o = false ∧ t = true ∧ w < n ∨ o = false ∧ t = true ∧ n < w := by
  obtain ⟨a1, a2, a3, -⟩ := iof_pl64 h1 h2 h
  have e := Vg.of_whole h1 h2 (by rw [a3] at hw; exact hw)
  rw [h.2, ← e]
  cases t
  · right; left; exact ⟨rfl, rfl⟩
  · rcases Int.lt_trichotomy w n with c | c | c
    · right; right; left; exact ⟨decide_eq_false (by omega), rfl, c⟩
    · left; exact ⟨decide_eq_true c, rfl, c⟩
    · right; right; right; exact ⟨decide_eq_false (by omega), rfl, c⟩
theorem n464 {n z w a : Int} {o p : Bool} {u : Nat} (h1 : -9223372036854775808 ≤ n) (h2 : n ≤ 9223372036854775807) (h : Vg.IOf true n z o) (hw : Vg.Wh true z.toNat w true) (hu : IsUp64 z.toNat u) (ha : Vg.Wh true u a p) (hlt : w < n) :
    p = false ∨ p = true ∧ n < a ∧ decide (IntKind.u64.wrap (IntKind.u64.wrap a - IntKind.u64.wrap n) < IntKind.u64.wrap (IntKind.u64.wrap n - IntKind.u64.wrap w)) = false := by
  cases p
  · left; rfl
  · right
    obtain ⟨a1, a2, a3, a4⟩ := iof_pl64 h1 h2 h
    obtain ⟨-, -, u3⟩ := nb_up64 hu a1
    have hb : -9223372036854775808 ≤ w ∧ -9223372036854775808 ≤ a ∧ a ≤ 9223372036854775807 := by
      rcases hw with ⟨_, _, _, _, hh, _, _⟩ | ⟨_, _, hh⟩
      · rcases ha with ⟨_, _, _, _, g1, g2, _⟩ | ⟨_, _, hh⟩
        · exact ⟨hh, g1, g2⟩
        · cases hh
      · cases hh
    have hp : Vg.pl true u = Vg.pl true (floatOfInt (Vg.fm true) n) + 1 := by
      rw [← a3]
      rcases u3 a2 with ⟨c, -⟩ | ⟨-, c⟩
      · omega
      · exact c
    obtain ⟨r1, r2⟩ := Vg.near_up true h1 h2 (by rw [← a3]; exact hw) hp ha hlt
    refine ⟨rfl, r1, decide_eq_false ?_⟩
    simp only [IntKind.wrap_u64]; omega
theorem n564 {n z w a : Int} {o p : Bool} {u : Nat} (h1 : -9223372036854775808 ≤ n) (h2 : n ≤ 9223372036854775807) (h : Vg.IOf true n z o) (hw : Vg.Wh true z.toNat w true) (hu : IsDn64 z.toNat u) (ha : Vg.Wh true u a p) (hlt : n < w) :
    p = false ∨ p = true ∧ a < n ∧ decide (IntKind.u64.wrap (IntKind.u64.wrap n - IntKind.u64.wrap a) < IntKind.u64.wrap (IntKind.u64.wrap w - IntKind.u64.wrap n)) = false := by
  cases p
  · left; rfl
  · right
    obtain ⟨a1, a2, a3, a4⟩ := iof_pl64 h1 h2 h
    obtain ⟨-, -, u3⟩ := nb_dn64 hu a1
    have hb : w ≤ 9223372036854775807 ∧ -9223372036854775808 ≤ a ∧ a ≤ 9223372036854775807 := by
      rcases hw with ⟨_, _, _, _, _, hh, _⟩ | ⟨_, _, hh⟩
      · rcases ha with ⟨_, _, _, _, g1, g2, _⟩ | ⟨_, _, hh⟩
        · exact ⟨hh, g1, g2⟩
        · cases hh
      · cases hh
    have hp : Vg.pl true u = Vg.pl true (floatOfInt (Vg.fm true) n) - 1 := by
      rw [← a3]
      rcases u3 a2 with ⟨c, -⟩ | ⟨-, c⟩
      · omega
      · exact c
    obtain ⟨r1, r2⟩ := Vg.near_down true h1 h2 (by rw [← a3]; exact hw) hp ha hlt
    refine ⟨rfl, r1, decide_eq_false ?_⟩
    simp only [IntKind.wrap_u64]; omega
theorem of_exact64 {z : Int} {o : Bool} (h : Vg.IOf true (-9223372036854775808) z o ∨ Vg.IOf true 0 z o) : o = true := by
  rcases h with h | h
  · rw [h.2]; decide +kernel
  · rw [h.2]; decide +kernel
theorem nf_up64 {n z : Int} {o : Bool} {u : Nat} (h1 : -9223372036854775808 ≤ n) (h2 : n ≤ 9223372036854775807) (h : Vg.IOf true n z o) (hu : IsUp64 z.toNat u ∨ IsDn64 z.toNat u) : u ≤ 18446744073709551615 := by
  obtain ⟨a1, -, -, -⟩ := iof_pl64 h1 h2 h
  rcases hu with hu | hu
  · exact (nb_up64 hu a1).1
  · exact hu.1

/-- What the program's tests say of an integer's number and its neighbours. -/
theorem iof_pl32 {n z : Int} {o : Bool} (h1 : -9223372036854775808 ≤ n) (h2 : n ≤ 9223372036854775807) (h : Vg.IOf false n z o) : z.toNat ≤ 4294967295 ∧ Vg.nn false z.toNat = false ∧ z.toNat = floatOfInt (Vg.fm false) n ∧ (-2139095040 < Vg.pl false z.toNat ∧ Vg.pl false z.toNat < 2139095040) := by
  have b := h.bd h1 h2
  have e : z.toNat = floatOfInt (Vg.fm false) n := by rw [h.1]; rfl
  obtain ⟨r, r1, -, -, r4⟩ := Vg.of_pl false n h1 h2
  simp only [Vg.S, Bool.false_eq_true, if_false] at b
  simp only [Vg.INF, Bool.false_eq_true, if_false] at r1
  refine ⟨by omega, b.2.2, e, ?_⟩
  rw [e, r4]
  split <;> omega
theorem n132 {n m y z : Int} {o u : Bool} (h1 : -9223372036854775808 ≤ n) (h2 : n ≤ 9223372036854775807) (k1 : -9223372036854775808 ≤ m) (k2 : m ≤ 9223372036854775807) (h : Vg.IOf false n z o) (k : Vg.IOf false m y u) :
    decide (n < m) = true ∧ (FloatKind.f32.format.order z.toNat y.toNat == some Ordering.gt) = false ∧ (n == m) = false ∨ decide (n < m) = false ∧ (n == m) = true ∧ (FloatKind.f32.format.order z.toNat y.toNat != some Ordering.eq) = false ∨ decide (n < m) = false ∧ (n == m) = false := by
  obtain ⟨a1, a2, a3, -⟩ := iof_pl32 h1 h2 h
  obtain ⟨b1, b2, b3, -⟩ := iof_pl32 k1 k2 k
  rcases Int.lt_trichotomy n m with c | c | c
  · left
    have := Vg.of_mono false (Int.le_of_lt c) h1 k2
    refine ⟨decide_eq_true c, ?_, by rw [beq_eq_false_iff_ne]; omega⟩
    rw [ord_gt32 _ _ a1 b1, a2, b2, a3, b3]
    simp only [Bool.not_false, Bool.true_and, decide_eq_false_iff_not]; omega
  · right; left
    subst c
    refine ⟨decide_eq_false (by omega), by rw [beq_iff_eq], ?_⟩
    obtain ⟨rfl, -⟩ := h.same k
    rw [self_ne32 _ a1, a2]
  · right; right
    exact ⟨decide_eq_false (by omega), by rw [beq_eq_false_iff_ne]; omega⟩
theorem n232 {n y z : Int} {o u : Bool} (h1 : -9223372036854775808 < n) (h2 : n ≤ 9223372036854775807) (h0 : n ≠ 0) (h : Vg.IOf false n z o) (k : Vg.IOf false (-n) y u) : (FloatKind.f32.format.order y.toNat (Vg.ngf false z.toNat) != some Ordering.eq) = false := by
  obtain ⟨a1, a2, a3, -⟩ := iof_pl32 (by omega) h2 h
  obtain ⟨b1, b2, b3, -⟩ := iof_pl32 (by omega) (by omega) k
  obtain ⟨c1, -, c3, c4⟩ := Vg.ngf32 _ a1
  have e := ord_eq32 _ _ b1 c1
  rw [b2, c3, a2, c4, b3, a3, Vg.of_neg false h1 h2 h0] at e
  unfold bne
  rw [b3, a3, e]; simp
theorem n332 {n z w : Int} {o t : Bool} (h1 : -9223372036854775808 ≤ n) (h2 : n ≤ 9223372036854775807) (h : Vg.IOf false n z o) (hw : Vg.Wh false z.toNat w t) :
    o = true ∧ t = true ∧ w = n ∨ o = false ∧ t = false ∨ o = false ∧ t = true ∧ w < n ∨ o = false ∧ t = true ∧ n < w := by
  obtain ⟨a1, a2, a3, -⟩ := iof_pl32 h1 h2 h
  have e := Vg.of_whole h1 h2 (by rw [a3] at hw; exact hw)
  rw [h.2, ← e]
  cases t
  · right; left; exact ⟨rfl, rfl⟩
  · rcases Int.lt_trichotomy w n with c | c | c
    · right; right; left; exact ⟨decide_eq_false (by omega), rfl, c⟩
    · left; exact ⟨decide_eq_true c, rfl, c⟩
    · right; right; right; exact ⟨decide_eq_false (by omega), rfl, c⟩
theorem n432 {n z w a : Int} {o p : Bool} {u : Nat} (h1 : -9223372036854775808 ≤ n) (h2 : n ≤ 9223372036854775807) (h : Vg.IOf false n z o) (hw : Vg.Wh false z.toNat w true) (hu : IsUp32 z.toNat u) (ha : Vg.Wh false u a p) (hlt : w < n) :
    p = false ∨ p = true ∧ n < a ∧ decide (IntKind.u64.wrap (IntKind.u64.wrap a - IntKind.u64.wrap n) < IntKind.u64.wrap (IntKind.u64.wrap n - IntKind.u64.wrap w)) = false := by
  cases p
  · left; rfl
  · right
    obtain ⟨a1, a2, a3, a4⟩ := iof_pl32 h1 h2 h
    obtain ⟨-, -, u3⟩ := nb_up32 hu a1
    have hb : -9223372036854775808 ≤ w ∧ -9223372036854775808 ≤ a ∧ a ≤ 9223372036854775807 := by
      rcases hw with ⟨_, _, _, _, hh, _, _⟩ | ⟨_, _, hh⟩
      · rcases ha with ⟨_, _, _, _, g1, g2, _⟩ | ⟨_, _, hh⟩
        · exact ⟨hh, g1, g2⟩
        · cases hh
      · cases hh
    have hp : Vg.pl false u = Vg.pl false (floatOfInt (Vg.fm false) n) + 1 := by
      rw [← a3]
      rcases u3 a2 with ⟨c, -⟩ | ⟨-, c⟩
      · omega
      · exact c
    obtain ⟨r1, r2⟩ := Vg.near_up false h1 h2 (by rw [← a3]; exact hw) hp ha hlt
    refine ⟨rfl, r1, decide_eq_false ?_⟩
    simp only [IntKind.wrap_u64]; omega
theorem n532 {n z w a : Int} {o p : Bool} {u : Nat} (h1 : -9223372036854775808 ≤ n) (h2 : n ≤ 9223372036854775807) (h : Vg.IOf false n z o) (hw : Vg.Wh false z.toNat w true) (hu : IsDn32 z.toNat u) (ha : Vg.Wh false u a p) (hlt : n < w) :
    p = false ∨ p = true ∧ a < n ∧ decide (IntKind.u64.wrap (IntKind.u64.wrap n - IntKind.u64.wrap a) < IntKind.u64.wrap (IntKind.u64.wrap w - IntKind.u64.wrap n)) = false := by
  cases p
  · left; rfl
  · right
    obtain ⟨a1, a2, a3, a4⟩ := iof_pl32 h1 h2 h
    obtain ⟨-, -, u3⟩ := nb_dn32 hu a1
    have hb : w ≤ 9223372036854775807 ∧ -9223372036854775808 ≤ a ∧ a ≤ 9223372036854775807 := by
      rcases hw with ⟨_, _, _, _, _, hh, _⟩ | ⟨_, _, hh⟩
      · rcases ha with ⟨_, _, _, _, g1, g2, _⟩ | ⟨_, _, hh⟩
        · exact ⟨hh, g1, g2⟩
        · cases hh
      · cases hh
    have hp : Vg.pl false u = Vg.pl false (floatOfInt (Vg.fm false) n) - 1 := by
      rw [← a3]
      rcases u3 a2 with ⟨c, -⟩ | ⟨-, c⟩
      · omega
      · exact c
    obtain ⟨r1, r2⟩ := Vg.near_down false h1 h2 (by rw [← a3]; exact hw) hp ha hlt
    refine ⟨rfl, r1, decide_eq_false ?_⟩
    simp only [IntKind.wrap_u64]; omega
theorem of_exact32 {z : Int} {o : Bool} (h : Vg.IOf false (-9223372036854775808) z o ∨ Vg.IOf false 0 z o) : o = true := by
  rcases h with h | h
  · rw [h.2]; decide +kernel
  · rw [h.2]; decide +kernel
theorem nf_up32 {n z : Int} {o : Bool} {u : Nat} (h1 : -9223372036854775808 ≤ n) (h2 : n ≤ 9223372036854775807) (h : Vg.IOf false n z o) (hu : IsUp32 z.toNat u ∨ IsDn32 z.toNat u) : u ≤ 4294967295 := by
  obtain ⟨a1, -, -, -⟩ := iof_pl32 h1 h2 h
  rcases hu with hu | hu
  · exact (nb_up32 hu a1).1
  · exact hu.1

end Go.Proofs.Ytgehcnlfplcaaaa

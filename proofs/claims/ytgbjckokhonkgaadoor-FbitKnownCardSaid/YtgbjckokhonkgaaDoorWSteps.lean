/- Contracts of Steps: the program's and the reference's. -/
import Derived.Test.YtgbjckokhonkgaaDoorWPlace
namespace Go.Proofs.YtgbjckokhonkgaaDoor
open Go.RowKit

/-- A number and a truth are told, and nothing that was there has changed. -/
def Told2 (R : Int → Bool → Prop) (w : World) (e : Ending) (w' : World) : Prop := ∃ d o, e = .returned (.tuple #[.int .i64 d, .bool o]) ∧ R d o ∧ Below w.heap.size w w'

/-- What Steps makes of two places. -/
def StV (p : Int) (u : Bool) (q : Int) (v : Bool) (d : Int) (o : Bool) : Prop :=
  (u && v) = false ∧ d = 0 ∧ o = false ∨ (u && v) = true ∧ (-9223372036854775808 ≤ q - p ∧ q - p ≤ 9223372036854775807) ∧ d = q - p ∧ o = true ∨ (u && v) = true ∧ ¬ (-9223372036854775808 ≤ q - p ∧ q - p ≤ 9223372036854775807) ∧ d = 0 ∧ o = false
theorem StV.same {p q d e : Int} {u v o r : Bool} (h : StV p u q v d o) (k : StV p u q v e r) : d = e ∧ o = r := by
  rcases h with ⟨h1, rfl, rfl⟩ | ⟨h1, h2, rfl, rfl⟩ | ⟨h1, h2, rfl, rfl⟩ <;> rcases k with ⟨k1, rfl, rfl⟩ | ⟨k1, k2, rfl, rfl⟩ | ⟨k1, k2, rfl, rfl⟩ <;> simp_all

def IsSt64 (a b : Nat) (d : Int) (o : Bool) : Prop := ∃ p u q v, IsPl64 a p u ∧ IsPl64 b q v ∧ StV p u q v d o
theorem IsSt64.same {a b : Nat} {d e : Int} {o r : Bool} (h : IsSt64 a b d o) (k : IsSt64 a b e r) : d = e ∧ o = r := by
  obtain ⟨p, u, q, v, h1, h2, h3⟩ := h
  obtain ⟨p', u', q', v', k1, k2, k3⟩ := k
  obtain ⟨rfl, rfl⟩ := h1.same k1
  obtain ⟨rfl, rfl⟩ := h2.same k2
  exact h3.same k3
theorem IsPl64.bd {b : Nat} {p : Int} {o : Bool} (h : IsPl64 b p o) : -9218868437227405312 ≤ p ∧ p ≤ 9218868437227405312 := by
  obtain ⟨-, h⟩ := h
  subst h
  simp only [Vg.nn, Vg.INF, Vg.pl, if_true, decide_eq_true_eq]
  (repeat' split) <;> omega

def IsSt32 (a b : Nat) (d : Int) (o : Bool) : Prop := ∃ p u q v, IsPl32 a p u ∧ IsPl32 b q v ∧ StV p u q v d o
theorem IsSt32.same {a b : Nat} {d e : Int} {o r : Bool} (h : IsSt32 a b d o) (k : IsSt32 a b e r) : d = e ∧ o = r := by
  obtain ⟨p, u, q, v, h1, h2, h3⟩ := h
  obtain ⟨p', u', q', v', k1, k2, k3⟩ := k
  obtain ⟨rfl, rfl⟩ := h1.same k1
  obtain ⟨rfl, rfl⟩ := h2.same k2
  exact h3.same k3
theorem IsPl32.bd {b : Nat} {p : Int} {o : Bool} (h : IsPl32 b p o) : -2139095040 ≤ p ∧ p ≤ 2139095040 := by
  obtain ⟨-, h⟩ := h
  subst h
  simp only [Vg.nn, Vg.INF, Vg.pl, Bool.false_eq_true, if_false, decide_eq_true_eq]
  (repeat' split) <;> omega

set_option maxHeartbeats 1000000 in
theorem steps64 (a b : Nat) (ha : a ≤ 18446744073709551615) (hb : b ≤ 18446744073709551615) (w : World) : Calls Tryd.prog 14 #[.float .f64 a, .float .f64 b] w (Told2 (IsSt64 a b) w) := by
  have HA := hide ha
  have HB := hide hb
  clear ha hb
  go_enter Tryd.func14, Tryd.ntmps14
  go_wp2_with fail
  refine (place64 a HA.out _).mono ?_; rintro e w1 ⟨p, u, rfl, h1, hb1⟩
  go_wp2_with fail
  refine (place64 b HB.out _).mono ?_; rintro e w2 ⟨q, v, rfl, h2, hb2⟩
  have PB := hide h1.bd
  have QB := hide h2.bd
  have H1 := hide h1
  have H2 := hide h2
  clear h1 h2
  cases u
  · go_wp2
    go_ret2
    exact ⟨_, _, rfl, ⟨p, _, q, _, H1.out, H2.out, .inl ⟨rfl, rfl, rfl⟩⟩, bch hb1 hb2⟩
  cases v
  · go_wp2
    go_ret2
    exact ⟨_, _, rfl, ⟨p, _, q, _, H1.out, H2.out, .inl ⟨rfl, rfl, rfl⟩⟩, bch hb1 hb2⟩
  by_cases hr : -9223372036854775808 ≤ q - p ∧ q - p ≤ 9223372036854775807
  · have HR := hide hr
    have e : wrap64 (q - p) = q - p := by unfold wrap64; omega
    clear hr
    rcases Int.lt_trichotomy p q with hl | hl | hl
    · have t1 : decide (0 < q - p) = true := decide_eq_true (by omega)
      have t2 : decide (q - p < 0) = false := decide_eq_false (by omega)
      have t3 : decide (p < q) = true := decide_eq_true (by omega)
      have t4 : decide (q < p) = false := decide_eq_false (by omega)
      clear hl
      go_wp2
      go_ret2
      exact ⟨_, _, rfl, ⟨p, _, q, _, H1.out, H2.out, .inr (.inl ⟨rfl, HR.out, by have := HR.out; unfold wrap64; omega, rfl⟩)⟩, bch hb1 hb2⟩
    · subst hl
      go_wp2
      go_ret2
      exact ⟨_, _, rfl, ⟨p, _, p, _, H1.out, H2.out, .inr (.inl ⟨rfl, HR.out, by omega, rfl⟩)⟩, bch hb1 hb2⟩
    · have t1 : decide (0 < q - p) = false := decide_eq_false (by omega)
      have t2 : decide (q - p < 0) = true := decide_eq_true (by omega)
      have t3 : decide (p < q) = false := decide_eq_false (by omega)
      have t4 : decide (q < p) = true := decide_eq_true (by omega)
      clear hl
      go_wp2
      go_ret2
      exact ⟨_, _, rfl, ⟨p, _, q, _, H1.out, H2.out, .inr (.inl ⟨rfl, HR.out, by have := HR.out; unfold wrap64; omega, rfl⟩)⟩, bch hb1 hb2⟩
  · have HR := hide hr
    obtain ⟨d, e⟩ : ∃ d, wrap64 (q - p) = d := ⟨_, rfl⟩
    have hd : d = (if q - p < 0 then q - p + 18446744073709551616 else q - p - 18446744073709551616) := by
      rw [← e]; have := PB.out; have := QB.out; unfold wrap64; split <;> omega
    rcases Int.lt_trichotomy p q with hl | hl | hl
    · have t1 : decide (0 < d) = false := decide_eq_false (by have := PB.out; have := QB.out; rw [if_neg (by omega)] at hd; omega)
      have t2 : decide (d < 0) = true := decide_eq_true (by have := PB.out; have := QB.out; rw [if_neg (by omega)] at hd; omega)
      have t3 : decide (p < q) = true := decide_eq_true (by omega)
      have t4 : decide (q < p) = false := decide_eq_false (by omega)
      clear hl hd hr
      go_wp2
      go_ret2
      exact ⟨_, _, rfl, ⟨p, _, q, _, H1.out, H2.out, .inr (.inr ⟨rfl, HR.out, rfl, rfl⟩)⟩, bch hb1 hb2⟩
    · exact absurd ⟨by omega, by omega⟩ hr
    · have t1 : decide (0 < d) = true := decide_eq_true (by have := PB.out; have := QB.out; rw [if_pos (by omega)] at hd; omega)
      have t2 : decide (d < 0) = false := decide_eq_false (by have := PB.out; have := QB.out; rw [if_pos (by omega)] at hd; omega)
      have t3 : decide (p < q) = false := decide_eq_false (by omega)
      have t4 : decide (q < p) = true := decide_eq_true (by omega)
      clear hl hd hr
      go_wp2
      go_ret2
      exact ⟨_, _, rfl, ⟨p, _, q, _, H1.out, H2.out, .inr (.inr ⟨rfl, HR.out, rfl, rfl⟩)⟩, bch hb1 hb2⟩

set_option maxHeartbeats 1000000 in
theorem steps32 (a b : Nat) (ha : a ≤ 4294967295) (hb : b ≤ 4294967295) (w : World) : Calls Tryd.prog 15 #[.float .f32 a, .float .f32 b] w (Told2 (IsSt32 a b) w) := by
  have HA := hide ha
  have HB := hide hb
  clear ha hb
  go_enter Tryd.func15, Tryd.ntmps15
  go_wp2_with fail
  refine (place32 a HA.out _).mono ?_; rintro e w1 ⟨p, u, rfl, h1, hb1⟩
  go_wp2_with fail
  refine (place32 b HB.out _).mono ?_; rintro e w2 ⟨q, v, rfl, h2, hb2⟩
  have PB := hide h1.bd
  have QB := hide h2.bd
  have H1 := hide h1
  have H2 := hide h2
  clear h1 h2
  cases u
  · go_wp2
    go_ret2
    exact ⟨_, _, rfl, ⟨p, _, q, _, H1.out, H2.out, .inl ⟨rfl, rfl, rfl⟩⟩, bch hb1 hb2⟩
  cases v
  · go_wp2
    go_ret2
    exact ⟨_, _, rfl, ⟨p, _, q, _, H1.out, H2.out, .inl ⟨rfl, rfl, rfl⟩⟩, bch hb1 hb2⟩
  by_cases hr : -9223372036854775808 ≤ q - p ∧ q - p ≤ 9223372036854775807
  · have HR := hide hr
    have e : wrap64 (q - p) = q - p := by unfold wrap64; omega
    clear hr
    rcases Int.lt_trichotomy p q with hl | hl | hl
    · have t1 : decide (0 < q - p) = true := decide_eq_true (by omega)
      have t2 : decide (q - p < 0) = false := decide_eq_false (by omega)
      have t3 : decide (p < q) = true := decide_eq_true (by omega)
      have t4 : decide (q < p) = false := decide_eq_false (by omega)
      clear hl
      go_wp2
      go_ret2
      exact ⟨_, _, rfl, ⟨p, _, q, _, H1.out, H2.out, .inr (.inl ⟨rfl, HR.out, by have := HR.out; unfold wrap64; omega, rfl⟩)⟩, bch hb1 hb2⟩
    · subst hl
      go_wp2
      go_ret2
      exact ⟨_, _, rfl, ⟨p, _, p, _, H1.out, H2.out, .inr (.inl ⟨rfl, HR.out, by omega, rfl⟩)⟩, bch hb1 hb2⟩
    · have t1 : decide (0 < q - p) = false := decide_eq_false (by omega)
      have t2 : decide (q - p < 0) = true := decide_eq_true (by omega)
      have t3 : decide (p < q) = false := decide_eq_false (by omega)
      have t4 : decide (q < p) = true := decide_eq_true (by omega)
      clear hl
      go_wp2
      go_ret2
      exact ⟨_, _, rfl, ⟨p, _, q, _, H1.out, H2.out, .inr (.inl ⟨rfl, HR.out, by have := HR.out; unfold wrap64; omega, rfl⟩)⟩, bch hb1 hb2⟩
  · have HR := hide hr
    obtain ⟨d, e⟩ : ∃ d, wrap64 (q - p) = d := ⟨_, rfl⟩
    have hd : d = (if q - p < 0 then q - p + 18446744073709551616 else q - p - 18446744073709551616) := by
      rw [← e]; have := PB.out; have := QB.out; unfold wrap64; split <;> omega
    rcases Int.lt_trichotomy p q with hl | hl | hl
    · have t1 : decide (0 < d) = false := decide_eq_false (by have := PB.out; have := QB.out; rw [if_neg (by omega)] at hd; omega)
      have t2 : decide (d < 0) = true := decide_eq_true (by have := PB.out; have := QB.out; rw [if_neg (by omega)] at hd; omega)
      have t3 : decide (p < q) = true := decide_eq_true (by omega)
      have t4 : decide (q < p) = false := decide_eq_false (by omega)
      clear hl hd hr
      go_wp2
      go_ret2
      exact ⟨_, _, rfl, ⟨p, _, q, _, H1.out, H2.out, .inr (.inr ⟨rfl, HR.out, rfl, rfl⟩)⟩, bch hb1 hb2⟩
    · exact absurd ⟨by omega, by omega⟩ hr
    · have t1 : decide (0 < d) = true := decide_eq_true (by have := PB.out; have := QB.out; rw [if_pos (by omega)] at hd; omega)
      have t2 : decide (d < 0) = false := decide_eq_false (by have := PB.out; have := QB.out; rw [if_pos (by omega)] at hd; omega)
      have t3 : decide (p < q) = false := decide_eq_false (by omega)
      have t4 : decide (q < p) = true := decide_eq_true (by omega)
      clear hl hd hr
      go_wp2
      go_ret2
      exact ⟨_, _, rfl, ⟨p, _, q, _, H1.out, H2.out, .inr (.inr ⟨rfl, HR.out, rfl, rfl⟩)⟩, bch hb1 hb2⟩

end Go.Proofs.YtgbjckokhonkgaaDoor

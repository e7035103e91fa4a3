/- Contracts of At: the program's and the reference's. -/
import Derived.Test.YtgbjckokhonkgaaDoorWPlace
namespace Go.Proofs.YtgbjckokhonkgaaDoor
open Go.RowKit

/-- A pattern and a truth are told, and nothing that was there has changed. -/
def ToldU (R : Int → Bool → Prop) (w : World) (e : Ending) (w' : World) : Prop := ∃ z o, e = .returned (.tuple #[.int .u64 z, .bool o]) ∧ R z o ∧ Below w.heap.size w w'
/-- A number and a truth are told, and nothing that was there has changed. -/
def ToldF (k : FloatKind) (R : Int → Bool → Prop) (w : World) (e : Ending) (w' : World) : Prop := ∃ z o, e = .returned (.tuple #[.float k (Int.toNat z), .bool o]) ∧ R z o ∧ Below w.heap.size w w'

/-- What At tells of a place. -/
def IsAt64 (p : Int) (z : Int) (o : Bool) : Prop := (-9218868437227405312 ≤ p ∧ p ≤ 9218868437227405312) ∧ o = true ∧ z = (if p < 0 then 9223372036854775808 - p else p) ∨ ¬ (-9218868437227405312 ≤ p ∧ p ≤ 9218868437227405312) ∧ o = false ∧ z = 0
theorem IsAt64.same {p y z : Int} {o u : Bool} (h : IsAt64 p y o) (k : IsAt64 p z u) : y = z ∧ o = u := by
  rcases h with ⟨h1, rfl, rfl⟩ | ⟨h1, rfl, rfl⟩ <;> rcases k with ⟨k1, rfl, rfl⟩ | ⟨k1, rfl, rfl⟩
  · exact ⟨rfl, rfl⟩
  · exact absurd h1 k1
  · exact absurd k1 h1
  · exact ⟨rfl, rfl⟩
theorem IsAt64.bd {p z : Int} {o : Bool} (h : IsAt64 p z o) : 0 ≤ z ∧ z ≤ 18446744073709551615 ∧ Vg.nn true z.toNat = false := by
  have e : Vg.nn true z.toNat = false ↔ ¬ 9218868437227405312 < z.toNat % 9223372036854775808 := by simp only [Vg.nn, Vg.rg, Vg.S, Vg.INF, if_true, decide_eq_false_iff_not]
  rw [e]
  rcases h with ⟨h1, -, rfl⟩ | ⟨h1, -, rfl⟩
  · split <;> omega
  · omega
theorem IsAt64.ok {p z : Int} {o : Bool} (h : IsAt64 p z o) : IsOk64 z.toNat z := by
  have := h.bd
  exact ⟨by omega, by omega, by omega, .inr ⟨this.2.2, by omega⟩⟩

/-- What At tells of a place. -/
def IsAt32 (p : Int) (z : Int) (o : Bool) : Prop := (-2139095040 ≤ p ∧ p ≤ 2139095040) ∧ o = true ∧ z = (if p < 0 then 2147483648 - p else p) ∨ ¬ (-2139095040 ≤ p ∧ p ≤ 2139095040) ∧ o = false ∧ z = 0
theorem IsAt32.same {p y z : Int} {o u : Bool} (h : IsAt32 p y o) (k : IsAt32 p z u) : y = z ∧ o = u := by
  rcases h with ⟨h1, rfl, rfl⟩ | ⟨h1, rfl, rfl⟩ <;> rcases k with ⟨k1, rfl, rfl⟩ | ⟨k1, rfl, rfl⟩
  · exact ⟨rfl, rfl⟩
  · exact absurd h1 k1
  · exact absurd k1 h1
  · exact ⟨rfl, rfl⟩
theorem IsAt32.bd {p z : Int} {o : Bool} (h : IsAt32 p z o) : 0 ≤ z ∧ z ≤ 4294967295 ∧ Vg.nn false z.toNat = false := by
  have e : Vg.nn false z.toNat = false ↔ ¬ 2139095040 < z.toNat % 2147483648 := by simp only [Vg.nn, Vg.rg, Vg.S, Vg.INF, Bool.false_eq_true, if_false, decide_eq_false_iff_not]
  rw [e]
  rcases h with ⟨h1, -, rfl⟩ | ⟨h1, -, rfl⟩
  · split <;> omega
  · omega
theorem IsAt32.ok {p z : Int} {o : Bool} (h : IsAt32 p z o) : IsOk32 z.toNat z := by
  have := h.bd
  exact ⟨by omega, by omega, by omega, .inr ⟨this.2.2, by omega⟩⟩

set_option maxHeartbeats 1000000 in
theorem at64 (p : Int) (hp : -9223372036854775808 ≤ p ∧ p ≤ 9223372036854775807) (w : World) : Calls Tryd.prog 13 #[.int .i64 p] w (ToldF .f64 (IsAt64 p) w) := by
  by_cases h1 : -9218868437227405312 ≤ p ∧ p ≤ 9218868437227405312
  · have t1 : decide (9218868437227405312 < p) = false := decide_eq_false (by omega)
    have t2 : decide (p < -9218868437227405312) = false := decide_eq_false (by omega)
    by_cases h2 : p < 0
    · have HR := hide (show IsAt64 p (9223372036854775808 - p) true from .inl ⟨h1, rfl, by rw [if_pos h2]⟩)
      obtain ⟨m, hm⟩ : ∃ m : Nat, p = -(m : Int) := ⟨(-p).toNat, by omega⟩
      have hm1 : m ≤ 9223372036854775807 := by omega
      have e1 := Vg.orSign64 m hm1
      have t3 : decide (p < 0) = true := decide_eq_true h2
      have e2 : IntKind.u64.wrap (-p) = (m : Int) := by rw [IntKind.wrap_u64]; omega
      have e3 : wrap64 (-p) = (m : Int) := by unfold wrap64; omega
      have e4 : -p = (m : Int) := by omega
      have HR2 := hide (show IsAt64 p ((m : Int) + 9223372036854775808) true by have := HR.out; rwa [show (9223372036854775808 : Int) - p = (m : Int) + 9223372036854775808 by omega] at this)
      clear h1 h2 hp hm HR
      go_enter Tryd.func13, Tryd.ntmps13
      go_wp2_with (first | (go_at_call 22; refine (format64 _).mono ?_; rintro e w' ⟨rfl, hb1⟩))
      refine (number64 _ (by omega) (by omega) _).mono ?_; rintro e w2 ⟨rfl, rfl⟩
      go_wp2
      go_ret2
      exact ⟨_, _, rfl, HR2.out, hb1.alloc hb1.size _⟩
    · have HR := hide (show IsAt64 p p true from .inl ⟨h1, rfl, by rw [if_neg h2]⟩)
      have t3 : decide (p < 0) = false := decide_eq_false h2
      have p0 : 0 ≤ p := by omega
      have p1 : p ≤ 9218868437227405312 := by omega
      clear h1 h2 hp
      go_enter Tryd.func13, Tryd.ntmps13
      go_wp2_with (first | (go_at_call 22; refine (format64 _).mono ?_; rintro e w' ⟨rfl, hb1⟩))
      refine (number64 _ (by omega) (by omega) _).mono ?_; rintro e w2 ⟨rfl, rfl⟩
      go_wp2
      go_ret2
      exact ⟨_, _, rfl, HR.out, hb1.alloc hb1.size _⟩
  · have HR := hide (show IsAt64 p 0 false from .inr ⟨h1, rfl, rfl⟩)
    by_cases h2 : 9218868437227405312 < p
    · have t1 : decide (9218868437227405312 < p) = true := decide_eq_true h2
      clear h1 h2 hp
      go_enter Tryd.func13, Tryd.ntmps13
      go_wp2_with (first | (go_at_call 22; refine (format64 _).mono ?_; rintro e w' ⟨rfl, hb1⟩))
      go_ret2
      exact ⟨_, _, rfl, HR.out, hb1.alloc hb1.size _⟩
    · have t1 : decide (9218868437227405312 < p) = false := decide_eq_false h2
      have t2 : decide (p < -9218868437227405312) = true := decide_eq_true (by omega)
      clear h1 h2 hp
      go_enter Tryd.func13, Tryd.ntmps13
      go_wp2_with (first | (go_at_call 22; refine (format64 _).mono ?_; rintro e w' ⟨rfl, hb1⟩))
      go_ret2
      exact ⟨_, _, rfl, HR.out, hb1.alloc hb1.size _⟩

end Go.Proofs.YtgbjckokhonkgaaDoor

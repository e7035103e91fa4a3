import Derived.Test.YtljnadoodbninaaMFp
import GoSem.Core.Float
/- Patterns of binary64 (l = true) and of binary32 (l = false) as natural numbers. -/
namespace Vg
open Go

def S (l : Bool) : Nat := if l then 9223372036854775808 else 2147483648
def INF (l : Bool) : Nat := if l then 9218868437227405312 else 2139095040
def FULL (l : Bool) : Nat := if l then 4503599627370496 else 8388608
def fm (l : Bool) : FloatKind := if l then .f64 else .f32

def rg (l : Bool) (b : Nat) : Nat := b % S l
def ng (l : Bool) (b : Nat) : Bool := decide (S l ≤ b)
def nn (l : Bool) (b : Nat) : Bool := decide (INF l < rg l b)
def pl (l : Bool) (b : Nat) : Int := if ng l b then -(rg l b : Int) else rg l b

theorem order_fm (l : Bool) (a b : Nat) (ha : a < 2 * S l) (hb : b < 2 * S l) :
    (fm l).format.order a b = if nn l a || nn l b then none else some (compare (pl l a) (pl l b)) := by
  have hne : ∀ x : Nat, x < 2 * S l → neg (fm l).format x = ng l x := by
    intro x hx
    cases l <;> simp only [neg, ng, S, fm, FloatKind.format, Ieee.Format.signWeight, Ieee.single, Ieee.double] at * <;> (rw [Bool.eq_iff_iff]; simp only [beq_iff_eq, decide_eq_true_eq]; simp at *; omega)
  have hr : ∀ x : Nat, rung (fm l).format x = rg l x := by
    intro x; cases l <;> rfl
  have hp : ∀ x : Nat, x < 2 * S l → place (fm l).format x = pl l x := by
    intro x hx; unfold place pl; rw [hne x hx, hr x]
  have hn : ∀ x : Nat, nan (fm l).format x = nn l x := by
    intro x; unfold nan nn; rw [hr x]; cases l <;> rfl
  rw [order_eq _ (by cases l <;> decide) a b, hn a, hn b, hp a ha, hp b hb]

section
variable (l : Bool) (a b : Nat) (ha : a < 2 * S l) (hb : b < 2 * S l)
include ha
theorem ne_self : ((fm l).format.order a a != some .eq) = nn l a := by
  rw [order_fm l a a ha ha]
  cases nn l a <;> simp
theorem eq_self : ((fm l).format.order a a == some .eq) = !nn l a := by
  rw [order_fm l a a ha ha]
  cases nn l a <;> simp
include hb
theorem eq_iff : ((fm l).format.order a b == some .eq) = (!nn l a && !nn l b && decide (pl l a = pl l b)) := by
  rw [order_fm l a b ha hb]
  cases nn l a <;> cases nn l b <;> simp
  rw [Bool.eq_iff_iff]; simp
theorem ne_iff : ((fm l).format.order a b != some .eq) = !(!nn l a && !nn l b && decide (pl l a = pl l b)) := by
  rw [← eq_iff l a b ha hb]; rfl
theorem lt_iff : ((fm l).format.order a b == some .lt) = (!nn l a && !nn l b && decide (pl l a < pl l b)) := by
  rw [order_fm l a b ha hb]
  cases nn l a <;> cases nn l b <;> simp
  rw [Bool.eq_iff_iff]; simp [Int.compare_eq_lt]
theorem gt_iff : ((fm l).format.order a b == some .gt) = (!nn l a && !nn l b && decide (pl l b < pl l a)) := by
  rw [order_fm l a b ha hb]
  cases nn l a <;> cases nn l b <;> simp
  rw [Bool.eq_iff_iff]; simp [Int.compare_eq_gt]
theorem le_iff : ((fm l).format.order a b == some .lt || (fm l).format.order a b == some .eq) = (!nn l a && !nn l b && decide (pl l a ≤ pl l b)) := by
  rw [lt_iff l a b ha hb, eq_iff l a b ha hb]
  cases nn l a <;> cases nn l b <;> simp
  rw [Bool.eq_iff_iff]; simp; omega
theorem ge_iff : ((fm l).format.order a b == some .gt || (fm l).format.order a b == some .eq) = (!nn l a && !nn l b && decide (pl l b ≤ pl l a)) := by
  rw [gt_iff l a b ha hb, eq_iff l a b ha hb]
  cases nn l a <;> cases nn l b <;> simp
  rw [Bool.eq_iff_iff]; simp; omega
end
end Vg

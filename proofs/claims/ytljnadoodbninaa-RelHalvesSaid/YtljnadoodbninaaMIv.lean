/- Intervals by the places of their ends; and what is read of two patterns. Plain arithmetic. -/
import Derived.Test.YtljnadoodbninaaMNext
import Derived.Laws.Cover2
namespace Vg
open Go

/-- The place of the infinity. -/
def PI : Int := 9218868437227405312
theorem PI_eq : PI = 9218868437227405312 := rfl
theorem PI_pos : 0 < PI := by decide
/-- A place. -/
def Pl (p : Int) : Prop := -PI ≤ p ∧ p ≤ PI
/-- The places of an interval that was read. -/
def Iv (p q : Int) : Prop := p = PI ∧ q = -PI ∨ -PI ≤ p ∧ p ≤ q ∧ q ≤ PI ∧ p < PI ∧ -PI < q
theorem Iv.lo {p q : Int} (h : Iv p q) : Pl p := by have := PI_pos; unfold Iv at h; unfold Pl; omega
theorem Iv.hi {p q : Int} (h : Iv p q) : Pl q := by have := PI_pos; unfold Iv at h; unfold Pl; omega
theorem Iv.empty {p q : Int} (h : Iv p q) (c : q < p) : p = PI ∧ q = -PI := by have := PI_pos; unfold Iv at h; omega
theorem full {p q : Int} (c : ¬ q < p) : ¬ (p = PI ∧ q = -PI) := by have := PI_pos; omega
theorem Iv.dec {p q : Int} (h : Iv p q) : decide (p = PI ∧ q = -PI) = true ∧ q < p ∨ decide (p = PI ∧ q = -PI) = false ∧ p ≤ q := by
  have := PI_pos; unfold Iv at h
  by_cases c : q < p
  · left; exact ⟨decide_eq_true (by omega), c⟩
  · right; exact ⟨decide_eq_false (by omega), by omega⟩
theorem Pl.bd {p : Int} (h : Pl p) : -9218868437227405312 ≤ p ∧ p ≤ 9218868437227405312 := h
theorem pl_top : Pl PI := by unfold Pl; decide
theorem pl_bot : Pl (-PI) := by unfold Pl; decide
theorem pl_zero : Pl 0 := by unfold Pl; decide
theorem atn_top : atn true PI = 9218868437227405312 := by decide
theorem atn_bot : atn true (-PI) = 18442240474082181120 := by decide
theorem atn_zero : atn true 0 = 0 := by decide

theorem order_places {p r : Int} (hp : Pl p) (hr : Pl r) : FloatKind.f64.format.order (atn true p) (atn true r) = some (compare p r) := by
  have a := atn64 p hp.bd
  have b := atn64 r hr.bd
  have e := order_fm true (atn true p) (atn true r) (by simp only [S, if_true]; omega) (by simp only [S, if_true]; omega)
  rw [a.2.2, b.2.2, a.2.1, b.2.1] at e
  exact e
theorem o_lt {p r : Int} (hp : Pl p) (hr : Pl r) (h : p < r) : FloatKind.f64.format.order (atn true p) (atn true r) = some .lt := by
  rw [order_places hp hr, Int.compare_eq_lt.2 h]
theorem o_gt {p r : Int} (hp : Pl p) (hr : Pl r) (h : r < p) : FloatKind.f64.format.order (atn true p) (atn true r) = some .gt := by
  rw [order_places hp hr, Int.compare_eq_gt.2 h]
theorem o_eq {p r : Int} (hp : Pl p) (hr : Pl r) (h : p = r) : FloatKind.f64.format.order (atn true p) (atn true r) = some .eq := by
  rw [order_places hp hr, Int.compare_eq_eq.2 h]
theorem tri {p r : Int} (hp : Pl p) (hr : Pl r) : FloatKind.f64.format.order (atn true p) (atn true r) = some .lt ∧ p < r ∨ FloatKind.f64.format.order (atn true p) (atn true r) = some .eq ∧ p = r ∨ FloatKind.f64.format.order (atn true p) (atn true r) = some .gt ∧ r < p := by
  rcases Int.lt_trichotomy p r with c | c | c
  · exact .inl ⟨o_lt hp hr c, c⟩
  · exact .inr (.inl ⟨o_eq hp hr c, c⟩)
  · exact .inr (.inr ⟨o_gt hp hr c, c⟩)
theorem o_self {p : Int} (hp : Pl p) : FloatKind.f64.format.order (atn true p) (atn true p) = some .eq := o_eq hp hp rfl
theorem atn_inj {p r : Int} (hp : Pl p) (hr : Pl r) (h : atn true p = atn true r) : p = r := by
  have a := atn64 p hp.bd
  have b := atn64 r hr.bd
  rw [← a.2.1, h, b.2.1]
theorem atn_le {p : Int} (hp : Pl p) : atn true p ≤ 18446744073709551615 := (atn64 p hp.bd).1
theorem pl_atn {p : Int} (hp : Pl p) : pl true (atn true p) = p := (atn64 p hp.bd).2.1
theorem nn_atn {p : Int} (hp : Pl p) : nn true (atn true p) = false := (atn64 p hp.bd).2.2
theorem pl_pl {b : Nat} (h : nn true b = false) : Pl (pl true b) := pl_bd64 b h
theorem plain_atn {b : Nat} (hb : b ≤ 18446744073709551615) (h : nn true b = false) : plainb true b = atn true (pl true b) := by
  simp only [nn, rg, S, INF, if_true, decide_eq_false_iff_not] at h
  simp only [plainb, pl, atn, rg, ng, S, if_true, decide_eq_true_eq]
  (repeat' split) <;> omega
theorem plainb_atn {p : Int} (hp : Pl p) : plainb true (atn true p) = atn true p := by rw [plain_atn (atn_le hp) (nn_atn hp), pl_atn hp]

/-- Two patterns make an interval that is not empty. -/
def snd (a b : Nat) : Bool := !nn true a && !nn true b && decide (pl true a ≤ pl true b) && decide (pl true a < PI) && decide (-PI < pl true b)
/-- What is read of two patterns. -/
def Rd (a b : Nat) (p q : Int) : Prop := a ≤ 18446744073709551615 ∧ b ≤ 18446744073709551615 ∧
  (nn true a = false ∧ nn true b = false ∧ p = pl true a ∧ q = pl true b ∧ p ≤ q ∧ p < PI ∧ -PI < q ∨ snd a b = false ∧ p = PI ∧ q = -PI)
theorem snd_iff (a b : Nat) : snd a b = true ↔ nn true a = false ∧ nn true b = false ∧ pl true a ≤ pl true b ∧ pl true a < PI ∧ -PI < pl true b := by
  unfold snd; simp [and_assoc]
theorem Rd.iv {a b : Nat} {p q : Int} (h : Rd a b p q) : Iv p q := by
  obtain ⟨-, -, ⟨h1, h2, rfl, rfl, h3, h4, h5⟩ | ⟨-, rfl, rfl⟩⟩ := h
  · exact .inr ⟨(pl_pl h1).1, h3, (pl_pl h2).2, h4, h5⟩
  · exact .inl ⟨rfl, rfl⟩
theorem Rd.ex (a b : Nat) (ha : a ≤ 18446744073709551615) (hb : b ≤ 18446744073709551615) : ∃ p q, Rd a b p q := by
  cases hs : snd a b
  · exact ⟨_, _, ha, hb, .inr ⟨hs, rfl, rfl⟩⟩
  · obtain ⟨h1, h2, h3, h4, h5⟩ := (snd_iff a b).1 hs
    exact ⟨_, _, ha, hb, .inl ⟨h1, h2, rfl, rfl, h3, h4, h5⟩⟩
theorem Rd.self {p q : Int} (h : Iv p q) : Rd (atn true p) (atn true q) p q := by
  have h1 := h.lo
  have h2 := h.hi
  refine ⟨atn_le h1, atn_le h2, ?_⟩
  rcases h with ⟨rfl, rfl⟩ | ⟨_, h4, _, h6, h7⟩
  · right; exact ⟨by decide +kernel, rfl, rfl⟩
  · left; exact ⟨nn_atn h1, nn_atn h2, (pl_atn h1).symm, (pl_atn h2).symm, h4, h6, h7⟩
theorem Rd.same {a b : Nat} {p q r s : Int} (h : Rd a b p q) (k : Rd a b r s) : p = r ∧ q = s := by
  obtain ⟨-, -, ⟨h1, h2, rfl, rfl, h3, h4, h5⟩ | ⟨h1, rfl, rfl⟩⟩ := h <;> obtain ⟨-, -, ⟨k1, k2, rfl, rfl, k3, k4, k5⟩ | ⟨k1, rfl, rfl⟩⟩ := k
  · exact ⟨rfl, rfl⟩
  · rw [(snd_iff a b).2 ⟨h1, h2, h3, h4, h5⟩] at k1; cases k1
  · rw [(snd_iff a b).2 ⟨k1, k2, k3, k4, k5⟩] at h1; cases h1
  · exact ⟨rfl, rfl⟩

/-- The ways in which two patterns compare: what a program's three tests of them say. -/
theorem snd_ways (a b : Nat) (ha : a ≤ 18446744073709551615) (hb : b ≤ 18446744073709551615) :
    snd a b = false ∧ (FloatKind.f64.format.order a b = none ∨ FloatKind.f64.format.order a b = some .gt) ∨
    ((FloatKind.f64.format.order a b = some .lt ∨ FloatKind.f64.format.order a b = some .eq) ∧
     (snd a b = false ∧ FloatKind.f64.format.order a (atn true PI) = some .eq ∨
      FloatKind.f64.format.order a (atn true PI) = some .lt ∧ (snd a b = false ∧ FloatKind.f64.format.order b (atn true (-PI)) = some .eq ∨ snd a b = true ∧ FloatKind.f64.format.order b (atn true (-PI)) = some .gt))) := by
  have e := order_fm true a b (by simp only [S, if_true]; omega) (by simp only [S, if_true]; omega)
  have ea := order_fm true a (atn true PI) (by simp only [S, if_true]; omega) (by rw [atn_top]; decide)
  have eb := order_fm true b (atn true (-PI)) (by simp only [S, if_true]; omega) (by rw [atn_bot]; decide)
  rw [nn_atn pl_top, pl_atn pl_top] at ea
  rw [nn_atn pl_bot, pl_atn pl_bot] at eb
  change FloatKind.f64.format.order a b = _ at e
  change FloatKind.f64.format.order a (atn true PI) = _ at ea
  change FloatKind.f64.format.order b (atn true (-PI)) = _ at eb
  rw [e, ea, eb]
  unfold snd
  cases h1 : nn true a
  · cases h2 : nn true b
    · have p1 := pl_pl h1
      have p2 := pl_pl h2
      unfold Pl at p1 p2
      simp only [Bool.or_false, Bool.false_eq_true, if_false, Bool.not_false, Bool.true_and, Bool.and_eq_false_iff, decide_eq_false_iff_not, Bool.and_eq_true, decide_eq_true_eq, Option.some.injEq, Int.compare_eq_lt, Int.compare_eq_gt, Int.compare_eq_eq, reduceCtorEq]
      generalize pl true a = x at *
      generalize pl true b = y at *
      omega
    · left; simp
  · left; simp
theorem zero_eq (x : Nat) (hx : x ≤ 18446744073709551615) : (FloatKind.f64.format.order x 0 == some Ordering.eq) = decide (rg true x = 0) := by
  have h := eq_iff true x 0 (by simp only [S, if_true]; omega) (by simp only [S, if_true]; omega)
  refine Eq.trans h ?_
  rw [Bool.eq_iff_iff]
  simp only [Bool.and_eq_true, Bool.not_eq_true', decide_eq_true_eq, nn, pl, ng, rg, S, INF, if_true, decide_eq_false_iff_not]
  (repeat' split) <;> omega
/-- Is a pattern that of an infinity? -/
def infb (b : Nat) : Bool := decide (rg true b = 9218868437227405312)
theorem inf_gt (b : Nat) : (FloatKind.f64.format.order (rg true b) 9218868437227405311 == some Ordering.gt) = infb b := by
  have hr : rg true b ≤ 9223372036854775807 := rg_bd64 b
  have e := gt_iff true (rg true b) 9218868437227405311 (by simp only [S, if_true]; omega) (by decide)
  refine Eq.trans e ?_
  rw [show nn true 9218868437227405311 = false by decide, show pl true 9218868437227405311 = 9218868437227405311 by decide]
  unfold infb
  generalize rg true b = r at *
  rw [Bool.eq_iff_iff]
  simp only [Bool.and_eq_true, Bool.not_eq_true', decide_eq_true_eq, nn, pl, ng, rg, S, INF, if_true, decide_eq_false_iff_not, Bool.not_false, and_true]
  (repeat' split) <;> omega
theorem infb_atn {p : Int} (hp : Pl p) : infb (atn true p) = decide (p = PI ∨ p = -PI) := by
  have h1 := pl_atn hp
  have h2 := hp.bd
  unfold infb
  rw [decide_eq_decide, PI_eq]
  unfold pl at h1
  constructor
  · intro h; rw [h] at h1; split at h1 <;> omega
  · intro h; split at h1 <;> omega
end Vg

/- Contracts of Order: the program's and the reference's. -/
import Derived.Test.YtgbjckokhonkgaaDoorWClass
import Derived.Test.YtgbjckokhonkgaaDoorWSteps
namespace Go.Proofs.YtgbjckokhonkgaaDoor
open Go.RowKit

/-- 1 of a truth. -/
def b2i (n : Bool) : Int := if n then 1 else 0

/-- A number is told, and nothing that was there has changed. -/
def Told1I (R : Int → Prop) (w : World) (e : Ending) (w' : World) : Prop := ∃ c, e = .returned (.int .i64 c) ∧ R c ∧ Below w.heap.size w w'

/-- What Order tells of two. -/
def or64 (a b : Nat) : Int := if Vg.nn true a = true ∨ Vg.nn true b = true then (if Vg.nn true a = Vg.nn true b then 0 else if Vg.nn true a = true then 1 else -1) else
  if Vg.pl true a < Vg.pl true b then -1 else if Vg.pl true b < Vg.pl true a then 1 else if Vg.ng true a = Vg.ng true b then 0 else if Vg.ng true a = true then -1 else 1
def IsOr64 (a b : Nat) (c : Int) : Prop := c = or64 a b
theorem IsOr64.same {a b : Nat} {c d : Int} (h : IsOr64 a b c) (k : IsOr64 a b d) : c = d := Eq.trans h (Eq.symm k)
def IsRk64 (b : Nat) (c : Int) : Prop := c = if Vg.nn true b = false ∧ Vg.ng true b = true ∧ Vg.rg true b = 0 then 0 else 1
theorem rk64 {b : Nat} {c : Int} (h : IsCl64 b c) : (c == 4) = true ∧ IsRk64 b 0 ∨ (c == 4) = false ∧ IsRk64 b 1 := by
  unfold IsCl64 far64 at h
  unfold IsRk64
  subst h
  by_cases hz : Vg.rg true b = 0
  · have hn : Vg.nn true b = false := by simp only [Vg.nn, hz, Vg.INF, if_true]; decide
    rw [hz, hn]
    cases Vg.ng true b <;> simp
  · right
    rw [beq_eq_false_iff_ne]
    refine ⟨?_, by rw [if_neg (fun h => hz h.2.2)]⟩
    generalize Vg.rg true b = r at *
    (repeat' split) <;> omega
theorem ord_lt64 (a b : Nat) (ha : a ≤ 18446744073709551615) (hb : b ≤ 18446744073709551615) : (FloatKind.f64.format.order a b == some Ordering.lt) = (!Vg.nn true a && !Vg.nn true b && decide (Vg.pl true a < Vg.pl true b)) := Vg.lt_iff true a b (by simp only [Vg.S, if_true]; omega) (by simp only [Vg.S, if_true]; omega)
theorem ord_gt64 (a b : Nat) (ha : a ≤ 18446744073709551615) (hb : b ≤ 18446744073709551615) : (FloatKind.f64.format.order a b == some Ordering.gt) = (!Vg.nn true a && !Vg.nn true b && decide (Vg.pl true b < Vg.pl true a)) := Vg.gt_iff true a b (by simp only [Vg.S, if_true]; omega) (by simp only [Vg.S, if_true]; omega)
theorem ord_eq64 (a b : Nat) (ha : a ≤ 18446744073709551615) (hb : b ≤ 18446744073709551615) : (FloatKind.f64.format.order a b == some Ordering.eq) = (!Vg.nn true a && !Vg.nn true b && decide (Vg.pl true a = Vg.pl true b)) := Vg.eq_iff true a b (by simp only [Vg.S, if_true]; omega) (by simp only [Vg.S, if_true]; omega)

/-- What Order tells of two. -/
def or32 (a b : Nat) : Int := if Vg.nn false a = true ∨ Vg.nn false b = true then (if Vg.nn false a = Vg.nn false b then 0 else if Vg.nn false a = true then 1 else -1) else
  if Vg.pl false a < Vg.pl false b then -1 else if Vg.pl false b < Vg.pl false a then 1 else if Vg.ng false a = Vg.ng false b then 0 else if Vg.ng false a = true then -1 else 1
def IsOr32 (a b : Nat) (c : Int) : Prop := c = or32 a b
theorem IsOr32.same {a b : Nat} {c d : Int} (h : IsOr32 a b c) (k : IsOr32 a b d) : c = d := Eq.trans h (Eq.symm k)
def IsRk32 (b : Nat) (c : Int) : Prop := c = if Vg.nn false b = false ∧ Vg.ng false b = true ∧ Vg.rg false b = 0 then 0 else 1
theorem rk32 {b : Nat} {c : Int} (h : IsCl32 b c) : (c == 4) = true ∧ IsRk32 b 0 ∨ (c == 4) = false ∧ IsRk32 b 1 := by
  unfold IsCl32 far32 at h
  unfold IsRk32
  subst h
  by_cases hz : Vg.rg false b = 0
  · have hn : Vg.nn false b = false := by simp only [Vg.nn, hz, Vg.INF, Bool.false_eq_true, if_false]; decide
    rw [hz, hn]
    cases Vg.ng false b <;> simp
  · right
    rw [beq_eq_false_iff_ne]
    refine ⟨?_, by rw [if_neg (fun h => hz h.2.2)]⟩
    generalize Vg.rg false b = r at *
    (repeat' split) <;> omega
theorem ord_lt32 (a b : Nat) (ha : a ≤ 4294967295) (hb : b ≤ 4294967295) : (FloatKind.f32.format.order a b == some Ordering.lt) = (!Vg.nn false a && !Vg.nn false b && decide (Vg.pl false a < Vg.pl false b)) := Vg.lt_iff false a b (by simp only [Vg.S, Bool.false_eq_true, if_false]; omega) (by simp only [Vg.S, Bool.false_eq_true, if_false]; omega)
theorem ord_gt32 (a b : Nat) (ha : a ≤ 4294967295) (hb : b ≤ 4294967295) : (FloatKind.f32.format.order a b == some Ordering.gt) = (!Vg.nn false a && !Vg.nn false b && decide (Vg.pl false b < Vg.pl false a)) := Vg.gt_iff false a b (by simp only [Vg.S, Bool.false_eq_true, if_false]; omega) (by simp only [Vg.S, Bool.false_eq_true, if_false]; omega)
theorem ord_eq32 (a b : Nat) (ha : a ≤ 4294967295) (hb : b ≤ 4294967295) : (FloatKind.f32.format.order a b == some Ordering.eq) = (!Vg.nn false a && !Vg.nn false b && decide (Vg.pl false a = Vg.pl false b)) := Vg.eq_iff false a b (by simp only [Vg.S, Bool.false_eq_true, if_false]; omega) (by simp only [Vg.S, Bool.false_eq_true, if_false]; omega)

set_option maxHeartbeats 1000000 in
theorem rank64 (b : Nat) (hb : b ≤ 18446744073709551615) (w : World) : Calls Tryd.prog 27 #[.float .f64 b] w (Told1I (IsRk64 b) w) := by
  have HB := hide hb
  clear hb
  go_enter Tryd.func27, Tryd.ntmps27
  go_wp2_with fail
  refine (class64 b HB.out _).mono ?_; rintro e w1 ⟨c, rfl, h1, hb1⟩
  rcases rk64 h1 with ⟨t, hr⟩ | ⟨t, hr⟩
  all_goals
    have HR := hide hr
    clear h1 hr
    go_wp2
    go_ret
    exact ⟨_, rfl, HR.out, hb1⟩

set_option maxHeartbeats 1000000 in
theorem notnum64 (b : Nat) (n : Bool) (hn : (FloatKind.f64.format.order b b != some Ordering.eq) = n) (w : World) : Calls Tryd.prog 28 #[.float .f64 b] w fun e w' => e = .returned (.int .i64 (b2i n)) ∧ w = w' := by
  cases n
  all_goals
    go_enter Tryd.func28, Tryd.ntmps28
    go_wp2
    go_ret
    exact ⟨rfl, rfl⟩

set_option maxHeartbeats 2000000 in
theorem order64 (a b : Nat) (ha : a ≤ 18446744073709551615) (hb : b ≤ 18446744073709551615) (w : World) : Calls Tryd.prog 10 #[.float .f64 a, .float .f64 b] w (Told1I (IsOr64 a b) w) := by
  have t1 := ord_lt64 a b ha hb
  have t2 := ord_gt64 a b ha hb
  have t3 := ord_eq64 a b ha hb
  by_cases hn : Vg.nn true a = true ∨ Vg.nn true b = true
  · have hf : (!Vg.nn true a && !Vg.nn true b) = false := by rcases hn with h | h <;> simp [h]
    rw [hf, Bool.false_and] at t1 t2 t3
    have ma := self_ne64 a ha
    have mb := self_ne64 b hb
    have hr : (Vg.nn true a = true ∧ Vg.nn true b = true ∧ IsOr64 a b 0) ∨ (Vg.nn true a = true ∧ Vg.nn true b = false ∧ IsOr64 a b 1) ∨ (Vg.nn true a = false ∧ Vg.nn true b = true ∧ IsOr64 a b (-1)) := by
      unfold IsOr64 or64; rw [if_pos hn]
      revert hn; cases Vg.nn true a <;> cases Vg.nn true b <;> simp
    clear hf hn ha hb
    rcases hr with ⟨ha, hb, hr⟩ | ⟨ha, hb, hr⟩ | ⟨ha, hb, hr⟩
    all_goals
      rw [ha] at ma
      rw [hb] at mb
      have HA := hide ma
      have HB := hide mb
      have HR := hide hr
      clear ha hb ma mb hr
      go_enter Tryd.func10, Tryd.ntmps10
      go_wp2_with fail
      refine (notnum64 a _ HA.out _).mono ?_; rintro e w1 ⟨rfl, rfl⟩
      simp only [b2i, if_true, Bool.false_eq_true, if_false]
      go_wp2_with fail
      refine (notnum64 b _ HB.out _).mono ?_; rintro e w1 ⟨rfl, rfl⟩
      simp only [b2i, if_true, Bool.false_eq_true, if_false]
      go_wp2
      go_ret
      exact ⟨_, rfl, HR.out, Below.refl _ _⟩
  · have hf : (!Vg.nn true a && !Vg.nn true b) = true := by revert hn; cases Vg.nn true a <;> cases Vg.nn true b <;> simp
    rw [hf, Bool.true_and] at t1 t2 t3
    clear hf
    rcases Int.lt_trichotomy (Vg.pl true a) (Vg.pl true b) with hl | hl | hl
    · have HR : Hid (IsOr64 a b (-1)) := by unfold IsOr64 or64; rw [if_neg hn, if_pos hl]; trivial
      rw [decide_eq_true hl] at t1
      clear t2 t3 hl hn ha hb
      go_enter Tryd.func10, Tryd.ntmps10
      go_wp2
      go_ret
      exact ⟨_, rfl, HR.out, Below.refl _ _⟩
    · rw [decide_eq_false (by omega)] at t1 t2
      rw [decide_eq_true hl] at t3
      have HA := hide ha
      have HB := hide hb
      have HN := hide hn
      have HL := hide hl
      clear ha hb hn hl
      go_enter Tryd.func10, Tryd.ntmps10
      go_wp2_with fail
      refine (rank64 a HA.out _).mono ?_; rintro e w1 ⟨c, rfl, h1, hb1⟩
      go_wp2_with fail
      refine (rank64 b HB.out _).mono ?_; rintro e w2 ⟨d, rfl, h2, hb2⟩
      have hcd : IsOr64 a b (c - d) ∧ (c = 0 ∨ c = 1) ∧ (d = 0 ∨ d = 1) := by
        have hn := HN.out
        have hl := HL.out
        unfold IsRk64 at h1 h2
        unfold IsOr64 or64
        have na : Vg.nn true a = false := by revert hn; cases Vg.nn true a <;> simp
        have nb : Vg.nn true b = false := by revert hn; cases Vg.nn true b <;> simp
        rw [if_neg hn, if_neg (by omega), if_neg (by omega)]
        rw [na] at h1
        rw [nb] at h2
        unfold Vg.pl at hl
        revert h1 h2 hl
        generalize Vg.rg true a = r
        generalize Vg.rg true b = q
        cases Vg.ng true a <;> cases Vg.ng true b <;> simp <;> intro h1 h2 hl <;> (repeat' split at h1) <;> (repeat' split at h2) <;> omega
      obtain ⟨hr, hc, hd⟩ := hcd
      have HR := hide hr
      clear h1 h2 hr HN HL
      rcases hc with rfl | rfl <;> rcases hd with rfl | rfl
      all_goals
        go_wp2
        go_ret
        exact ⟨_, rfl, HR.out, bch hb1 hb2⟩
    · have HR : Hid (IsOr64 a b 1) := by unfold IsOr64 or64; rw [if_neg hn, if_neg (by omega), if_pos hl]; trivial
      rw [decide_eq_true hl] at t2
      rw [decide_eq_false (by omega)] at t1
      clear t3 hl hn ha hb
      go_enter Tryd.func10, Tryd.ntmps10
      go_wp2
      go_ret
      exact ⟨_, rfl, HR.out, Below.refl _ _⟩

end Go.Proofs.YtgbjckokhonkgaaDoor

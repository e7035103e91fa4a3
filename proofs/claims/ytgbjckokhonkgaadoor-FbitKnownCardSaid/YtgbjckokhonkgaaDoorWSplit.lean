/- Contracts of Split: the program's and the reference's. -/
import Derived.Test.YtgbjckokhonkgaaDoorWOrder
namespace Go.Proofs.YtgbjckokhonkgaaDoor
open Go.RowKit

theorem results_tmp4 {fn : Func} {t u v x : Tmp} (h : fn.results = #[.tmp t, .tmp u, .tmp v, .tmp x]) (tmps : Array Value) (P : Program) (w : World) :
    (results fn tmps).run P w = .ok (.tuple #[tmps.getD t undef, tmps.getD u undef, tmps.getD v undef, tmps.getD x undef]) w := by simp [results, h]
/-- A sign, a significand, an exponent and a truth are told, and nothing that was there has changed. -/
def Told4 (R : Bool → Int → Int → Bool → Prop) (w : World) (e : Ending) (w' : World) : Prop := ∃ n s x o, e = .returned (.tuple #[.bool n, .int .u64 s, .int .i64 x, .bool o]) ∧ R n s x o ∧ Below w.heap.size w w'

/-- What Split tells. -/
def IsSp64 (b : Nat) (n : Bool) (s x : Int) (o : Bool) : Prop :=
  if 9218868437227405312 ≤ Vg.rg true b then n = false ∧ s = 0 ∧ x = 0 ∧ o = false else n = (Vg.ng true b && decide (0 < Vg.rg true b)) ∧ s = sg64 (Vg.rg true b) ∧ x = ex64 (Vg.rg true b) ∧ o = true
theorem IsSp64.same {b : Nat} {n m : Bool} {s t x y : Int} {o u : Bool} (h : IsSp64 b n s x o) (k : IsSp64 b m t y u) : n = m ∧ s = t ∧ x = y ∧ o = u := by
  unfold IsSp64 at h k
  split at h
  · rw [if_pos ‹_›] at k; obtain ⟨rfl, rfl, rfl, rfl⟩ := h; obtain ⟨rfl, rfl, rfl, rfl⟩ := k; exact ⟨rfl, rfl, rfl, rfl⟩
  · rw [if_neg ‹_›] at k; obtain ⟨rfl, rfl, rfl, rfl⟩ := h; obtain ⟨rfl, rfl, rfl, rfl⟩ := k; exact ⟨rfl, rfl, rfl, rfl⟩

theorem lt_zero64 (b : Nat) (hb : b ≤ 18446744073709551615) (h : ¬ 9218868437227405312 ≤ Vg.rg true b) : (FloatKind.f64.format.order b 0 == some Ordering.lt) = (Vg.ng true b && decide (0 < Vg.rg true b)) := by
  have hn : Vg.nn true b = false := by simp only [Vg.nn, Vg.INF, if_true]; exact decide_eq_false (by omega)
  rw [ord_lt64 b 0 hb (by decide), hn, show Vg.nn true 0 = false by decide, show Vg.pl true 0 = 0 by decide]
  unfold Vg.pl
  simp only [Bool.not_false, Bool.true_and]
  cases Vg.ng true b <;> simp <;> omega

/-- What Split tells. -/
def IsSp32 (b : Nat) (n : Bool) (s x : Int) (o : Bool) : Prop :=
  if 2139095040 ≤ Vg.rg false b then n = false ∧ s = 0 ∧ x = 0 ∧ o = false else n = (Vg.ng false b && decide (0 < Vg.rg false b)) ∧ s = sg32 (Vg.rg false b) ∧ x = ex32 (Vg.rg false b) ∧ o = true
theorem IsSp32.same {b : Nat} {n m : Bool} {s t x y : Int} {o u : Bool} (h : IsSp32 b n s x o) (k : IsSp32 b m t y u) : n = m ∧ s = t ∧ x = y ∧ o = u := by
  unfold IsSp32 at h k
  split at h
  · rw [if_pos ‹_›] at k; obtain ⟨rfl, rfl, rfl, rfl⟩ := h; obtain ⟨rfl, rfl, rfl, rfl⟩ := k; exact ⟨rfl, rfl, rfl, rfl⟩
  · rw [if_neg ‹_›] at k; obtain ⟨rfl, rfl, rfl, rfl⟩ := h; obtain ⟨rfl, rfl, rfl, rfl⟩ := k; exact ⟨rfl, rfl, rfl, rfl⟩

theorem lt_zero32 (b : Nat) (hb : b ≤ 4294967295) (h : ¬ 2139095040 ≤ Vg.rg false b) : (FloatKind.f32.format.order b 0 == some Ordering.lt) = (Vg.ng false b && decide (0 < Vg.rg false b)) := by
  have hn : Vg.nn false b = false := by simp only [Vg.nn, Vg.INF, Bool.false_eq_true, if_false]; exact decide_eq_false (by omega)
  rw [ord_lt32 b 0 hb (by decide), hn, show Vg.nn false 0 = false by decide, show Vg.pl false 0 = 0 by decide]
  unfold Vg.pl
  simp only [Bool.not_false, Bool.true_and]
  cases Vg.ng false b <;> simp <;> omega

theorem IsSp64.of {b : Nat} {k : Int} {s : Bool} {g x : Int} (h : Num64 b k s g x) (hb : b ≤ 18446744073709551615) :
    (k == 0) = false ∧ IsSp64 b false 0 0 false ∨ k = 0 ∧ s = false ∧ IsSp64 b false g x true ∨ k = 0 ∧ s = true ∧ g = 0 ∧ IsSp64 b false g x true ∨ k = 0 ∧ s = true ∧ 0 < g ∧ IsSp64 b true g x true := by
  obtain ⟨h1, h2, h3, h4⟩ := h
  obtain ⟨hr, -⟩ := sign64 b hb
  subst h1 h2 h3 h4
  unfold IsSp64
  by_cases hi : 9218868437227405312 ≤ Vg.rg true b
  · left
    rw [if_pos hi]
    refine ⟨?_, rfl, rfl, rfl, rfl⟩
    rw [beq_eq_false_iff_ne]
    unfold kd64
    (repeat' split) <;> omega
  · right
    rw [if_neg hi, if_neg hi]
    have k0 : kd64 (Vg.rg true b) = 0 := by unfold kd64; (repeat' split) <;> omega
    have g0 : sg64 (Vg.rg true b) = 0 ∧ Vg.rg true b = 0 ∨ 0 < sg64 (Vg.rg true b) ∧ 0 < Vg.rg true b := by unfold sg64; (repeat' split) <;> omega
    rw [k0]
    cases Vg.ng true b
    · left; exact ⟨rfl, rfl, rfl, rfl, rfl, rfl⟩
    · right
      rcases g0 with ⟨g0, r0⟩ | ⟨g0, r0⟩
      · left; refine ⟨rfl, rfl, g0, ?_, rfl, rfl, rfl⟩; rw [r0]; rfl
      · right; refine ⟨rfl, rfl, g0, ?_, rfl, rfl, rfl⟩; rw [decide_eq_true r0]; rfl

theorem IsSp32.of {b : Nat} {k : Int} {s : Bool} {g x : Int} (h : Num32 b k s g x) (hb : b ≤ 4294967295) :
    (k == 0) = false ∧ IsSp32 b false 0 0 false ∨ k = 0 ∧ s = false ∧ IsSp32 b false g x true ∨ k = 0 ∧ s = true ∧ g = 0 ∧ IsSp32 b false g x true ∨ k = 0 ∧ s = true ∧ 0 < g ∧ IsSp32 b true g x true := by
  obtain ⟨h1, h2, h3, h4⟩ := h
  obtain ⟨hr, -⟩ := sign32 b hb
  subst h1 h2 h3 h4
  unfold IsSp32
  by_cases hi : 2139095040 ≤ Vg.rg false b
  · left
    rw [if_pos hi]
    refine ⟨?_, rfl, rfl, rfl, rfl⟩
    rw [beq_eq_false_iff_ne]
    unfold kd32
    (repeat' split) <;> omega
  · right
    rw [if_neg hi, if_neg hi]
    have k0 : kd32 (Vg.rg false b) = 0 := by unfold kd32; (repeat' split) <;> omega
    have g0 : sg32 (Vg.rg false b) = 0 ∧ Vg.rg false b = 0 ∨ 0 < sg32 (Vg.rg false b) ∧ 0 < Vg.rg false b := by unfold sg32; (repeat' split) <;> omega
    rw [k0]
    cases Vg.ng false b
    · left; exact ⟨rfl, rfl, rfl, rfl, rfl, rfl⟩
    · right
      rcases g0 with ⟨g0, r0⟩ | ⟨g0, r0⟩
      · left; refine ⟨rfl, rfl, g0, ?_, rfl, rfl, rfl⟩; rw [r0]; rfl
      · right; refine ⟨rfl, rfl, g0, ?_, rfl, rfl, rfl⟩; rw [decide_eq_true r0]; rfl

end Go.Proofs.YtgbjckokhonkgaaDoor

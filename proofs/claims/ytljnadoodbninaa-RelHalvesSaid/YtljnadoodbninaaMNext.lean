/- The neighbours of a pattern, by places. Plain arithmetic. -/
import Derived.Test.YtljnadoodbninaaMSpec
import Derived.Test.YtljnadoodbninaaMBit
namespace Vg
open Go

/-- The pattern at a place. -/
def atn (l : Bool) (p : Int) : Nat := (if p < 0 then (S l : Int) - p else p).toNat
/-- The least number above. -/
def up (l : Bool) (b : Nat) : Nat := if nn l b then b else if pl l b = INF l then b else atn l (pl l b + 1)
/-- The greatest number below. -/
def dn (l : Bool) (b : Nat) : Nat := if nn l b then b else if pl l b = -(INF l : Int) then b else atn l (pl l b - 1)
/-- The pattern with its sign turned about. -/
def ngf (l : Bool) (b : Nat) : Nat := if b < S l then b + S l else b - S l

theorem xor_low (b i : Nat) (h : b < 2 ^ i) : b ^^^ 2 ^ i = b + 2 ^ i := by
  rw [← join_top b i h]
  refine Nat.eq_of_testBit_eq fun j => ?_
  rw [Nat.testBit_xor, Nat.testBit_or, Nat.testBit_two_pow]
  by_cases e : i = j
  · subst e; rw [Nat.testBit_lt_two_pow h]; simp
  · simp [e]
theorem xor_top (b i : Nat) (h : b < 2 ^ (i + 1)) : b ^^^ 2 ^ i = if b < 2 ^ i then b + 2 ^ i else b - 2 ^ i := by
  split
  · exact xor_low b i ‹_›
  · rw [Nat.pow_succ] at h
    have e := xor_low (b - 2 ^ i) i (by omega)
    rw [Nat.sub_add_cancel (by omega)] at e
    rw [← e, Nat.xor_assoc, Nat.xor_self, Nat.xor_zero, e]

theorem neg_fl64 (b : Nat) (h : b ≤ 18446744073709551615) : Op.negFloat .f64 b = ngf true b := by
  have e := xor_top b (64 - 1) (by omega)
  exact e
theorem rg_bd64 (b : Nat) : rg true b ≤ 9223372036854775807 := by simp only [rg, S, if_true]; omega
theorem ngf64 (b : Nat) (h : b ≤ 18446744073709551615) : ngf true b ≤ 18446744073709551615 ∧ rg true (ngf true b) = rg true b ∧ nn true (ngf true b) = nn true b ∧ pl true (ngf true b) = -pl true b := by
  have e : rg true (ngf true b) = rg true b := by simp only [rg, ngf, S, if_true]; split <;> omega
  refine ⟨by simp only [ngf, S, if_true]; split <;> omega, e, by unfold nn; rw [e], ?_⟩
  unfold pl
  rw [e]
  simp only [ng, ngf, rg, S, if_true, decide_eq_true_eq]
  (repeat' split) <;> omega
theorem pl_bd64 (b : Nat) (h : nn true b = false) : -9218868437227405312 ≤ pl true b ∧ pl true b ≤ 9218868437227405312 := by
  simp only [nn, INF, if_true, decide_eq_false_iff_not] at h
  unfold pl; split <;> omega
theorem atn64 (p : Int) (h : -9218868437227405312 ≤ p ∧ p ≤ 9218868437227405312) : atn true p ≤ 18446744073709551615 ∧ pl true (atn true p) = p ∧ nn true (atn true p) = false := by
  simp only [nn, pl, atn, rg, ng, S, INF, if_true, decide_eq_false_iff_not, decide_eq_true_eq]
  (repeat' split) <;> omega
theorem up64 (b : Nat) (h : b ≤ 18446744073709551615) : up true b ≤ 18446744073709551615 ∧ nn true (up true b) = nn true b := by
  unfold up
  split
  · exact ⟨h, rfl⟩
  · rename_i hn
    have hn' : nn true b = false := by simpa using hn
    have p := pl_bd64 b hn'
    split
    · exact ⟨h, rfl⟩
    · rename_i c
      simp only [INF, if_true] at c
      have a := atn64 (pl true b + 1) (by omega)
      exact ⟨a.1, a.2.2.trans hn'.symm⟩
theorem dn64 (b : Nat) (h : b ≤ 18446744073709551615) : dn true b ≤ 18446744073709551615 ∧ nn true (dn true b) = nn true b := by
  unfold dn
  split
  · exact ⟨h, rfl⟩
  · rename_i hn
    have hn' : nn true b = false := by simpa using hn
    have p := pl_bd64 b hn'
    split
    · exact ⟨h, rfl⟩
    · rename_i c
      simp only [INF, if_true] at c
      have a := atn64 (pl true b - 1) (by omega)
      exact ⟨a.1, a.2.2.trans hn'.symm⟩
theorem nn_plain64 (b : Nat) : nn true (plainb true b) = nn true b := by
  unfold plainb; split
  · rename_i h; unfold nn; rw [h]; simp [rg, INF, S]
  · rfl
theorem plain_le64 (b : Nat) (h : b ≤ 18446744073709551615) : plainb true b ≤ 18446744073709551615 := by unfold plainb; split <;> omega
/-- NextDown by NextUp of the negative. -/
theorem down64 (b : Nat) (h : b ≤ 18446744073709551615) : plainb true (ngf true (up true (ngf true b))) ≤ 18446744073709551615 ∧ nn true (plainb true (ngf true (up true (ngf true b)))) = nn true b ∧
    (nn true b = false → plainb true (ngf true (up true (ngf true b))) = dn true b) := by
  have n1 := ngf64 b h
  have u1 := up64 _ n1.1
  have n2 := ngf64 _ u1.1
  refine ⟨plain_le64 _ n2.1, by rw [nn_plain64, n2.2.2.1, u1.2, n1.2.2.1], fun hn => ?_⟩
  have p := pl_bd64 b hn
  have c0 : ∀ q : Int, -9218868437227405312 ≤ q → q ≤ 9218868437227405312 → plainb true (ngf true (atn true q)) = atn true (-q) := by
    intro q q0 q1
    simp only [plainb, ngf, atn, rg, S, if_true]
    (repeat' split) <;> omega
  have hu : up true (ngf true b) = if -pl true b = 9218868437227405312 then ngf true b else atn true (-pl true b + 1) := by
    unfold up; rw [n1.2.2.1, hn, n1.2.2.2]; rfl
  have hd : dn true b = if pl true b = -9218868437227405312 then b else atn true (pl true b - 1) := by
    unfold dn; rw [hn]; rfl
  rw [hu, hd]
  by_cases c : pl true b = -9218868437227405312
  · rw [if_pos (by omega), if_pos c]
    have e : ngf true (ngf true b) = b := by simp only [ngf, S, if_true]; (repeat' split) <;> omega
    rw [e]; unfold plainb; rw [if_neg]
    intro h0
    unfold pl at c; rw [h0] at c; split at c <;> omega
  · rw [if_neg (by omega), if_neg c, c0 _ (by omega) (by omega)]
    congr 1; omega

theorem neg_fl32 (b : Nat) (h : b ≤ 4294967295) : Op.negFloat .f32 b = ngf false b := by
  have e := xor_top b (32 - 1) (by omega)
  exact e
theorem rg_bd32 (b : Nat) : rg false b ≤ 2147483647 := by simp only [rg, S, Bool.false_eq_true, if_false]; omega
theorem ngf32 (b : Nat) (h : b ≤ 4294967295) : ngf false b ≤ 4294967295 ∧ rg false (ngf false b) = rg false b ∧ nn false (ngf false b) = nn false b ∧ pl false (ngf false b) = -pl false b := by
  have e : rg false (ngf false b) = rg false b := by simp only [rg, ngf, S, Bool.false_eq_true, if_false]; split <;> omega
  refine ⟨by simp only [ngf, S, Bool.false_eq_true, if_false]; split <;> omega, e, by unfold nn; rw [e], ?_⟩
  unfold pl
  rw [e]
  simp only [ng, ngf, rg, S, Bool.false_eq_true, if_false, decide_eq_true_eq]
  (repeat' split) <;> omega
theorem pl_bd32 (b : Nat) (h : nn false b = false) : -2139095040 ≤ pl false b ∧ pl false b ≤ 2139095040 := by
  simp only [nn, INF, Bool.false_eq_true, if_false, decide_eq_false_iff_not] at h
  unfold pl; split <;> omega
theorem atn32 (p : Int) (h : -2139095040 ≤ p ∧ p ≤ 2139095040) : atn false p ≤ 4294967295 ∧ pl false (atn false p) = p ∧ nn false (atn false p) = false := by
  simp only [nn, pl, atn, rg, ng, S, INF, Bool.false_eq_true, if_false, decide_eq_false_iff_not, decide_eq_true_eq]
  (repeat' split) <;> omega
theorem up32 (b : Nat) (h : b ≤ 4294967295) : up false b ≤ 4294967295 ∧ nn false (up false b) = nn false b := by
  unfold up
  split
  · exact ⟨h, rfl⟩
  · rename_i hn
    have hn' : nn false b = false := by simpa using hn
    have p := pl_bd32 b hn'
    split
    · exact ⟨h, rfl⟩
    · rename_i c
      simp only [INF, Bool.false_eq_true, if_false] at c
      have a := atn32 (pl false b + 1) (by omega)
      exact ⟨a.1, a.2.2.trans hn'.symm⟩
theorem dn32 (b : Nat) (h : b ≤ 4294967295) : dn false b ≤ 4294967295 ∧ nn false (dn false b) = nn false b := by
  unfold dn
  split
  · exact ⟨h, rfl⟩
  · rename_i hn
    have hn' : nn false b = false := by simpa using hn
    have p := pl_bd32 b hn'
    split
    · exact ⟨h, rfl⟩
    · rename_i c
      simp only [INF, Bool.false_eq_true, if_false] at c
      have a := atn32 (pl false b - 1) (by omega)
      exact ⟨a.1, a.2.2.trans hn'.symm⟩
theorem nn_plain32 (b : Nat) : nn false (plainb false b) = nn false b := by
  unfold plainb; split
  · rename_i h; unfold nn; rw [h]; simp [rg, INF, S]
  · rfl
theorem plain_le32 (b : Nat) (h : b ≤ 4294967295) : plainb false b ≤ 4294967295 := by unfold plainb; split <;> omega
/-- NextDown by NextUp of the negative. -/
theorem down32 (b : Nat) (h : b ≤ 4294967295) : plainb false (ngf false (up false (ngf false b))) ≤ 4294967295 ∧ nn false (plainb false (ngf false (up false (ngf false b)))) = nn false b ∧
    (nn false b = false → plainb false (ngf false (up false (ngf false b))) = dn false b) := by
  have n1 := ngf32 b h
  have u1 := up32 _ n1.1
  have n2 := ngf32 _ u1.1
  refine ⟨plain_le32 _ n2.1, by rw [nn_plain32, n2.2.2.1, u1.2, n1.2.2.1], fun hn => ?_⟩
  have p := pl_bd32 b hn
  have c0 : ∀ q : Int, -2139095040 ≤ q → q ≤ 2139095040 → plainb false (ngf false (atn false q)) = atn false (-q) := by
    intro q q0 q1
    simp only [plainb, ngf, atn, rg, S, Bool.false_eq_true, if_false]
    (repeat' split) <;> omega
  have hu : up false (ngf false b) = if -pl false b = 2139095040 then ngf false b else atn false (-pl false b + 1) := by
    unfold up; rw [n1.2.2.1, hn, n1.2.2.2]; rfl
  have hd : dn false b = if pl false b = -2139095040 then b else atn false (pl false b - 1) := by
    unfold dn; rw [hn]; rfl
  rw [hu, hd]
  by_cases c : pl false b = -2139095040
  · rw [if_pos (by omega), if_pos c]
    have e : ngf false (ngf false b) = b := by simp only [ngf, S, Bool.false_eq_true, if_false]; (repeat' split) <;> omega
    rw [e]; unfold plainb; rw [if_neg]
    intro h0
    unfold pl at c; rw [h0] at c; split at c <;> omega
  · rw [if_neg (by omega), if_neg c, c0 _ (by omega) (by omega)]
    congr 1; omega

end Vg

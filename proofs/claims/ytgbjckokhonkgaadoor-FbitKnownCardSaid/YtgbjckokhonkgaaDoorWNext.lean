/- Contracts of NextUp and NextDown: the program's and the reference's. -/
import Derived.Test.YtgbjckokhonkgaaDoorWAtR
import Derived.Test.YtgbjckokhonkgaaDoorWSteps
import Derived.Test.YtgbjckokhonkgaaDoorMNext
namespace Go.Proofs.YtgbjckokhonkgaaDoor
open Go.RowKit

theorem run_neg_float (k : FloatKind) (b c : Nat) (h : Op.negFloat k b = c) (w : World) : (Op.unary UnOp.neg (Value.float k b)).run Tryd.prog w = .ok (.float k c) w := by
  rw [← h]; rfl

/-- A number is told, and nothing that was there has changed. -/
def Told1F (k : FloatKind) (R : Nat → Prop) (w : World) (e : Ending) (w' : World) : Prop := ∃ y, e = .returned (.float k y) ∧ R y ∧ Below w.heap.size w w'
def Told1U (R : Int → Prop) (w : World) (e : Ending) (w' : World) : Prop := ∃ y, e = .returned (.int .u64 y) ∧ R y ∧ Below w.heap.size w w'

def IsUp64 (b y : Nat) : Prop := y = Vg.up true b
def IsDn64 (b y : Nat) : Prop := y ≤ 18446744073709551615 ∧ Vg.nn true y = Vg.nn true b ∧ (Vg.nn true b = false → y = Vg.dn true b)
def RUp64 (b : Nat) (z : Int) : Prop := z = (Vg.up true b : Int)
def RDn64 (b : Nat) (z : Int) : Prop := z = (Vg.dn true b : Int)

theorem IsAt64.atn {p z : Int} (h : IsAt64 p z true) : z.toNat = Vg.atn true p ∧ z = (Vg.atn true p : Int) := by
  rcases h with ⟨h1, -, rfl⟩ | ⟨h1, h2, -⟩
  · simp only [Vg.atn, Vg.S, if_true]; split <;> omega
  · cases h2
theorem up_nan64 {b : Nat} {p : Int} (h : IsPl64 b p false) : IsUp64 b b ∧ RUp64 b b ∧ RDn64 b b := by
  have hn : Vg.nn true b = true := by have := h.1; revert this; cases Vg.nn true b <;> simp
  unfold IsUp64 RUp64 RDn64 Vg.up Vg.dn; rw [if_pos hn, if_pos hn]; exact ⟨rfl, rfl, rfl⟩
theorem IsPl64.num {b : Nat} {p : Int} (h : IsPl64 b p true) : Vg.nn true b = false ∧ Vg.pl true b = p := by
  have hn : Vg.nn true b = false := by have := h.1; revert this; cases Vg.nn true b <;> simp
  refine ⟨hn, ?_⟩
  have := h.2; rw [hn] at this; exact this.symm
theorem up_yes64 {b : Nat} {p z : Int} (h : IsPl64 b p true) (k : IsAt64 (p + 1) z true) : IsUp64 b z.toNat ∧ RUp64 b z := by
  obtain ⟨hn, hp⟩ := h.num
  have a := k.atn
  have hb : p ≠ 9218868437227405312 := by rcases k with ⟨h1, h2, -⟩ | ⟨h1, h2, -⟩ <;> first | (cases h2; done) | omega
  unfold IsUp64 RUp64 Vg.up
  rw [hn, hp, if_neg (by simp), if_neg (by simp only [Vg.INF, if_true]; omega)]
  exact a
theorem up_no64 {b : Nat} {p z : Int} (h : IsPl64 b p true) (k : IsAt64 (p + 1) z false) : IsUp64 b b ∧ RUp64 b b := by
  obtain ⟨hn, hp⟩ := h.num
  have q := h.bd
  have hb : p = 9218868437227405312 := by rcases k with ⟨h1, h2, -⟩ | ⟨h1, h2, -⟩ <;> first | (cases h2; done) | omega
  unfold IsUp64 RUp64 Vg.up
  rw [hn, hp, if_neg (by simp), if_pos (by simp only [Vg.INF, if_true]; omega)]
  exact ⟨rfl, rfl⟩
theorem dn_yes64 {b : Nat} {p z : Int} (h : IsPl64 b p true) (k : IsAt64 (p - 1) z true) : RDn64 b z := by
  obtain ⟨hn, hp⟩ := h.num
  have a := k.atn
  have hb : p ≠ -9218868437227405312 := by rcases k with ⟨h1, h2, -⟩ | ⟨h1, h2, -⟩ <;> first | (cases h2; done) | omega
  unfold RDn64 Vg.dn
  rw [hn, hp, if_neg (by simp), if_neg (by simp only [Vg.INF, if_true]; omega)]
  exact a.2
theorem dn_no64 {b : Nat} {p z : Int} (h : IsPl64 b p true) (k : IsAt64 (p - 1) z false) : RDn64 b b := by
  obtain ⟨hn, hp⟩ := h.num
  have q := h.bd
  have hb : p = -9218868437227405312 := by rcases k with ⟨h1, h2, -⟩ | ⟨h1, h2, -⟩ <;> first | (cases h2; done) | omega
  unfold RDn64 Vg.dn
  rw [hn, hp, if_neg (by simp), if_pos (by simp only [Vg.INF, if_true]; omega)]

def IsUp32 (b y : Nat) : Prop := y = Vg.up false b
def IsDn32 (b y : Nat) : Prop := y ≤ 4294967295 ∧ Vg.nn false y = Vg.nn false b ∧ (Vg.nn false b = false → y = Vg.dn false b)
def RUp32 (b : Nat) (z : Int) : Prop := z = (Vg.up false b : Int)
def RDn32 (b : Nat) (z : Int) : Prop := z = (Vg.dn false b : Int)

theorem IsAt32.atn {p z : Int} (h : IsAt32 p z true) : z.toNat = Vg.atn false p ∧ z = (Vg.atn false p : Int) := by
  rcases h with ⟨h1, -, rfl⟩ | ⟨h1, h2, -⟩
  · simp only [Vg.atn, Vg.S, Bool.false_eq_true, if_false]; split <;> omega
  · cases h2
theorem up_nan32 {b : Nat} {p : Int} (h : IsPl32 b p false) : IsUp32 b b ∧ RUp32 b b ∧ RDn32 b b := by
  have hn : Vg.nn false b = true := by have := h.1; revert this; cases Vg.nn false b <;> simp
  unfold IsUp32 RUp32 RDn32 Vg.up Vg.dn; rw [if_pos hn, if_pos hn]; exact ⟨rfl, rfl, rfl⟩
theorem IsPl32.num {b : Nat} {p : Int} (h : IsPl32 b p true) : Vg.nn false b = false ∧ Vg.pl false b = p := by
  have hn : Vg.nn false b = false := by have := h.1; revert this; cases Vg.nn false b <;> simp
  refine ⟨hn, ?_⟩
  have := h.2; rw [hn] at this; exact this.symm
theorem up_yes32 {b : Nat} {p z : Int} (h : IsPl32 b p true) (k : IsAt32 (p + 1) z true) : IsUp32 b z.toNat ∧ RUp32 b z := by
  obtain ⟨hn, hp⟩ := h.num
  have a := k.atn
  have hb : p ≠ 2139095040 := by rcases k with ⟨h1, h2, -⟩ | ⟨h1, h2, -⟩ <;> first | (cases h2; done) | omega
  unfold IsUp32 RUp32 Vg.up
  rw [hn, hp, if_neg (by simp), if_neg (by simp only [Vg.INF, Bool.false_eq_true, if_false]; omega)]
  exact a
theorem up_no32 {b : Nat} {p z : Int} (h : IsPl32 b p true) (k : IsAt32 (p + 1) z false) : IsUp32 b b ∧ RUp32 b b := by
  obtain ⟨hn, hp⟩ := h.num
  have q := h.bd
  have hb : p = 2139095040 := by rcases k with ⟨h1, h2, -⟩ | ⟨h1, h2, -⟩ <;> first | (cases h2; done) | omega
  unfold IsUp32 RUp32 Vg.up
  rw [hn, hp, if_neg (by simp), if_pos (by simp only [Vg.INF, Bool.false_eq_true, if_false]; omega)]
  exact ⟨rfl, rfl⟩
theorem dn_yes32 {b : Nat} {p z : Int} (h : IsPl32 b p true) (k : IsAt32 (p - 1) z true) : RDn32 b z := by
  obtain ⟨hn, hp⟩ := h.num
  have a := k.atn
  have hb : p ≠ -2139095040 := by rcases k with ⟨h1, h2, -⟩ | ⟨h1, h2, -⟩ <;> first | (cases h2; done) | omega
  unfold RDn32 Vg.dn
  rw [hn, hp, if_neg (by simp), if_neg (by simp only [Vg.INF, Bool.false_eq_true, if_false]; omega)]
  exact a.2
theorem dn_no32 {b : Nat} {p z : Int} (h : IsPl32 b p true) (k : IsAt32 (p - 1) z false) : RDn32 b b := by
  obtain ⟨hn, hp⟩ := h.num
  have q := h.bd
  have hb : p = -2139095040 := by rcases k with ⟨h1, h2, -⟩ | ⟨h1, h2, -⟩ <;> first | (cases h2; done) | omega
  unfold RDn32 Vg.dn
  rw [hn, hp, if_neg (by simp), if_pos (by simp only [Vg.INF, Bool.false_eq_true, if_false]; omega)]

set_option maxHeartbeats 1000000 in
theorem nextup64 (b : Nat) (hb : b ≤ 18446744073709551615) (w : World) : Calls Tryd.prog 8 #[.float .f64 b] w (Told1F .f64 (IsUp64 b) w) := by
  have HB := hide hb
  clear hb
  go_enter Tryd.func8, Tryd.ntmps8
  go_wp2_with fail
  refine (place64 b HB.out _).mono ?_; rintro e w1 ⟨p, o, rfl, h1, hb1⟩
  cases o
  · have HR := hide (up_nan64 h1)
    clear h1
    go_wp2
    go_ret
    exact ⟨_, rfl, HR.out.1, hb1⟩
  · have pb := h1.bd
    have H1 := hide h1
    clear h1
    go_wp2_with fail
    refine (at64 (p + 1) (by omega) _).mono ?_; rintro e w2 ⟨z, u, rfl, h2, hb2⟩
    cases u
    · have HR := hide (up_no64 H1.out h2)
      clear h2
      go_wp2
      go_ret
      exact ⟨_, rfl, HR.out.1, bch hb1 hb2⟩
    · have HR := hide (up_yes64 H1.out h2)
      clear h2
      go_wp2
      go_ret
      exact ⟨_, rfl, HR.out.1, bch hb1 hb2⟩

end Go.Proofs.YtgbjckokhonkgaaDoor

/- Contracts of the reference's Order. -/
import Derived.Test.YtgehcnlfplcaaaaWOrder
import Derived.Test.YtgehcnlfplcaaaaWAtR
import Derived.Test.YtgehcnlfplcaaaaWHeld
namespace Go.Proofs.Ytgehcnlfplcaaaa
open Go.RowKit

theorem Num64.cases {b : Nat} {k : Int} {s : Bool} {g x : Int} (h : Num64 b k s g x) : Vg.nn true b = true ∧ k = 2 ∨ Vg.nn true b = false ∧ (k == 2) = false ∧ ((2 : Int) == k) = false ∧ s = Vg.ng true b := by
  have e := h.nan
  cases hn : Vg.nn true b
  · right
    rw [hn] at e
    refine ⟨rfl, e, ?_, h.2.1⟩
    rw [beq_eq_false_iff_ne] at e ⊢
    omega
  · left
    rw [hn] at e
    exact ⟨rfl, by simpa using e⟩

set_option maxHeartbeats 2000000 in
theorem rorder64 (a b : Nat) (ha : a ≤ 18446744073709551615) (hb : b ≤ 18446744073709551615) (w : World) : Calls Try.prog 77 #[.bool true, .int .u64 a, .int .u64 b] w (Told1I (IsOr64 a b) w) := by
  have HA := hide ha
  have HB := hide hb
  clear ha hb
  go_enter Try.func77, Try.ntmps77
  go_wp2_with fail
  refine (of64 a HA.out _).mono ?_; rintro e w1 ⟨k, s, g, x, rfl, h1, hb1⟩
  go_wp2_with fail
  refine (of64 b HB.out _).mono ?_; rintro e w2 ⟨k', s', g', x', rfl, h2, hb2⟩
  have hz : w1.heap.size < w2.heap.size := by have := hb2.size; simp at this; omega
  have k0 : w2.cell? ⟨w1.heap.size, 0, none⟩ = some (.int .i64 k) := keep_cell hb2 (by simp) (by simp)
  have k1 : w2.cell? ⟨w1.heap.size, 1, none⟩ = some (.bool s) := keep_cell hb2 (by simp) (by simp)
  have G2 : Below w.heap.size w (w2.alloc (.cells #[.int .i64 k', .bool s', .int .u64 g', .int .i64 x'] 90)) := by
    have g := bch hb1 (bch_one hb2)
    exact g.alloc g.size _
  clear hb1 hb2
  rcases h1.cases with ⟨n1, rfl⟩ | ⟨n1, t1, t2, e1⟩
  · rcases h2.cases with ⟨n2, rfl⟩ | ⟨n2, t3, t4, e2⟩
    · have HR : Hid (IsOr64 a b 0) := by unfold IsOr64 or64; rw [n1, n2]; rfl
      clear h1 h2 n1 n2
      go_wp2
      go_ret
      exact ⟨_, rfl, HR.out, G2⟩
    · have HR : Hid (IsOr64 a b 1) := by unfold IsOr64 or64; rw [n1, n2]; rfl
      clear h1 h2 n1 n2 e2
      go_wp2
      go_ret
      exact ⟨_, rfl, HR.out, G2⟩
  · rcases h2.cases with ⟨n2, rfl⟩ | ⟨n2, t3, t4, e2⟩
    · have HR : Hid (IsOr64 a b (-1)) := by unfold IsOr64 or64; rw [n1, n2]; rfl
      clear h1 h2 n1 n2 e1
      go_wp2
      go_ret
      exact ⟨_, rfl, HR.out, G2⟩
    · have N1 := hide n1
      have N2 := hide n2
      have E1 := hide e1
      have E2 := hide e2
      clear h1 h2 n1 n2 e1 e2
      go_wp2_with fail
      refine (rplace64 a HA.out _).mono ?_; rintro e w3 ⟨p, o, rfl, h1, hb3⟩
      have x3 := keep_cell hb3 (p := ⟨w1.heap.size, 1, none⟩) (by simp; omega) (keep_cell ((Below.refl _ _).alloc (Nat.le_refl _) _) hz k1)
      have y3 : w3.cell? ⟨w2.heap.size, 1, none⟩ = some (.bool s') := keep_cell hb3 (by simp) (by simp)
      have z3 : w2.heap.size < w3.heap.size := by have := hb3.size; simp at this; omega
      have G3 := G2.trans (hb3.mono G2.size)
      clear hb3 k0 k1
      go_wp2_with fail
      refine (rplace64 b HB.out _).mono ?_; rintro e w4 ⟨q, u, rfl, h2, hb4⟩
      have x4 := keep_cell hb4 (p := ⟨w1.heap.size, 1, none⟩) (by simp; omega) x3
      have y4 := keep_cell hb4 (p := ⟨w2.heap.size, 1, none⟩) (by simp; omega) y3
      have G4 := bch G3 hb4
      clear hb4 x3 y3 G2 G3
      have e3 : p = Vg.pl true a := by have := h1.2; rw [N1.out] at this; exact this
      have e4 : q = Vg.pl true b := by have := h2.2; rw [N2.out] at this; exact this
      have HR : Hid (IsOr64 a b (if p < q then -1 else if q < p then 1 else if s = s' then 0 else if s = true then -1 else 1)) := by
        have h0 : ¬ (Vg.nn true a = true ∨ Vg.nn true b = true) := by rw [N1.out, N2.out]; simp
        unfold IsOr64 or64; rw [if_neg h0, e3, e4, E1.out, E2.out]; exact hide rfl
      clear h1 h2 e3 e4 N1 N2 E1 E2
      rcases Int.lt_trichotomy p q with hl | hl | hl
      · have HR2 := hide (show IsOr64 a b (-1) by have := HR.out; rwa [if_pos hl] at this)
        clear HR
        go_wp2
        go_ret
        exact ⟨_, rfl, HR2.out, G4⟩
      · subst hl
        have HR2 := hide (show IsOr64 a b (if s = s' then 0 else if s = true then -1 else 1) by have := HR.out; rwa [if_neg (by omega), if_neg (by omega)] at this)
        clear HR
        cases s <;> cases s'
        all_goals
          go_wp2
          go_ret
          exact ⟨_, rfl, HR2.out, G4⟩
      · have HR2 := hide (show IsOr64 a b 1 by have := HR.out; rwa [if_neg (by omega), if_pos hl] at this)
        clear HR
        go_wp2
        go_ret
        exact ⟨_, rfl, HR2.out, G4⟩

theorem Num32.cases {b : Nat} {k : Int} {s : Bool} {g x : Int} (h : Num32 b k s g x) : Vg.nn false b = true ∧ k = 2 ∨ Vg.nn false b = false ∧ (k == 2) = false ∧ ((2 : Int) == k) = false ∧ s = Vg.ng false b := by
  have e := h.nan
  cases hn : Vg.nn false b
  · right
    rw [hn] at e
    refine ⟨rfl, e, ?_, h.2.1⟩
    rw [beq_eq_false_iff_ne] at e ⊢
    omega
  · left
    rw [hn] at e
    exact ⟨rfl, by simpa using e⟩

set_option maxHeartbeats 2000000 in
theorem rorder32 (a b : Nat) (ha : a ≤ 4294967295) (hb : b ≤ 4294967295) (w : World) : Calls Try.prog 77 #[.bool false, .int .u64 a, .int .u64 b] w (Told1I (IsOr32 a b) w) := by
  have HA := hide ha
  have HB := hide hb
  clear ha hb
  go_enter Try.func77, Try.ntmps77
  go_wp2_with fail
  refine (of32 a HA.out _).mono ?_; rintro e w1 ⟨k, s, g, x, rfl, h1, hb1⟩
  go_wp2_with fail
  refine (of32 b HB.out _).mono ?_; rintro e w2 ⟨k', s', g', x', rfl, h2, hb2⟩
  have hz : w1.heap.size < w2.heap.size := by have := hb2.size; simp at this; omega
  have k0 : w2.cell? ⟨w1.heap.size, 0, none⟩ = some (.int .i64 k) := keep_cell hb2 (by simp) (by simp)
  have k1 : w2.cell? ⟨w1.heap.size, 1, none⟩ = some (.bool s) := keep_cell hb2 (by simp) (by simp)
  have G2 : Below w.heap.size w (w2.alloc (.cells #[.int .i64 k', .bool s', .int .u64 g', .int .i64 x'] 90)) := by
    have g := bch hb1 (bch_one hb2)
    exact g.alloc g.size _
  clear hb1 hb2
  rcases h1.cases with ⟨n1, rfl⟩ | ⟨n1, t1, t2, e1⟩
  · rcases h2.cases with ⟨n2, rfl⟩ | ⟨n2, t3, t4, e2⟩
    · have HR : Hid (IsOr32 a b 0) := by unfold IsOr32 or32; rw [n1, n2]; rfl
      clear h1 h2 n1 n2
      go_wp2
      go_ret
      exact ⟨_, rfl, HR.out, G2⟩
    · have HR : Hid (IsOr32 a b 1) := by unfold IsOr32 or32; rw [n1, n2]; rfl
      clear h1 h2 n1 n2 e2
      go_wp2
      go_ret
      exact ⟨_, rfl, HR.out, G2⟩
  · rcases h2.cases with ⟨n2, rfl⟩ | ⟨n2, t3, t4, e2⟩
    · have HR : Hid (IsOr32 a b (-1)) := by unfold IsOr32 or32; rw [n1, n2]; rfl
      clear h1 h2 n1 n2 e1
      go_wp2
      go_ret
      exact ⟨_, rfl, HR.out, G2⟩
    · have N1 := hide n1
      have N2 := hide n2
      have E1 := hide e1
      have E2 := hide e2
      clear h1 h2 n1 n2 e1 e2
      go_wp2_with fail
      refine (rplace32 a HA.out _).mono ?_; rintro e w3 ⟨p, o, rfl, h1, hb3⟩
      have x3 := keep_cell hb3 (p := ⟨w1.heap.size, 1, none⟩) (by simp; omega) (keep_cell ((Below.refl _ _).alloc (Nat.le_refl _) _) hz k1)
      have y3 : w3.cell? ⟨w2.heap.size, 1, none⟩ = some (.bool s') := keep_cell hb3 (by simp) (by simp)
      have z3 : w2.heap.size < w3.heap.size := by have := hb3.size; simp at this; omega
      have G3 := G2.trans (hb3.mono G2.size)
      clear hb3 k0 k1
      go_wp2_with fail
      refine (rplace32 b HB.out _).mono ?_; rintro e w4 ⟨q, u, rfl, h2, hb4⟩
      have x4 := keep_cell hb4 (p := ⟨w1.heap.size, 1, none⟩) (by simp; omega) x3
      have y4 := keep_cell hb4 (p := ⟨w2.heap.size, 1, none⟩) (by simp; omega) y3
      have G4 := bch G3 hb4
      clear hb4 x3 y3 G2 G3
      have e3 : p = Vg.pl false a := by have := h1.2; rw [N1.out] at this; exact this
      have e4 : q = Vg.pl false b := by have := h2.2; rw [N2.out] at this; exact this
      have HR : Hid (IsOr32 a b (if p < q then -1 else if q < p then 1 else if s = s' then 0 else if s = true then -1 else 1)) := by
        have h0 : ¬ (Vg.nn false a = true ∨ Vg.nn false b = true) := by rw [N1.out, N2.out]; simp
        unfold IsOr32 or32; rw [if_neg h0, e3, e4, E1.out, E2.out]; exact hide rfl
      clear h1 h2 e3 e4 N1 N2 E1 E2
      rcases Int.lt_trichotomy p q with hl | hl | hl
      · have HR2 := hide (show IsOr32 a b (-1) by have := HR.out; rwa [if_pos hl] at this)
        clear HR
        go_wp2
        go_ret
        exact ⟨_, rfl, HR2.out, G4⟩
      · subst hl
        have HR2 := hide (show IsOr32 a b (if s = s' then 0 else if s = true then -1 else 1) by have := HR.out; rwa [if_neg (by omega), if_neg (by omega)] at this)
        clear HR
        cases s <;> cases s'
        all_goals
          go_wp2
          go_ret
          exact ⟨_, rfl, HR2.out, G4⟩
      · have HR2 := hide (show IsOr32 a b 1 by have := HR.out; rwa [if_neg (by omega), if_pos hl] at this)
        clear HR
        go_wp2
        go_ret
        exact ⟨_, rfl, HR2.out, G4⟩

end Go.Proofs.Ytgehcnlfplcaaaa

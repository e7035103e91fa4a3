/- Contracts of the reference's Bound and Cmp: ends as ratios. -/
import Derived.Test.YtljnadoodbninaaWFromB
import Derived.Test.YtljnadoodbninaaWRefRead
namespace Vg
/-- How two whole numbers stand to each other. -/
def icmp (a b : Int) : Int := if a < b then -1 else if b < a then 1 else 0
theorem icmp_scale {a b c d k l : Int} (hk : 0 < k) (hl : 0 < l) (h1 : a * k = c * l) (h2 : b * k = d * l) : icmp a b = icmp c d := by
  have e1 : a < b ↔ c < d := by
    rw [← Int.mul_lt_mul_right hk, h1, h2, Int.mul_lt_mul_right hl]
  have e2 : b < a ↔ d < c := by
    rw [← Int.mul_lt_mul_right hk, h1, h2, Int.mul_lt_mul_right hl]
  unfold icmp
  simp only [e1, e2]
/-- An end's infinity, its number of units. -/
def ei (p : Int) : Int := if p = PI then 1 else if p = -PI then -1 else 0
def eZ (p : Int) : Int := if p = PI ∨ p = -PI then 0 else sv p
def ecmp (i : Int) (Z : Int) (Q : Nat) (j : Int) (Z' : Int) (Q' : Nat) : Int := if i < j then -1 else if j < i then 1 else if i = 0 then icmp (Z * Q') (Z' * Q) else 0
theorem ei_top : ei PI = 1 := if_pos rfl
theorem ei_bot : ei (-PI) = -1 := by decide
theorem ei_mid {p : Int} (h1 : p ≠ PI) (h2 : p ≠ -PI) : ei p = 0 := by unfold ei; rw [if_neg h1, if_neg h2]
theorem eZ_mid {p : Int} (h1 : p ≠ PI) (h2 : p ≠ -PI) : eZ p = sv p := by unfold eZ; rw [if_neg (by rintro (h | h); exact h1 h; exact h2 h)]
theorem eZ_top : eZ PI = 0 := if_pos (.inl rfl)
theorem eZ_bot : eZ (-PI) = 0 := if_pos (.inr rfl)
end Vg
namespace Go.Proofs.Ytljnadoodbninaa
open Go.RowKit
theorem cmpz_icmp (a b : Nat) : cmpz a b = Vg.icmp a b := by
  unfold cmpz Vg.icmp
  simp only [Int.ofNat_lt]
theorem sg_zi (s : Bool) (n : Nat) : sg s n = Vg.icmp (Vg.zi s n) 0 := by
  unfold sg Vg.icmp Vg.zi
  by_cases h : n = 0
  · subst h; cases s <;> simp
  · rw [if_neg h]
    cases s
    · simp only [Bool.false_eq_true, if_false]; rw [if_neg (by omega), if_pos (by omega)]
    · simp only [if_true]; rw [if_pos (by omega)]
theorem rcz_icmp (s : Bool) (n m : Nat) (t : Bool) (n' m' : Nat) (hm : 0 < m) (hm' : 0 < m') : rcz s n m t n' m' = Vg.icmp (Vg.zi s n * m') (Vg.zi t n' * m) := by
  have z1 : Vg.zi s n * m' = Vg.zi s (n * m') := Vg.zi_mul s n m'
  have z2 : Vg.zi t n' * m = Vg.zi t (n' * m) := Vg.zi_mul t n' m
  have p1 : n = 0 ↔ n * m' = 0 := by
    constructor
    · rintro rfl; exact Nat.zero_mul _
    · intro h; rcases Nat.mul_eq_zero.1 h with h | h <;> omega
  have p2 : n' = 0 ↔ n' * m = 0 := by
    constructor
    · rintro rfl; exact Nat.zero_mul _
    · intro h; rcases Nat.mul_eq_zero.1 h with h | h <;> omega
  rw [z1, z2]
  unfold rcz sg
  simp only [p1, p2]
  rw [cmpz_icmp]
  generalize n * m' = a at *
  generalize n' * m = b at *
  unfold Vg.icmp Vg.zi
  by_cases ha : a = 0
  · by_cases hb : b = 0
    · subst ha; subst hb; cases s <;> cases t <;> simp
    · cases s <;> cases t <;> simp [ha, hb] <;> omega
  · by_cases hb : b = 0
    · cases s <;> cases t <;> simp [ha, hb] <;> omega
    · cases s <;> cases t <;> simp [ha, hb] <;> (repeat' split) <;> omega
/-- An end that can be read. -/
def En (w : World) (v : Value) (i : Int) (Z : Int) (Q B : Nat) : Prop :=
  ∃ s A1 n1 c1 A2 n2 c2, v = .agg #[.int .i64 i, .bool s, .slice A1 n1 c1, .slice A2 n2 c2] ∧ Rt w (.agg #[.bool s, .slice A1 n1 c1, .slice A2 n2 c2]) Z Q B
theorem En.keep {w w' : World} {v : Value} {i Z : Int} {Q B : Nat} (h : En w v i Z Q B) (hb : Below w.heap.size w w') : En w' v i Z Q B := by
  obtain ⟨s, A1, n1, c1, A2, n2, c2, h1, h2⟩ := h
  exact ⟨s, A1, n1, c1, A2, n2, c2, h1, h2.keep hb⟩
theorem En.other {w : World} {v : Value} {i Z : Int} {Q B : Nat} (h : En w v i Z Q B) {a : Addr} {u : Value} (hu : w.cell? a = some u) (hn : ∀ n, u ≠ .int .u32 n) (x : Value) : En (w.setCell a x) v i Z Q B := by
  obtain ⟨s, A1, n1, c1, A2, n2, c2, h1, h2⟩ := h
  exact ⟨s, A1, n1, c1, A2, n2, c2, h1, h2.other hu hn x⟩
def TEn (i Z : Int) (Q B : Nat) (w : World) (e : Ending) (w' : World) : Prop := ∃ v, e = .returned v ∧ En w' v i Z Q B ∧ Below w.heap.size w w'
set_option maxRecDepth 20000 in
set_option maxHeartbeats 4000000 in
theorem bound_any (p : Int) (hp : Vg.Pl p) (w : World) : Calls Try.prog 101 #[.int .u64 (Vg.atn true p : Nat)] w (TEn (Vg.ei p) (Vg.eZ p) Vg.LP 64 w) := by
  have I0 := fun w => int_any 0 (by decide) w
  by_cases c1 : p = Vg.PI
  · subst c1
    rw [top_int, Vg.ei_top, Vg.eZ_top]
    clear hp
    go_enter Try.func101, Try.ntmps101
    go_wp2_with fail
    refine (I0 _).mono ?_; rintro e w1 ⟨v, rfl, hv, hb⟩
    have k0 : w1.cell? ⟨w.heap.size, 0, none⟩ = some (.int .i64 0) := keep_cell hb (by simp) (by simp [go_sem])
    have f0 : w1.frozen? ⟨w.heap.size, 0, none⟩ = false := keep_free hb (by simp) (by simp)
    have k1 : w1.cell? ⟨w.heap.size, 1, none⟩ = some (.bool false) := keep_cell hb (by simp) (by simp [go_sem])
    have f1 : w1.frozen? ⟨w.heap.size, 1, none⟩ = false := keep_free hb (by simp) (by simp)
    have k2 : w1.cell? ⟨w.heap.size, 2, none⟩ = some (.slice none 0 0) := keep_cell hb (by simp) (by simp [go_sem])
    have f2 : w1.frozen? ⟨w.heap.size, 2, none⟩ = false := keep_free hb (by simp) (by simp)
    have k3 : w1.cell? ⟨w.heap.size, 3, none⟩ = some (.slice none 0 0) := keep_cell hb (by simp) (by simp [go_sem])
    have f3 : w1.frozen? ⟨w.heap.size, 3, none⟩ = false := keep_free hb (by simp) (by simp)
    have z : w.heap.size < w1.heap.size := by have := hb.size; simp at this; omega
    have g := bch_one hb
    have HV := hide (hv.conv (Z' := 0) (Q' := Vg.LP) (by decide) (by simp))
    obtain ⟨s', A1, n1, c1', A2, n2, c2', xs, ys, rfl, -⟩ := hv
    clear hb
    go_wp2
    exact bodyPost_ret (v := .agg #[.int .i64 (1), .bool s', .slice A1 n1 c1', .slice A2 n2 c2']) (by simp [results, Try.results101, go_sem, *]) rfl ⟨_, rfl, ⟨_, _, _, _, _, _, _, rfl, (((HV.out.other k0 (by simp) _).other (u := .bool false) (by simp [go_sem, *]) (by simp) _).other (u := .slice none 0 0) (by simp [go_sem, *]) (by simp) _).other (u := .slice none 0 0) (by simp [go_sem, *]) (by simp) _⟩, (((g.setCell (by dsimp only <;> omega) _).setCell (by dsimp only <;> omega) _).setCell (by dsimp only <;> omega) _).setCell (by dsimp only <;> omega) _⟩
  · by_cases c2 : p = -Vg.PI
    · subst c2
      rw [bot_int, Vg.ei_bot, Vg.eZ_bot]
      clear hp c1
      go_enter Try.func101, Try.ntmps101
      go_wp2_with fail
      refine (I0 _).mono ?_; rintro e w1 ⟨v, rfl, hv, hb⟩
      have k0 : w1.cell? ⟨w.heap.size, 0, none⟩ = some (.int .i64 0) := keep_cell hb (by simp) (by simp [go_sem])
      have f0 : w1.frozen? ⟨w.heap.size, 0, none⟩ = false := keep_free hb (by simp) (by simp)
      have k1 : w1.cell? ⟨w.heap.size, 1, none⟩ = some (.bool false) := keep_cell hb (by simp) (by simp [go_sem])
      have f1 : w1.frozen? ⟨w.heap.size, 1, none⟩ = false := keep_free hb (by simp) (by simp)
      have k2 : w1.cell? ⟨w.heap.size, 2, none⟩ = some (.slice none 0 0) := keep_cell hb (by simp) (by simp [go_sem])
      have f2 : w1.frozen? ⟨w.heap.size, 2, none⟩ = false := keep_free hb (by simp) (by simp)
      have k3 : w1.cell? ⟨w.heap.size, 3, none⟩ = some (.slice none 0 0) := keep_cell hb (by simp) (by simp [go_sem])
      have f3 : w1.frozen? ⟨w.heap.size, 3, none⟩ = false := keep_free hb (by simp) (by simp)
      have z : w.heap.size < w1.heap.size := by have := hb.size; simp at this; omega
      have g := bch_one hb
      have HV := hide (hv.conv (Z' := 0) (Q' := Vg.LP) (by decide) (by simp))
      obtain ⟨s', A1, n1, c1', A2, n2, c2', xs, ys, rfl, -⟩ := hv
      clear hb
      go_wp2
      exact bodyPost_ret (v := .agg #[.int .i64 (-1), .bool s', .slice A1 n1 c1', .slice A2 n2 c2']) (by simp [results, Try.results101, go_sem, *]) rfl ⟨_, rfl, ⟨_, _, _, _, _, _, _, rfl, (((HV.out.other k0 (by simp) _).other (u := .bool false) (by simp [go_sem, *]) (by simp) _).other (u := .slice none 0 0) (by simp [go_sem, *]) (by simp) _).other (u := .slice none 0 0) (by simp [go_sem, *]) (by simp) _⟩, (((g.setCell (by dsimp only <;> omega) _).setCell (by dsimp only <;> omega) _).setCell (by dsimp only <;> omega) _).setCell (by dsimp only <;> omega) _⟩
    · have P1 := fun w => rplain_any (Vg.atn true p) (Vg.atn_le hp) (Vg.nn_atn hp) w
      rw [Vg.plainb_atn hp] at P1
      have F1 := fun w => frombits_any (Vg.atn true p) (Vg.atn_le hp) (by rw [Vg.rg_atn hp]; have := hp.bd; rw [Vg.PI_eq] at c1 c2; omega) w
      rw [Vg.su_atn hp] at F1
      rw [Vg.ei_mid c1 c2, Vg.eZ_mid c1 c2]
      have t1 : (((Vg.atn true p : Nat) : Int) == 9218868437227405312) = false := by
        rw [beq_eq_false_iff_ne, ← top_int]; intro h; exact c1 (Vg.atn_inj hp Vg.pl_top (by omega))
      have t2 : (((Vg.atn true p : Nat) : Int) == 18442240474082181120) = false := by
        rw [beq_eq_false_iff_ne, ← bot_int]; intro h; exact c2 (Vg.atn_inj hp Vg.pl_bot (by omega))
      clear hp c1 c2
      generalize Vg.sv p = Z at *
      generalize Vg.atn true p = X at *
      go_enter Try.func101, Try.ntmps101
      go_wp2_with (go_at_call 76; refine (P1 _).mono ?_; rintro e w' ⟨rfl, rfl⟩)
      refine (F1 _).mono ?_; rintro e w1 ⟨v, rfl, hv, hb⟩
      have k0 : w1.cell? ⟨w.heap.size, 0, none⟩ = some (.int .i64 0) := keep_cell hb (by simp) (by simp [go_sem])
      have f0 : w1.frozen? ⟨w.heap.size, 0, none⟩ = false := keep_free hb (by simp) (by simp)
      have k1 : w1.cell? ⟨w.heap.size, 1, none⟩ = some (.bool false) := keep_cell hb (by simp) (by simp [go_sem])
      have f1 : w1.frozen? ⟨w.heap.size, 1, none⟩ = false := keep_free hb (by simp) (by simp)
      have k2 : w1.cell? ⟨w.heap.size, 2, none⟩ = some (.slice none 0 0) := keep_cell hb (by simp) (by simp [go_sem])
      have f2 : w1.frozen? ⟨w.heap.size, 2, none⟩ = false := keep_free hb (by simp) (by simp)
      have k3 : w1.cell? ⟨w.heap.size, 3, none⟩ = some (.slice none 0 0) := keep_cell hb (by simp) (by simp [go_sem])
      have f3 : w1.frozen? ⟨w.heap.size, 3, none⟩ = false := keep_free hb (by simp) (by simp)
      have z : w.heap.size < w1.heap.size := by have := hb.size; simp at this; omega
      have g := bch_one hb
      have HV := hide (hv)
      obtain ⟨s', A1, n1, c1', A2, n2, c2', xs, ys, rfl, -⟩ := hv
      clear hb
      go_wp2
      exact bodyPost_ret (v := .agg #[.int .i64 (0), .bool s', .slice A1 n1 c1', .slice A2 n2 c2']) (by simp [results, Try.results101, go_sem, *]) rfl ⟨_, rfl, ⟨_, _, _, _, _, _, _, rfl, (((HV.out.other k0 (by simp) _).other (u := .bool false) (by simp [go_sem, *]) (by simp) _).other (u := .slice none 0 0) (by simp [go_sem, *]) (by simp) _).other (u := .slice none 0 0) (by simp [go_sem, *]) (by simp) _⟩, (((g.setCell (by dsimp only <;> omega) _).setCell (by dsimp only <;> omega) _).setCell (by dsimp only <;> omega) _).setCell (by dsimp only <;> omega) _⟩

set_option maxRecDepth 20000 in
set_option maxHeartbeats 4000000 in
theorem ecmp_any (a b : Value) (i Z j Z' : Int) (Q B Q' B' : Nat) (w : World) (ha : En w a i Z Q B) (hb : En w b j Z' Q' B') (hl : B + B' ≤ 35184372088831) (hQ : 0 < Q) (hQ' : 0 < Q') : Calls Try.prog 79 #[a, b] w (TInt (Vg.ecmp i Z Q j Z' Q') w) := by
  obtain ⟨s, A1, n1, c1, A2, n2, c2, rfl, s', A1', n1', c1', A2', n2', c2', xs, ys, e0, h1, h2, h3, h4, h5, h6⟩ := ha
  obtain ⟨t, A3, n3, c3, A4, n4, c4, rfl, t', A3', n3', c3', A4', n4', c4', xt, yt, e1, k1, k2, k3, k4, k5, k6⟩ := hb
  injection e0 with e0; injection e0 with e0
  injection e1 with e1; injection e1 with e1
  simp only [List.cons.injEq, Value.bool.injEq, Value.slice.injEq, and_true] at e0 e1
  obtain ⟨rfl, ⟨rfl, rfl, rfl⟩, rfl, rfl, rfl⟩ := e0
  obtain ⟨rfl, ⟨rfl, rfl, rfl⟩, rfl, rfl, rfl⟩ := e1
  have RC := fun (w' : World) (h : Below w.heap.size w w') => rcmp_any s t A1 A2 A3 A4 n1 c1 n2 c2 n3 c3 n4 c4 xs ys xt yt w' (h1.keep h) (h2.keep h) (k1.keep h) (k2.keep h) (by omega) (by omega)
  have R : Hid (Vg.ecmp i Z Q j Z' Q' = if i < j then -1 else if j < i then 1 else if i = 0 then rcz s (Vg.nat32 xs) (Vg.nat32 ys) t (Vg.nat32 xt) (Vg.nat32 yt) else 0) := hide (by
    unfold Vg.ecmp
    rw [rcz_icmp _ _ _ _ _ _ h4 k4]
    have : Vg.icmp (Z * Q') (Z' * Q) = Vg.icmp (Vg.zi s (Vg.nat32 xs) * (Vg.nat32 yt : Int)) (Vg.zi t (Vg.nat32 xt) * (Vg.nat32 ys : Int)) := by
      refine Vg.icmp_scale (k := (Vg.nat32 ys : Int) * (Vg.nat32 yt : Int)) (l := (Q : Int) * (Q' : Int)) (Int.mul_pos (by omega) (by omega)) (Int.mul_pos (by omega) (by omega)) ?_ ?_
      · rw [show Z * (Q' : Int) * ((Vg.nat32 ys : Int) * (Vg.nat32 yt : Int)) = Z * (Vg.nat32 ys : Int) * ((Vg.nat32 yt : Int) * (Q' : Int)) by simp only [Int.mul_assoc, Int.mul_comm, Int.mul_left_comm], ← h3]
        simp only [Int.mul_assoc, Int.mul_comm, Int.mul_left_comm]
      · rw [show Z' * (Q : Int) * ((Vg.nat32 ys : Int) * (Vg.nat32 yt : Int)) = Z' * (Vg.nat32 yt : Int) * ((Vg.nat32 ys : Int) * (Q : Int)) by simp only [Int.mul_assoc, Int.mul_comm, Int.mul_left_comm], ← k3]
        simp only [Int.mul_assoc, Int.mul_comm, Int.mul_left_comm]
    rw [this])
  obtain ⟨r, hr⟩ : ∃ r, rcz s (Vg.nat32 xs) (Vg.nat32 ys) t (Vg.nat32 xt) (Vg.nat32 yt) = r := ⟨_, rfl⟩
  rw [hr] at RC R
  obtain ⟨z, hz⟩ : ∃ z, Vg.ecmp i Z Q j Z' Q' = z := ⟨_, rfl⟩
  rw [hz] at R ⊢
  clear h1 h2 h3 h4 h5 h6 k1 k2 k3 k4 k5 k6 hl hr hz hQ hQ'
  rcases Int.lt_trichotomy i j with h | h | h
  · have R2 := hide (show z = -1 by rw [R.out, if_pos h])
    have t0 : (i != j) = true := by rw [bne_iff_ne]; omega
    clear R
    go_enter Try.func79, Try.ntmps79
    go_wp2_with fail
    go_ret
    exact ⟨by rw [R2.out]; rfl, b_two⟩
  · subst h
    have t0 : (i != i) = false := by simp
    by_cases c : i = 0
    · have R2 := hide (show z = r by rw [R.out, if_neg (by omega), if_neg (by omega), if_pos c])
      have t1 : (i != 0) = false := by simp [c]
      clear R
      go_enter Try.func79, Try.ntmps79
      go_wp2_with fail
      refine (RC _ b_two).mono ?_; rintro e w1 ⟨rfl, hb1⟩
      have g : Below w.heap.size w w1 := b_two.trans (hb1.mono (by simp <;> omega))
      clear hb1 RC
      go_wp2
      go_ret
      exact ⟨by rw [R2.out]; rfl, g⟩
    · have R2 := hide (show z = 0 by rw [R.out, if_neg (by omega), if_neg (by omega), if_neg c])
      have t1 : (i != 0) = true := by rw [bne_iff_ne]; exact c
      clear R
      go_enter Try.func79, Try.ntmps79
      go_wp2_with fail
      go_ret
      exact ⟨by rw [R2.out]; rfl, b_two⟩
  · have R2 := hide (show z = 1 by rw [R.out, if_neg (by omega), if_pos h])
    have t0 : (i != j) = true := by rw [bne_iff_ne]; omega
    have t1 : ¬ i < j := by omega
    clear R
    go_enter Try.func79, Try.ntmps79
    go_wp2_with fail
    go_ret
    exact ⟨by rw [R2.out]; rfl, b_two⟩
end Go.Proofs.Ytljnadoodbninaa

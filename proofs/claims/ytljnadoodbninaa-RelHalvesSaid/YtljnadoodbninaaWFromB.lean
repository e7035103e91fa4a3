/- Contracts of the reference's FromBits and Int: the ratio of a pattern, of a whole number. -/
import Derived.Test.YtljnadoodbninaaWFrac
import Derived.Test.YtljnadoodbninaaMSum
import Derived.Test.YtljnadoodbninaaMBit
namespace Vg
/-- 2^n. -/
def tp (n : Nat) : Nat := 2 ^ n
theorem tp_pos (n : Nat) : 0 < tp n := Nat.two_pow_pos n
theorem tp_mul (n a : Nat) : 2 ^ a * tp n = 2 ^ (a + n) := (Nat.pow_add 2 a n).symm
/-- So many least units make 1. -/
def LP : Nat := tp 1074
theorem LP_pos : 0 < LP := tp_pos 1074
theorem LP_mul (a : Nat) : 2 ^ a * LP = 2 ^ (a + 1074) := tp_mul 1074 a
open Go Ieee in
theorem su_frac {b f e : Nat} (h : e = 0 ∧ f = rg true b ∧ rg true b < 4503599627370496 ∨ 4503599627370496 ≤ rg true b ∧ e + 1 = rg true b / 4503599627370496 ∧ f = rg true b % 4503599627370496 + 4503599627370496) : zi (ng true b) (f * 2 ^ e) = su b := by
  have v : f * 2 ^ e = val FloatKind.f64.format (rg true b) := by
    unfold val
    rw [f64_B]
    rcases h with ⟨rfl, rfl, h⟩ | ⟨h1, h2, rfl⟩
    · rw [if_pos h, Nat.pow_zero, Nat.mul_one]
    · rw [if_neg (by omega), show rg true b / 4503599627370496 - 1 = e by omega, Nat.add_comm]
  rw [v]; rfl
end Vg
namespace Go.Proofs.Ytljnadoodbninaa
open Go.RowKit
theorem Rt.conv {w : World} {v : Value} {Z Z' : Int} {Q Q' B : Nat} (h : Rt w v Z Q B) (hq : 0 < Q) (e : Z * (Q' : Int) = Z' * (Q : Int)) : Rt w v Z' Q' B := by
  obtain ⟨s, A1, n1, c1, A2, n2, c2, xs, ys, h1, h2, h3, h4, h5⟩ := h
  refine ⟨s, A1, n1, c1, A2, n2, c2, xs, ys, h1, h2, h3, ?_, h5⟩
  have hQ : (Q : Int) ≠ 0 := by omega
  refine Int.eq_of_mul_eq_mul_right hQ ?_
  rw [Int.mul_right_comm, h4, Int.mul_right_comm, e, Int.mul_right_comm]
theorem Rt.more {w : World} {v : Value} {Z : Int} {Q B B' : Nat} (h : Rt w v Z Q B) (hb : B ≤ B') : Rt w v Z Q B' := by
  obtain ⟨s, A1, n1, c1, A2, n2, c2, xs, ys, h1, h2, h3, h4, h5, h6, h7⟩ := h
  exact ⟨s, A1, n1, c1, A2, n2, c2, xs, ys, h1, h2, h3, h4, h5, Nat.le_trans h6 hb, Nat.le_trans h7 hb⟩
theorem Rt.other {w : World} {v : Value} {Z : Int} {Q B : Nat} (h : Rt w v Z Q B) {a : Addr} {u : Value} (hu : w.cell? a = some u) (hn : ∀ n, u ≠ .int .u32 n) (x : Value) : Rt (w.setCell a x) v Z Q B := by
  obtain ⟨s, A1, n1, c1, A2, n2, c2, xs, ys, h1, h2, h3, h4⟩ := h
  exact ⟨s, A1, n1, c1, A2, n2, c2, xs, ys, h1, h2.other hu hn x, h3.other hu hn x, h4⟩
theorem one_rw (w : World) : Rw (w.alloc (.cells #[.int .u32 1] 78)) (.slice (some ⟨w.heap.size, 0, none⟩) 1 1) [1] := by
  refine ⟨by (intro b hb; simp at hb; omega), .inr ⟨w.heap.size, 0, 1, rfl, by simp, ?_, by simp⟩⟩
  intro i hi
  obtain rfl : i = 0 := by simp at hi; omega
  simp [go_sem, wv]

set_option maxRecDepth 20000 in
set_option maxHeartbeats 400000 in
theorem frombits_any (b : Nat) (hb : b ≤ 18446744073709551615) (hf : Vg.rg true b < 9218868437227405312) (w : World) : Calls Try.prog 120 #[.int .u64 b] w (TRt (Vg.su b) Vg.LP 64 w) := by
  obtain ⟨q, hq⟩ : ∃ q, b / 4503599627370496 = q := ⟨_, rfl⟩
  have e1 : (b : Int) / 4503599627370496 = (q : Int) := by omega
  have a1 : bits .and .u64 (q : Int) 2047 = ((q % 2048 : Nat) : Int) := by
    have h := u64_and_nat q 2047 (by omega) (by decide)
    rw [show (2047 : Nat) = 2 ^ 11 - 1 from rfl, Nat.and_two_pow_sub_one_eq_mod] at h
    exact h
  have a2 := Vg.andLow64 b hb
  obtain ⟨E, hE⟩ : ∃ q', q % 2048 = q' := ⟨_, rfl⟩
  obtain ⟨F, hF⟩ : ∃ q', b % 4503599627370496 = q' := ⟨_, rfl⟩
  rw [hE] at a1
  rw [hF] at a2
  have hr : Vg.rg true b = b % 9223372036854775808 := rfl
  obtain ⟨n, hn⟩ : ∃ n, b / 9223372036854775808 = n := ⟨_, rfl⟩
  have e2 : (b : Int) / 9223372036854775808 = (n : Int) := by omega
  have t2 : ((n : Int) == 1) = Vg.ng true b := by
    rw [Bool.eq_iff_iff, beq_iff_eq]
    simp only [Vg.ng, Vg.S, if_true, decide_eq_true_eq]
    omega
  have t3 : (n == 1) = Vg.ng true b := by
    rw [← t2, Bool.eq_iff_iff, beq_iff_eq, beq_iff_eq]; omega
  have u1 : IntKind.i64.wrap (E : Int) = (E : Int) := IntWalk.i64_in _ (by omega)
  have HR := hide (show E = Vg.rg true b / 4503599627370496 ∧ F = Vg.rg true b % 4503599627370496 ∧ E ≤ 2046 ∧ F < 4503599627370496 from by omega)
  obtain ⟨s, hs⟩ : ∃ s, Vg.ng true b = s := ⟨_, rfl⟩
  rw [hs] at t2 t3
  have main : ∀ (f e : Nat), (e = 0 ∧ f = Vg.rg true b ∧ Vg.rg true b < 4503599627370496 ∨ 4503599627370496 ≤ Vg.rg true b ∧ e + 1 = Vg.rg true b / 4503599627370496 ∧ f = Vg.rg true b % 4503599627370496 + 4503599627370496) →
      ∀ (x : Int), x = (e : Int) - 1074 → ∀ (w' : World) (a c : Value) (xs : List Nat), Rw w' a xs → Vg.nat32 xs = f → xs.length ≤ 2 → Rw w' c [1] → Calls Try.prog 128 #[.bool s, a, c,   .int .i64 x] w' (TRt (Vg.su b) Vg.LP 64 w') := by
    intro f e h x hx w' a c xs h1 h2 h3 h4
    subst hx
    have he : e ≤ 2046 := by omega
    refine (frac_any s a c xs [1] ((e : Int) - 1074) 64 w' h1 h4 (by decide) (by simp; omega) (by decide)).mono ?_
    rintro e0 w1 ⟨v, rfl, hv, hb⟩
    refine ⟨v, rfl, hv.conv (Nat.mul_pos (by decide) (Nat.two_pow_pos _)) ?_, hb⟩
    rw [← Vg.su_frac h, hs, h2, Vg.zi_mul, Vg.zi_mul]
    congr 1
    rw [show Vg.nat32 [1] = 1 by decide, Nat.one_mul]
    rw [Nat.mul_assoc, Nat.mul_assoc, Vg.LP_mul, ← Nat.pow_add]
    congr 2
    omega
  have HM := hide main
  have SM := fun (v : Nat) (h : v ≤ 18446744073709551615) (w : World) => small_any v h w
  clear main hq hE hF hr hn hs hf hb
  by_cases c : E = 0
  · subst c
    have S1 := fun w => SM F (by have := HR.out; omega) w
    clear SM
    go_enter Try.func120, Try.ntmps120
    go_wp2_with fail
    refine (S1 _).mono ?_; rintro e0 w1 ⟨v1, ns, rfl, h1, h2, h3, h4, hb⟩
    have k0 : w1.cell? ⟨w.heap.size, 0, none⟩ = some (.bool false) := keep_cell hb (by simp) (by simp [go_sem])
    have k1 : w1.cell? ⟨w.heap.size, 1, none⟩ = some (.slice none 0 0) := keep_cell hb (by simp) (by simp [go_sem])
    have k2 : w1.cell? ⟨w.heap.size, 2, none⟩ = some (.slice none 0 0) := keep_cell hb (by simp) (by simp [go_sem])
    have f0 : w1.frozen? ⟨w.heap.size, 0, none⟩ = false := keep_free hb (by simp) (by simp)
    have f1 : w1.frozen? ⟨w.heap.size, 1, none⟩ = false := keep_free hb (by simp) (by simp)
    have f2 : w1.frozen? ⟨w.heap.size, 2, none⟩ = false := keep_free hb (by simp) (by simp)
    have z : w.heap.size < w1.heap.size := by have := hb.size; simp at this; omega
    have g := bch_one hb
    have FR := HM.out F 0 (by have := HR.out; omega) (-1074) (by decide) (w1.alloc (.cells #[.int .u32 1] 78)) v1 (.slice (some ⟨w1.heap.size, 0, none⟩) 1 1) ns (h1.keep b_one) h2 h4 (one_rw w1)
    clear hb h1 h2 h3 h4 HM HR S1
    go_wp2_with fail
    refine FR.mono ?_; rintro e0 w2 ⟨v2, rfl, hv, hb⟩
    have q0 := keep_cell hb (by simp; omega) (show (w1.alloc (.cells #[.int .u32 1] 78)).cell? ⟨w.heap.size, 0, none⟩ = some (.bool false) by simp [go_sem, *])
    have q1 := keep_cell hb (by simp; omega) (show (w1.alloc (.cells #[.int .u32 1] 78)).cell? ⟨w.heap.size, 1, none⟩ = some (.slice none 0 0) by simp [go_sem, *])
    have q2 := keep_cell hb (by simp; omega) (show (w1.alloc (.cells #[.int .u32 1] 78)).cell? ⟨w.heap.size, 2, none⟩ = some (.slice none 0 0) by simp [go_sem, *])
    have f0 := keep_free hb (by simp; omega) (show (w1.alloc (.cells #[.int .u32 1] 78)).frozen? ⟨w.heap.size, 0, none⟩ = false by simp [go_sem, *])
    have f1 := keep_free hb (by simp; omega) (show (w1.alloc (.cells #[.int .u32 1] 78)).frozen? ⟨w.heap.size, 1, none⟩ = false by simp [go_sem, *])
    have f2 := keep_free hb (by simp; omega) (show (w1.alloc (.cells #[.int .u32 1] 78)).frozen? ⟨w.heap.size, 2, none⟩ = false by simp [go_sem, *])
    have g := bch (g.alloc g.size _) hb
    have HV := hide hv
    obtain ⟨s', A1, n1, c1', A2, n2, c2', xs, ys, rfl, -⟩ := hv
    clear hb FR k0 k1 k2 z
    go_wp2
    exact bodyPost_ret (v := .agg #[.bool s', .slice A1 n1 c1', .slice A2 n2 c2']) (by simp [results, Try.results120, go_sem, *]) rfl ⟨_, rfl, ((HV.out.other q0 (by simp) _).other (u := .slice none 0 0) (by simp [go_sem, *]) (by simp) _).other (u := .slice none 0 0) (by simp [go_sem, *]) (by simp) _, ((g.setCell (by dsimp only <;> omega) _).setCell (by dsimp only <;> omega) _).setCell (by dsimp only <;> omega) _⟩
  · have c1 : (0 : Int) < E := by omega
    have S1 := fun w => SM (F + 4503599627370496) (by have := HR.out; omega) w
    have u2 : IntKind.u64.wrap ((F : Int) + 4503599627370496) = ((F + 4503599627370496 : Nat) : Int) := by have := HR.out; rw [IntKind.wrap_u64]; omega
    obtain ⟨e, he⟩ : ∃ e, E = e + 1 := ⟨E - 1, by omega⟩
    have u3 : IntKind.i64.wrap ((E : Int) - 1) = (e : Int) := by rw [IntWalk.i64_in _ (by have := HR.out; omega)]; omega
    have u4 : IntKind.i64.wrap ((e : Int) - 1074) = (e : Int) - 1074 := IntWalk.i64_in _ (by have := HR.out; omega)
    have HE := hide he
    clear SM c he
    go_enter Try.func120, Try.ntmps120
    go_wp2_with fail
    refine (S1 _).mono ?_; rintro e0 w1 ⟨v1, ns, rfl, h1, h2, h3, h4, hb⟩
    have k0 : w1.cell? ⟨w.heap.size, 0, none⟩ = some (.bool false) := keep_cell hb (by simp) (by simp [go_sem])
    have k1 : w1.cell? ⟨w.heap.size, 1, none⟩ = some (.slice none 0 0) := keep_cell hb (by simp) (by simp [go_sem])
    have k2 : w1.cell? ⟨w.heap.size, 2, none⟩ = some (.slice none 0 0) := keep_cell hb (by simp) (by simp [go_sem])
    have f0 : w1.frozen? ⟨w.heap.size, 0, none⟩ = false := keep_free hb (by simp) (by simp)
    have f1 : w1.frozen? ⟨w.heap.size, 1, none⟩ = false := keep_free hb (by simp) (by simp)
    have f2 : w1.frozen? ⟨w.heap.size, 2, none⟩ = false := keep_free hb (by simp) (by simp)
    have z : w.heap.size < w1.heap.size := by have := hb.size; simp at this; omega
    have g := bch_one hb
    have FR := HM.out (F + 4503599627370496) e (by have := HR.out; have := HE.out; omega) ((e : Int) - 1074) rfl (w1.alloc (.cells #[.int .u32 1] 78)) v1 (.slice (some ⟨w1.heap.size, 0, none⟩) 1 1) ns (h1.keep b_one) h2 h4 (one_rw w1)
    clear hb h1 h2 h3 h4 HM HR S1
    go_wp2_with fail
    refine FR.mono ?_; rintro e0 w2 ⟨v2, rfl, hv, hb⟩
    have q0 := keep_cell hb (by simp; omega) (show (w1.alloc (.cells #[.int .u32 1] 78)).cell? ⟨w.heap.size, 0, none⟩ = some (.bool false) by simp [go_sem, *])
    have q1 := keep_cell hb (by simp; omega) (show (w1.alloc (.cells #[.int .u32 1] 78)).cell? ⟨w.heap.size, 1, none⟩ = some (.slice none 0 0) by simp [go_sem, *])
    have q2 := keep_cell hb (by simp; omega) (show (w1.alloc (.cells #[.int .u32 1] 78)).cell? ⟨w.heap.size, 2, none⟩ = some (.slice none 0 0) by simp [go_sem, *])
    have f0 := keep_free hb (by simp; omega) (show (w1.alloc (.cells #[.int .u32 1] 78)).frozen? ⟨w.heap.size, 0, none⟩ = false by simp [go_sem, *])
    have f1 := keep_free hb (by simp; omega) (show (w1.alloc (.cells #[.int .u32 1] 78)).frozen? ⟨w.heap.size, 1, none⟩ = false by simp [go_sem, *])
    have f2 := keep_free hb (by simp; omega) (show (w1.alloc (.cells #[.int .u32 1] 78)).frozen? ⟨w.heap.size, 2, none⟩ = false by simp [go_sem, *])
    have g := bch (g.alloc g.size _) hb
    have HV := hide hv
    obtain ⟨s', A1, n1, c1', A2, n2, c2', xs, ys, rfl, -⟩ := hv
    clear hb FR k0 k1 k2 z
    go_wp2
    exact bodyPost_ret (v := .agg #[.bool s', .slice A1 n1 c1', .slice A2 n2 c2']) (by simp [results, Try.results120, go_sem, *]) rfl ⟨_, rfl, ((HV.out.other q0 (by simp) _).other (u := .slice none 0 0) (by simp [go_sem, *]) (by simp) _).other (u := .slice none 0 0) (by simp [go_sem, *]) (by simp) _, ((g.setCell (by dsimp only <;> omega) _).setCell (by dsimp only <;> omega) _).setCell (by dsimp only <;> omega) _⟩

set_option maxRecDepth 20000 in
set_option maxHeartbeats 1000000 in
theorem int_any (n : Nat) (hn : n ≤ 4611686018427387904) (w : World) : Calls Try.prog 122 #[.int .i64 n] w (TRt (n : Int) 1 64 w) := by
  have t1 : ¬ ((n : Int) < 0) := by omega
  have u1 : IntKind.u64.wrap (n : Int) = (n : Int) := by rw [IntKind.wrap_u64]; omega
  have S1 := fun w => small_any n (by omega) w
  have FR := fun (w' : World) (a c : Value) (xs : List Nat) (h1 : Rw w' a xs) (h2 : Vg.nat32 xs = n) (h3 : xs.length ≤ 2) (h4 : Rw w' c [1]) => frac_any false a c xs [1] 0 64 w' h1 h4 (by decide) (by simp; omega) (by decide)
  clear hn
  go_enter Try.func122, Try.ntmps122
  go_wp2_with fail
  refine (S1 _).mono ?_; rintro e0 w1 ⟨v1, ns, rfl, h1, h2, h3, h4, hb⟩
  have k0 : w1.cell? ⟨w.heap.size, 0, none⟩ = some (.bool false) := keep_cell hb (by simp) (by simp [go_sem])
  have f0 : w1.frozen? ⟨w.heap.size, 0, none⟩ = false := keep_free hb (by simp) (by simp)
  have k1 : w1.cell? ⟨w.heap.size, 1, none⟩ = some (.slice none 0 0) := keep_cell hb (by simp) (by simp [go_sem])
  have f1 : w1.frozen? ⟨w.heap.size, 1, none⟩ = false := keep_free hb (by simp) (by simp)
  have k2 : w1.cell? ⟨w.heap.size, 2, none⟩ = some (.slice none 0 0) := keep_cell hb (by simp) (by simp [go_sem])
  have f2 : w1.frozen? ⟨w.heap.size, 2, none⟩ = false := keep_free hb (by simp) (by simp)
  have z : w.heap.size < w1.heap.size := by have := hb.size; simp at this; omega
  have g := bch_one hb
  have FR := FR (w1.alloc (.cells #[.int .u32 1] 78)) v1 (.slice (some ⟨w1.heap.size, 0, none⟩) 1 1) ns (h1.keep b_one) h2 h4 (one_rw w1)
  have HN := hide h2
  clear hb h1 h2 h3 h4 S1
  go_wp2_with fail
  refine FR.mono ?_; rintro e0 w2 ⟨v2, rfl, hv, hb⟩
  have k0 := keep_cell hb (by simp; omega) (show (w1.alloc (.cells #[.int .u32 1] 78)).cell? ⟨w.heap.size, 0, none⟩ = some (.bool false) by simp [go_sem, *])
  have f0 := keep_free hb (by simp; omega) (show (w1.alloc (.cells #[.int .u32 1] 78)).frozen? ⟨w.heap.size, 0, none⟩ = false by simp [go_sem, *])
  have k1 := keep_cell hb (by simp; omega) (show (w1.alloc (.cells #[.int .u32 1] 78)).cell? ⟨w.heap.size, 1, none⟩ = some (.slice none 0 0) by simp [go_sem, *])
  have f1 := keep_free hb (by simp; omega) (show (w1.alloc (.cells #[.int .u32 1] 78)).frozen? ⟨w.heap.size, 1, none⟩ = false by simp [go_sem, *])
  have k2 := keep_cell hb (by simp; omega) (show (w1.alloc (.cells #[.int .u32 1] 78)).cell? ⟨w.heap.size, 2, none⟩ = some (.slice none 0 0) by simp [go_sem, *])
  have f2 := keep_free hb (by simp; omega) (show (w1.alloc (.cells #[.int .u32 1] 78)).frozen? ⟨w.heap.size, 2, none⟩ = false by simp [go_sem, *])
  have z : w.heap.size < _ := Nat.lt_of_lt_of_le (show w.heap.size < (w1.alloc (.cells #[.int .u32 1] 78)).heap.size by simp; omega) hb.size
  have g := bch (g.alloc g.size _) hb
  have HV : Hid (Rt w2 v2 (n : Int) 1 64) := hide (hv.conv (Nat.mul_pos (by decide) (Nat.two_pow_pos _)) (by rw [HN.out]; simp [Vg.zi, Vg.nat32]))
  obtain ⟨s', A1, n1, c1', A2, n2, c2', xs, ys, rfl, -⟩ := hv
  clear hb FR
  go_wp2
  exact bodyPost_ret (v := .agg #[.bool s', .slice A1 n1 c1', .slice A2 n2 c2']) (by simp [results, Try.results122, go_sem, *]) rfl ⟨_, rfl, ((HV.out.other k0 (by simp) _).other (u := .slice none 0 0) (by simp [go_sem, *]) (by simp) _).other (u := .slice none 0 0) (by simp [go_sem, *]) (by simp) _, ((g.setCell (by dsimp only <;> omega) _).setCell (by dsimp only <;> omega) _).setCell (by dsimp only <;> omega) _⟩
end Go.Proofs.Ytljnadoodbninaa

/- Contract of the reference's Frac: a ratio's value. -/
import Derived.Test.YtljnadoodbninaaWRat
namespace Vg
theorem frac_eq {n d k j a b p q : Nat} (h : a + j + q = k + p + b) : (n * 2 ^ a) * (d * 2 ^ j * 2 ^ q) = (n * 2 ^ k * 2 ^ p) * (d * 2 ^ b) := by
  have e1 : (n * 2 ^ a) * (d * 2 ^ j * 2 ^ q) = n * d * 2 ^ (a + j + q) := by
    rw [Nat.pow_add, Nat.pow_add]; simp only [Nat.mul_assoc, Nat.mul_comm, Nat.mul_left_comm]
  have e2 : (n * 2 ^ k * 2 ^ p) * (d * 2 ^ b) = n * d * 2 ^ (k + p + b) := by
    rw [Nat.pow_add, Nat.pow_add]; simp only [Nat.mul_assoc, Nat.mul_comm, Nat.mul_left_comm]
  rw [e1, e2, h]
/-- A number with a sign. -/
def zi (s : Bool) (n : Nat) : Int := if s then -(n : Int) else n
theorem zi_zero (s : Bool) : zi s 0 = 0 := by cases s <;> rfl
theorem zi_mul (s : Bool) (n m : Nat) : zi s n * (m : Int) = zi s (n * m) := by cases s <;> simp [zi, Int.neg_mul]
end Vg
namespace Go.Proofs.Ytljnadoodbninaa
open Go.RowKit
/-- A ratio that can be read, of the value Z by Q. -/
def Rt (w : World) (v : Value) (Z : Int) (Q B : Nat) : Prop :=
  ∃ s A1 n1 c1 A2 n2 c2 xs ys, v = .agg #[.bool s, .slice A1 n1 c1, .slice A2 n2 c2] ∧ Rw w (.slice A1 n1 c1) xs ∧ Rw w (.slice A2 n2 c2) ys ∧ Vg.zi s (Vg.nat32 xs) * (Q : Int) = Z * (Vg.nat32 ys : Int) ∧ 0 < Vg.nat32 ys ∧ xs.length ≤ B ∧ ys.length ≤ B
def TRt (Z : Int) (Q B : Nat) (w : World) (e : Ending) (w' : World) : Prop := ∃ v, e = .returned v ∧ Rt w' v Z Q B ∧ Below w.heap.size w w'
theorem Rt.keep {w w' : World} {v : Value} {Z : Int} {Q B : Nat} (h : Rt w v Z Q B) (hb : Below w.heap.size w w') : Rt w' v Z Q B := by
  obtain ⟨s, A1, n1, c1, A2, n2, c2, xs, ys, h1, h2, h3, h4⟩ := h
  exact ⟨s, A1, n1, c1, A2, n2, c2, xs, ys, h1, h2.keep hb, h3.keep hb, h4⟩
/-- A store into a cell that holds no word. -/
theorem Rw.other {w : World} {v : Value} {xs : List Nat} (h : Rw w v xs) {a : Addr} {u : Value} (hu : w.cell? a = some u) (hn : ∀ n, u ≠ .int .u32 n) (x : Value) : Rw (w.setCell a x) v xs := by
  obtain ⟨h0, h⟩ := h
  refine ⟨h0, ?_⟩
  rcases h with h | ⟨g, o, c, h1, h2, h3, h4⟩
  · exact .inl h
  · refine .inr ⟨g, o, c, h1, by simpa using h2, fun i hi => ?_, h4⟩
    rw [World.cell?_setCell_other (h := fun e => ?_)]
    · exact h3 i hi
    · rw [e, h3 i hi] at hu
      exact hn _ (Option.some.inj hu).symm

set_option maxRecDepth 20000 in
set_option maxHeartbeats 8000000 in
theorem frac_any (s : Bool) (a b : Value) (xs ys : List Nat) (x : Int) (B : Nat) (w : World) (ha : Rw w a xs) (hb : Rw w b ys) (hd : 0 < Vg.nat32 ys) (hB : x.natAbs / 32 + 2 * xs.length + 2 * ys.length + 4 ≤ B) (hl : B ≤ 1099511627776) :
    Calls Try.prog 128 #[.bool s, a, b, .int .i64 x] w (TRt (Vg.zi s (Vg.nat32 xs * 2 ^ x.toNat)) (Vg.nat32 ys * 2 ^ (-x).toNat) B w) := by
  have HB := hide (show _ ∧ _ ∧ _ from ⟨hd, hB, hl⟩)
  have N1 := fun (w' : World) (h : Below w.heap.size w w') => norm_any a xs w' (ha.keep h) (by omega)
  have N2 := fun (w' : World) (h : Below w.heap.size w w') => norm_any b ys w' (hb.keep h) (by omega)
  obtain ⟨N, hN⟩ : ∃ n, Vg.nat32 xs = n := ⟨_, rfl⟩
  obtain ⟨M, hM⟩ : ∃ n, Vg.nat32 ys = n := ⟨_, rfl⟩
  rw [hN] at N1 ⊢
  rw [hM] at N2 ⊢
  have HM := hide (show 0 < M from hM ▸ hd)
  clear hd hB hl ha hb hN hM
  go_enter Try.func128, Try.ntmps128
  go_wp2_with fail
  refine (N1 _ b_one).mono ?_; rintro e w1 ⟨v1, ns, rfl, h1, h2, h3, h4, hb1⟩
  have c0 : w1.cell? ⟨w.heap.size, 0, none⟩ = some (.bool false) := keep_cell hb1 (by simp) (by simp [go_sem])
  have c1 : w1.cell? ⟨w.heap.size, 1, none⟩ = some (.slice none 0 0) := keep_cell hb1 (by simp) (by simp [go_sem])
  have c2 : w1.cell? ⟨w.heap.size, 2, none⟩ = some (.slice none 0 0) := keep_cell hb1 (by simp) (by simp [go_sem])
  have f0 : w1.frozen? ⟨w.heap.size, 0, none⟩ = false := keep_free hb1 (by simp) (by simp)
  have f1 : w1.frozen? ⟨w.heap.size, 1, none⟩ = false := keep_free hb1 (by simp) (by simp)
  have f2 : w1.frozen? ⟨w.heap.size, 2, none⟩ = false := keep_free hb1 (by simp) (by simp)
  have z : w.heap.size < w1.heap.size := by have := hb1.size; simp at this; omega
  have g := bch_one hb1
  obtain ⟨A1, k1, rfl⟩ := h1.len
  obtain ⟨n1, e1⟩ : ∃ n, ns.length = n := ⟨_, rfl⟩
  rw [e1] at h1 ⊢
  have R1 := hide (show _ ∧ _ ∧ _ ∧ _ from ⟨h2, h3, h4, e1⟩)
  have Q1 := hide h1
  have hz := h3.zero_iff h1.1
  rw [e1, h2] at hz
  have HZ := hide hz
  clear hb1 N1 h1 h2 h3 h4 e1 hz
  go_wp2_with fail
  refine (N2 _ g).mono ?_; rintro e w2 ⟨v2, ms, rfl, h1, h2, h3, h4, hb⟩
  have c0 := keep_cell hb z c0
  have c1 := keep_cell hb z c1
  have c2 := keep_cell hb z c2
  have f0 := keep_free hb z f0
  have f1 := keep_free hb z f1
  have f2 := keep_free hb z f2
  have z := Nat.lt_of_lt_of_le z hb.size
  have g := bch g hb
  have Q1 := hide (Q1.out.keep hb)
  obtain ⟨A2, k2, rfl⟩ := h1.len
  obtain ⟨n2, e1⟩ : ∃ n, ms.length = n := ⟨_, rfl⟩
  rw [e1] at h1 ⊢
  have R2 := hide (show _ ∧ _ ∧ _ ∧ _ from ⟨h2, h3, h4, e1⟩)
  have Q2 := hide h1
  clear hb N2 h1 h2 h3 h4 e1
  by_cases h0 : n1 = 0
  · subst h0
    have HN0 := hide (HZ.out.1 rfl)
    clear HZ R1 R2 Q1 Q2
    go_wp2
    refine bodyPost_ret (v := .agg #[.bool false, .slice none 0 0, .slice (some ⟨w2.heap.size, 0, none⟩) 1 1]) (by simp [results, Try.results128, go_sem, *]) rfl ⟨_, rfl, ⟨_, _, _, _, _, _, _, [], [1], rfl, ?_, ?_, ?_, by decide, Nat.zero_le _, ?_⟩, ?_⟩
    · exact ⟨by (intro b hb; cases hb), .inl ⟨rfl, _, _, rfl⟩⟩
    · refine ⟨by (intro b hb; simp at hb; omega), .inr ⟨w2.heap.size, 0, 1, rfl, by simp, ?_, by simp⟩⟩
      intro i hi
      obtain rfl : i = 0 := by simp at hi; omega
      simp [go_sem, wv,]
    · rw [HN0.out, Nat.zero_mul, Vg.zi_zero]; simp [Vg.nat32, Vg.zi]
    · have := HB.out; show 1 ≤ B; omega
    · exact ((((g.setCell (by dsimp only <;> omega) _).setCell (by dsimp only <;> omega) _).setCell (by dsimp only <;> omega) _).alloc (by simp; omega) _)
  · have t0 : ((n1 : Int) == 0) = false := by rw [beq_eq_false_iff_ne]; omega
    have t0' : (n1 == 0) = false := by rw [beq_eq_false_iff_ne]; omega
    have ZR := fun (w' : World) (h : Below w2.heap.size w2 w') => zeros_any _ ns w' (Q1.out.keep h) (by have := HB.out; have := R1.out; omega)
    rw [R1.out.1] at ZR
    go_wp2_with fail
    refine (ZR _ (Below.refl _ _)).mono ?_; rintro e w3 ⟨k, rfl, ⟨h1, h2⟩, hb⟩
    have c0 := keep_cell hb z c0
    have c1 := keep_cell hb z c1
    have c2 := keep_cell hb z c2
    have f0 := keep_free hb z f0
    have f1 := keep_free hb z f1
    have f2 := keep_free hb z f2
    have Q1 := hide (Q1.out.keep hb)
    have Q2 := hide (Q2.out.keep hb)
    have z := Nat.lt_of_lt_of_le z hb.size
    have g := bch g hb
    clear hb
    have HK := hide (show N % 2 ^ k = 0 ∧ k ≤ 32 * xs.length from ⟨h1, by have := R1.out; omega⟩)
    have RT := right_any _ ns k w3 Q1.out (by have := HB.out; have := R1.out; omega) (by have := HB.out; have := HK.out; omega)
    rw [R1.out.1] at RT
    clear h1 h2 ZR
    go_wp2_with fail
    refine RT.mono ?_; rintro e w4 ⟨v3, ns', b', rfl, h1, h2, h3, h4, hb⟩
    have Q1 := hide h1
    obtain ⟨A3, k3, rfl⟩ := h1.len
    obtain ⟨n3, e1⟩ : ∃ n, ns'.length = n := ⟨_, rfl⟩
    rw [e1] at Q1 ⊢
    have R3 := hide (show Vg.nat32 ns' = N / 2 ^ k ∧ ns'.length ≤ xs.length ∧ ns'.length = n3 from ⟨h2, by have := R1.out; omega, e1⟩)
    have c0 := keep_cell hb z c0
    have c1 := keep_cell hb z c1
    have c2 := keep_cell hb z c2
    have f0 := keep_free hb z f0
    have f1 := keep_free hb z f1
    have f2 := keep_free hb z f2
    have Q2 := hide (Q2.out.keep hb)
    have z := Nat.lt_of_lt_of_le z hb.size
    have g := bch g hb
    clear hb
    clear h1 h2 h3 h4 e1 RT R1
    have wx : IntKind.i64.wrap (x + (k : Int)) = x + k := IntWalk.i64_in _ (by have := HB.out; have := HK.out; omega)
    have ZR := zeros_any _ ms w4 Q2.out (by have := HB.out; have := R2.out; omega)
    rw [R2.out.1] at ZR
    go_wp2_with fail
    refine ZR.mono ?_; rintro e w5 ⟨j, rfl, ⟨h1, h2⟩, hb⟩
    have c0 := keep_cell hb z c0
    have c1 := keep_cell hb z c1
    have c2 := keep_cell hb z c2
    have f0 := keep_free hb z f0
    have f1 := keep_free hb z f1
    have f2 := keep_free hb z f2
    have Q1 := hide (Q1.out.keep hb)
    have Q2 := hide (Q2.out.keep hb)
    have z := Nat.lt_of_lt_of_le z hb.size
    have g := bch g hb
    clear hb
    have HJ := hide (show M % 2 ^ j = 0 ∧ j ≤ 32 * ys.length from ⟨h1, by have := R2.out; omega⟩)
    have RT := right_any _ ms j w5 Q2.out (by have := HB.out; have := R2.out; omega) (by have := HB.out; have := HJ.out; omega)
    rw [R2.out.1] at RT
    clear h1 h2 ZR
    go_wp2_with fail
    refine RT.mono ?_; rintro e w6 ⟨v4, ms', b'', rfl, h1, h2, h3, h4, hb⟩
    have Q2 := hide h1
    obtain ⟨A4, k4, rfl⟩ := h1.len
    obtain ⟨n4, e1⟩ : ∃ n, ms'.length = n := ⟨_, rfl⟩
    rw [e1] at Q2 ⊢
    have R4 := hide (show Vg.nat32 ms' = M / 2 ^ j ∧ ms'.length ≤ ys.length ∧ ms'.length = n4 from ⟨h2, by have := R2.out; omega, e1⟩)
    have c0 := keep_cell hb z c0
    have c1 := keep_cell hb z c1
    have c2 := keep_cell hb z c2
    have f0 := keep_free hb z f0
    have f1 := keep_free hb z f1
    have f2 := keep_free hb z f2
    have Q1 := hide (Q1.out.keep hb)
    have z := Nat.lt_of_lt_of_le z hb.size
    have g := bch g hb
    clear hb
    clear h1 h2 h3 h4 e1 RT R2
    obtain ⟨y, hy⟩ : ∃ y, x + (k : Int) - j = y := ⟨_, rfl⟩
    have wy : IntKind.i64.wrap (x + (k : Int) - j) = y := by rw [IntWalk.i64_in _ (by have := HB.out; have := HK.out; have := HJ.out; omega), hy]
    have HY := hide (show _ ∧ y.natAbs ≤ x.natAbs + 32 * xs.length + 32 * ys.length from ⟨hy, by have := HK.out; have := HJ.out; omega⟩)
    have R := hide (show Vg.nat32 ns' * 2 ^ k = N ∧ Vg.nat32 ms' * 2 ^ j = M ∧ 0 < Vg.nat32 ms' from by
      have e1 := Nat.div_mul_cancel (Nat.dvd_of_mod_eq_zero HK.out.1)
      have e2 := Nat.div_mul_cancel (Nat.dvd_of_mod_eq_zero HJ.out.1)
      rw [← R3.out.1] at e1
      rw [← R4.out.1] at e2
      refine ⟨e1, e2, Nat.pos_of_ne_zero fun h => ?_⟩
      rw [h, Nat.zero_mul] at e2
      have := HM.out
      omega)
    clear hy HK HJ HZ h0
    rcases Int.lt_trichotomy y 0 with h | h | h
    · obtain ⟨t, rfl⟩ : ∃ t : Nat, y = -(t : Int) := ⟨y.natAbs, by omega⟩
      have t1 : ¬ ((0 : Int) < -(t : Int)) := by omega
      have wn : IntKind.i64.wrap (-(-(t : Int))) = (t : Int) := by rw [IntWalk.i64_in _ (by have := HY.out; have := HB.out; omega)]; omega
      have wn2 : IntKind.i64.wrap (t : Int) = (t : Int) := IntWalk.i64_in _ (by have := HY.out; have := HB.out; omega)
      have LF := left_any _ ms' t w6 Q2.out (by have := HB.out; have := R4.out; have := HY.out; omega)
      clear Q2
      go_wp2_with fail
      refine LF.mono ?_; rintro e w7 ⟨v5, ms2, rfl, h1, h2, h3, h4, hb⟩
      have Q2 := hide h1
      obtain ⟨A5, k5, rfl⟩ := h1.len
      have R5 := hide (show Vg.nat32 ms2 = Vg.nat32 ms' * 2 ^ t ∧ ms2.length ≤ B from ⟨h2, by have := R4.out; have := HY.out; have := HB.out; omega⟩)
      have c0 := keep_cell hb z c0
      have c1 := keep_cell hb z c1
      have c2 := keep_cell hb z c2
      have f0 := keep_free hb z f0
      have f1 := keep_free hb z f1
      have f2 := keep_free hb z f2
      have Q1 := hide (Q1.out.keep hb)
      have z := Nat.lt_of_lt_of_le z hb.size
      have g := bch g hb
      clear hb
      clear h1 h2 h3 h4 LF
      go_wp2
      exact bodyPost_ret (v := .agg #[.bool s, .slice A3 n3 k3, .slice A5 ms2.length k5]) (by simp [results, Try.results128, go_sem, *]) rfl ⟨_, rfl, ⟨_, _, _, _, _, _, _, ns', ms2, rfl, (((Q1.out).other c0 (by simp) _).other (u := .slice none 0 0) (by simp [go_sem, *]) (by simp) _).other (u := .slice none 0 0) (by simp [go_sem, *]) (by simp) _, (((Q2.out).other c0 (by simp) _).other (u := .slice none 0 0) (by simp [go_sem, *]) (by simp) _).other (u := .slice none 0 0) (by simp [go_sem, *]) (by simp) _, by rw [R5.out.1, Vg.zi_mul, Vg.zi_mul]; have e := Vg.frac_eq (n := Vg.nat32 ns') (d := Vg.nat32 ms') (k := k) (j := j) (a := 0) (b := t) (p := x.toNat) (q := (-x).toNat) (by have := HY.out.1; omega); rw [R.out.1, R.out.2.1] at e; rw [Nat.pow_zero, Nat.mul_one] at e; exact congrArg (Vg.zi s) e, by rw [R5.out.1]; exact Nat.mul_pos R.out.2.2 (Nat.two_pow_pos _), by have := R3.out; have := HB.out; omega, by exact R5.out.2⟩, ((g.setCell (by dsimp only <;> omega) _).setCell (by dsimp only <;> omega) _).setCell (by dsimp only <;> omega) _⟩
    · subst h
      have t1 : ¬ ((0 : Int) < 0) := by omega
      go_wp2
      exact bodyPost_ret (v := .agg #[.bool s, .slice A3 n3 k3, .slice A4 n4 k4]) (by simp [results, Try.results128, go_sem, *]) rfl ⟨_, rfl, ⟨_, _, _, _, _, _, _, ns', ms', rfl, (((Q1.out).other c0 (by simp) _).other (u := .slice none 0 0) (by simp [go_sem, *]) (by simp) _).other (u := .slice none 0 0) (by simp [go_sem, *]) (by simp) _, (((Q2.out).other c0 (by simp) _).other (u := .slice none 0 0) (by simp [go_sem, *]) (by simp) _).other (u := .slice none 0 0) (by simp [go_sem, *]) (by simp) _, by rw [Vg.zi_mul, Vg.zi_mul]; have e := Vg.frac_eq (n := Vg.nat32 ns') (d := Vg.nat32 ms') (k := k) (j := j) (a := 0) (b := 0) (p := x.toNat) (q := (-x).toNat) (by have := HY.out.1; omega); rw [R.out.1, R.out.2.1] at e; rw [Nat.pow_zero, Nat.mul_one, Nat.mul_one] at e; exact congrArg (Vg.zi s) e, R.out.2.2, by have := R3.out; have := HB.out; omega, by have := R4.out; have := HB.out; omega⟩, ((g.setCell (by dsimp only <;> omega) _).setCell (by dsimp only <;> omega) _).setCell (by dsimp only <;> omega) _⟩
    · obtain ⟨t, rfl⟩ : ∃ t : Nat, y = (t : Int) := ⟨y.natAbs, by omega⟩
      have t2 : ¬ ((t : Int) < 0) := by omega
      have LF := left_any _ ns' t w6 Q1.out (by have := HB.out; have := R3.out; have := HY.out; omega)
      clear Q1
      go_wp2_with fail
      refine LF.mono ?_; rintro e w7 ⟨v5, ns2, rfl, h1, h2, h3, h4, hb⟩
      have Q1 := hide h1
      obtain ⟨A5, k5, rfl⟩ := h1.len
      have R5 := hide (show Vg.nat32 ns2 = Vg.nat32 ns' * 2 ^ t ∧ ns2.length ≤ B from ⟨h2, by have := R3.out; have := HY.out; have := HB.out; omega⟩)
      have c0 := keep_cell hb z c0
      have c1 := keep_cell hb z c1
      have c2 := keep_cell hb z c2
      have f0 := keep_free hb z f0
      have f1 := keep_free hb z f1
      have f2 := keep_free hb z f2
      have Q2 := hide (Q2.out.keep hb)
      have z := Nat.lt_of_lt_of_le z hb.size
      have g := bch g hb
      clear hb
      clear h1 h2 h3 h4 LF
      go_wp2
      exact bodyPost_ret (v := .agg #[.bool s, .slice A5 ns2.length k5, .slice A4 n4 k4]) (by simp [results, Try.results128, go_sem, *]) rfl ⟨_, rfl, ⟨_, _, _, _, _, _, _, ns2, ms', rfl, (((Q1.out).other c0 (by simp) _).other (u := .slice none 0 0) (by simp [go_sem, *]) (by simp) _).other (u := .slice none 0 0) (by simp [go_sem, *]) (by simp) _, (((Q2.out).other c0 (by simp) _).other (u := .slice none 0 0) (by simp [go_sem, *]) (by simp) _).other (u := .slice none 0 0) (by simp [go_sem, *]) (by simp) _, by rw [R5.out.1, Vg.zi_mul, Vg.zi_mul]; have e := Vg.frac_eq (n := Vg.nat32 ns') (d := Vg.nat32 ms') (k := k) (j := j) (a := t) (b := 0) (p := x.toNat) (q := (-x).toNat) (by have := HY.out.1; omega); rw [R.out.1, R.out.2.1] at e; rw [Nat.pow_zero, Nat.mul_one] at e; exact congrArg (Vg.zi s) e, R.out.2.2, by exact R5.out.2, by have := R4.out; have := HB.out; omega⟩, ((g.setCell (by dsimp only <;> omega) _).setCell (by dsimp only <;> omega) _).setCell (by dsimp only <;> omega) _⟩
end Go.Proofs.Ytljnadoodbninaa

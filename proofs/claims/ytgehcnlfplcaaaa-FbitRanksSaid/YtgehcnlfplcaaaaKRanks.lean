/- Order is an order of all numbers, both noughts and NaN, and goes by <. The walk. -/
import Derived.Test.YtgehcnlfplcaaaaWRank
import Derived.Test.YtgehcnlfplcaaaaWBd
import Derived.Test.YtgehcnlfplcaaaaWHeld
namespace Go.Proofs.Ytgehcnlfplcaaaa.fbitRanks
open Go.RowKit

/-- The bits of the NaN that zero by zero gives: the tape's. -/
def nanOf (w : World) : Nat := (Question.nanBits .f64 0 0).cut (w.tape w.drawn (.nanBits .f64 0 0))
theorem nanOf_bd (w : World) : nanOf w ≤ 18446744073709551615 ∧ Vg.nn true (nanOf w) = true := by
  unfold nanOf
  simp only [Question.cut, Vg.nn, Vg.rg, Vg.S, Vg.INF, if_true, decide_eq_true_eq]
  generalize w.tape w.drawn (Question.nanBits .f64 0 0) = t
  have hu : t % 2 < 2 := Nat.mod_lt _ (by decide)
  have hv : t / 2 % (2 ^ 52 - 1) < 2 ^ 52 - 1 := Nat.mod_lt _ (by decide)
  generalize t / 2 % (2 ^ 52 - 1) = v at *
  generalize t % 2 = u at *
  have hu' : u = 0 ∨ u = 1 := by omega
  rcases hu' with rfl | rfl <;> simp only [Nat.reducePow, Nat.reduceSub, Nat.zero_mul, Nat.one_mul, Nat.zero_add, Nat.reduceAdd] at hv ⊢ <;> omega
theorem run_nan (t : TypeId) (w : World) : (binOp .quo t (.float .f64 0) (.float .f64 0)).run Try.prog w = .ok (.float .f64 (nanOf w)) w.drew := by
  have h : FloatKind.f64.format.div 0 0 = none := by decide +kernel
  simp only [binOp, Op.floatArith, h]
  rfl
theorem one_by_zero : floatBits .quo .f64 4607182418800017408 0 = some 9218868437227405312 := by decide +kernel
theorem or_one {c : Int} (h : IsOr64 13830554455654793216 4607182418800017408 c) : c = -1 := Eq.trans h (by decide +kernel)
theorem dn_zero {y : Nat} (h : IsDn64 0 y) : y = 9223372036854775809 := (h.2.2 (by decide +kernel)).trans (by decide +kernel)
theorem or_dn {c : Int} (h : IsOr64 9223372036854775809 0 c) : c = -1 := Eq.trans h (by decide +kernel)
theorem or_nan {n : Nat} {c : Int} (hn : Vg.nn true n = true) (h : IsOr64 9218868437227405312 n c) : c = -1 := by
  unfold IsOr64 or64 at h
  rw [hn, show Vg.nn true 9218868437227405312 = false by decide +kernel] at h
  simpa using h
theorem wrap32_le (z : Int) : (IntKind.u32.wrap z).toNat ≤ 4294967295 := by
  have e : IntKind.u32.wrap z = z % 4294967296 := by simp [IntKind.wrap, IntKind.bits, IntKind.signed]
  rw [e]; omega

set_option maxHeartbeats 8000000 in
theorem walk (a0 a1 a2 a3 a4 : Int) (w0 : (Lit.int .u64 a0).wf = true) (w1 : (Lit.int .u64 a1).wf = true) (w2 : (Lit.int .u32 a2).wf = true) (w3 : (Lit.int .u32 a3).wf = true) (w4 : (Lit.int .u64 a4).wf = true) (w : World) :
    Calls Try.prog 18 #[.agg #[.int .u64 a0, .int .u64 a1, .int .u32 a2, .int .u32 a3], .int .u64 a4] w fun e w' => e = .returned (.bool true) ∧ Below w.heap.size w w' := by
  have b0 := u64_bd w0
  have b1 := u64_bd w1
  have b2 := u32_bd w2
  have b3 := u32_bd w3
  clear w0 w1 w2 w3
  obtain ⟨a, rfl⟩ := Int.eq_ofNat_of_zero_le b0.1
  obtain ⟨b, rfl⟩ := Int.eq_ofNat_of_zero_le b1.1
  obtain ⟨c, rfl⟩ := Int.eq_ofNat_of_zero_le b2.1
  obtain ⟨d, rfl⟩ := Int.eq_ofNat_of_zero_le b3.1
  have HA : Hid (a ≤ 18446744073709551615) := hide (by omega)
  have HB : Hid (b ≤ 18446744073709551615) := hide (by omega)
  have hc : c ≤ 4294967295 := by omega
  have hd : d ≤ 4294967295 := by omega
  clear b0 b1 b2 b3
  have c1 := fun (x : Nat) => convToFar x
  have c2 := fun (x : Nat) => convToNear x
  have b4 := u64_bd w4
  clear w4
  obtain ⟨f, rfl⟩ := Int.eq_ofNat_of_zero_le b4.1
  have HF : Hid (f ≤ 18446744073709551615) := hide (by omega)
  have hw := wrap32_le (f : Int)
  generalize hv : IntKind.u32.wrap (f : Int) = v at hw
  clear b4
  have hq := fun t (w : World) => run_float_arith (P := Try.prog) w .quo t .f64 _ _ _ one_by_zero
  have hnan := run_nan
  go_enter Try.func18, Try.ntmps18
  go_wp2_with fail
  refine (order64 13830554455654793216 4607182418800017408 (by decide) (by decide) _).mono ?_; rintro e w1 ⟨n, rfl, hn, hb1⟩
  obtain rfl := or_one hn
  have k1 : w1.cell? ⟨w.heap.size, 0, none⟩ = some (.int .u64 a) := keep_cell hb1 (by simp) (by simp)
  have k2 : w1.cell? ⟨w.heap.size, 1, none⟩ = some (.int .u64 b) := keep_cell hb1 (by simp) (by simp)
  have k3 : w1.cell? ⟨w.heap.size, 2, none⟩ = some (.int .u32 c) := keep_cell hb1 (by simp) (by simp)
  have k4 : w1.cell? ⟨w.heap.size, 3, none⟩ = some (.int .u32 d) := keep_cell hb1 (by simp) (by simp)
  have k0 : w.heap.size < w1.heap.size := by have := hb1.size; simp at this; omega
  have g := bch_one hb1
  clear hb1 hn
  go_wp2_with fail
  refine (nextdown64 0 (by decide) _).mono ?_; rintro e w2 ⟨y, rfl, hy, hb2⟩
  obtain rfl := dn_zero hy
  have g := bch g hb2
  have k5 := keep_cell hb2 k0 k1
  have k6 := keep_cell hb2 k0 k2
  have k7 := keep_cell hb2 k0 k3
  have k8 := keep_cell hb2 k0 k4
  have k9 := Nat.lt_of_lt_of_le k0 hb2.size
  clear hb2 hy k0 k1 k2 k3 k4
  go_wp2_with fail
  refine (order64 9223372036854775809 0 (by decide) (by decide) _).mono ?_; rintro e w3 ⟨n, rfl, hn, hb1⟩
  obtain rfl := or_dn hn
  have g := bch g hb1
  have k1 := keep_cell hb1 k9 k5
  have k2 := keep_cell hb1 k9 k6
  have k3 := keep_cell hb1 k9 k7
  have k4 := keep_cell hb1 k9 k8
  have k0 := Nat.lt_of_lt_of_le k9 hb1.size
  clear hb1 hn k5 k6 k7 k8 k9
  go_wp2_with fail
  have nb := nanOf_bd w3
  refine (order64 9218868437227405312 (nanOf w3) (by decide) nb.1 _).mono ?_; rintro e w5 ⟨n, rfl, hn, hb1⟩
  obtain rfl := or_nan nb.2 hn
  have g := bch g.drew hb1
  have k5 : w5.cell? ⟨w.heap.size, 0, none⟩ = some (.int .u64 a) := keep_cell hb1 (by simp; omega) (by simp [k1])
  have k6 : w5.cell? ⟨w.heap.size, 1, none⟩ = some (.int .u64 b) := keep_cell hb1 (by simp; omega) (by simp [k2])
  have k7 : w5.cell? ⟨w.heap.size, 2, none⟩ = some (.int .u32 c) := keep_cell hb1 (by simp; omega) (by simp [k3])
  have k8 : w5.cell? ⟨w.heap.size, 3, none⟩ = some (.int .u32 d) := keep_cell hb1 (by simp; omega) (by simp [k4])
  have k9 : w.heap.size < w5.heap.size := by have := hb1.size; simp at this; omega
  clear hb1 hn nb k0 k1 k2 k3 k4 hq hnan
  go_wp2_with fail
  go_region_held3 (fun w' => w.heap.size < w'.heap.size ∧ w'.cell? ⟨w.heap.size, 0, none⟩ = some (.int .u64 a) ∧ w'.cell? ⟨w.heap.size, 1, none⟩ = some (.int .u64 b) ∧ w'.cell? ⟨w.heap.size, 2, none⟩ = some (.int .u32 c) ∧ w'.cell? ⟨w.heap.size, 3, none⟩ = some (.int .u32 d)) (((try dsimp only); (repeat' apply And.intro) <;> first | omega | (simp [*]; done) | (simp; omega) | (have := hb1.size; omega) | (have := hb1.size; simp at this; omega) | exact keep_cell hb1 (by first | (dsimp only; omega) | (simp; done) | (simp; omega)) (by simp [*])))
    (first | (go_at_call 22; refine (long_any _ _).mono ?_; rintro e w' ⟨rfl, rfl⟩) | (go_at_call 26; refine (brief_any _ _).mono ?_; rintro e w' ⟨rfl, rfl⟩) | (go_at_call 93; refine (ranked64 a b f HA.out HB.out HF.out _).mono ?_; rintro e w' ⟨rfl, hb1⟩) | (go_at_call 94; refine (ranked32 c d v.toNat hc hd hw _).mono ?_; rintro e w' ⟨rfl, hb1⟩) | (go_at_call 95; refine (rankedFar a f b HA.out HF.out HB.out _).mono ?_; rintro e w' ⟨rfl, hb1⟩))
  go_wp2
  go_ret
  rename_i q1 wa q2 hh
  exact ⟨rfl, bch (bch (next_ch g q1) q2) hb1⟩

end Go.Proofs.Ytgehcnlfplcaaaa.fbitRanks

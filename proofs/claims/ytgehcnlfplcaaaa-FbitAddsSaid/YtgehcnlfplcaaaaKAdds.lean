/- Steps is what lies between, adds up, and is turned about by its arguments' order. The walk. -/
import Derived.Test.YtgehcnlfplcaaaaWMeasure
import Derived.Test.YtgehcnlfplcaaaaWBd
import Derived.Test.YtgehcnlfplcaaaaWHeld
namespace Go.Proofs.Ytgehcnlfplcaaaa.fbitAdds
open Go.RowKit

theorem one_two {n : Int} {o : Bool} (h : IsSt64 4607182418800017408 4611686018427387904 n o) : n = 4503599627370496 ∧ o = true := by
  rcases h.num with ⟨h, -, -⟩ | ⟨-, -, ⟨h1, h2, -, -⟩ | ⟨h1, h2⟩⟩
  · rcases h with h | h <;> exact absurd h (by decide +kernel)
  · refine ⟨?_, h1⟩
    rw [h2]; decide +kernel
  · obtain ⟨p, u, q, v, k1, k2, k3⟩ := h
    have e1 : p = 4607182418800017408 ∧ u = true := ⟨k1.2.trans (by decide +kernel), k1.1.trans (by decide +kernel)⟩
    have e2 : q = 4611686018427387904 ∧ v = true := ⟨k2.2.trans (by decide +kernel), k2.1.trans (by decide +kernel)⟩
    obtain ⟨rfl, rfl⟩ := e1
    obtain ⟨rfl, rfl⟩ := e2
    rcases k3 with ⟨k, -, -⟩ | ⟨-, -, k, k'⟩ | ⟨-, k, -, -⟩
    · cases k
    · exact ⟨k, k'⟩
    · exact absurd (by decide) k

theorem wrap32_le (z : Int) : (IntKind.u32.wrap z).toNat ≤ 4294967295 := by
  have e : IntKind.u32.wrap z = z % 4294967296 := by simp [IntKind.wrap, IntKind.bits, IntKind.signed]
  rw [e]; omega

set_option maxHeartbeats 8000000 in
theorem walk (a0 a1 a2 a3 a4 : Int) (w0 : (Lit.int .u64 a0).wf = true) (w1 : (Lit.int .u64 a1).wf = true) (w2 : (Lit.int .u32 a2).wf = true) (w3 : (Lit.int .u32 a3).wf = true) (w4 : (Lit.int .u64 a4).wf = true) (w : World) :
    Calls Try.prog 15 #[.agg #[.int .u64 a0, .int .u64 a1, .int .u32 a2, .int .u32 a3], .int .u64 a4] w fun e w' => e = .returned (.bool true) ∧ Below w.heap.size w w' := by
  have b0 := u64_bd w0
  have b1 := u64_bd w1
  have b2 := u32_bd w2
  have b3 := u32_bd w3
  clear w0 w1 w2 w3
  obtain ⟨a, rfl⟩ := Int.eq_ofNat_of_zero_le b0.1
  obtain ⟨b, rfl⟩ := Int.eq_ofNat_of_zero_le b1.1
  obtain ⟨c, rfl⟩ := Int.eq_ofNat_of_zero_le b2.1
  obtain ⟨d, rfl⟩ := Int.eq_ofNat_of_zero_le b3.1
  have HA : Hid (a ≤ 18446744073709551615) := hide (by omega)
  have HB : Hid (b ≤ 18446744073709551615) := hide (by omega)
  have hc : c ≤ 4294967295 := by omega
  have hd : d ≤ 4294967295 := by omega
  clear b0 b1 b2 b3
  have c1 := fun (x : Nat) => convToFar x
  have c2 := fun (x : Nat) => convToNear x
  have b4 := u64_bd w4
  clear w4
  obtain ⟨f, rfl⟩ := Int.eq_ofNat_of_zero_le b4.1
  have HF : Hid (f ≤ 18446744073709551615) := hide (by omega)
  have hw := wrap32_le (f : Int)
  generalize hv : IntKind.u32.wrap (f : Int) = v at hw
  clear b4
  go_enter Try.func15, Try.ntmps15
  go_wp2_with fail
  refine (steps64 4607182418800017408 4611686018427387904 (by decide) (by decide) _).mono ?_; rintro e w1 ⟨n, o, rfl, hn, hb1⟩
  obtain ⟨rfl, rfl⟩ := one_two hn
  have k1 : w1.cell? ⟨w.heap.size, 0, none⟩ = some (.int .u64 a) := keep_cell hb1 (by simp) (by simp)
  have k2 : w1.cell? ⟨w.heap.size, 1, none⟩ = some (.int .u64 b) := keep_cell hb1 (by simp) (by simp)
  have k3 : w1.cell? ⟨w.heap.size, 2, none⟩ = some (.int .u32 c) := keep_cell hb1 (by simp) (by simp)
  have k4 : w1.cell? ⟨w.heap.size, 3, none⟩ = some (.int .u32 d) := keep_cell hb1 (by simp) (by simp)
  have k0 : w.heap.size < w1.heap.size := by have := hb1.size; simp at this; omega
  have g := bch_one hb1
  clear hb1 hn
  go_wp2_with fail
  go_region_held3 (fun w' => w.heap.size < w'.heap.size ∧ w'.cell? ⟨w.heap.size, 0, none⟩ = some (.int .u64 a) ∧ w'.cell? ⟨w.heap.size, 1, none⟩ = some (.int .u64 b) ∧ w'.cell? ⟨w.heap.size, 2, none⟩ = some (.int .u32 c) ∧ w'.cell? ⟨w.heap.size, 3, none⟩ = some (.int .u32 d)) (((try dsimp only); (repeat' apply And.intro) <;> first | omega | (simp [*]; done) | (simp; omega) | (have := hb1.size; omega) | (have := hb1.size; simp at this; omega) | exact keep_cell hb1 (by first | (dsimp only; omega) | (simp; done) | (simp; omega)) (by simp [*])))
    (first | (go_at_call 22; refine (long_any _ _).mono ?_; rintro e w' ⟨rfl, rfl⟩) | (go_at_call 26; refine (brief_any _ _).mono ?_; rintro e w' ⟨rfl, rfl⟩) | (go_at_call 82; refine (measured64 a b f HA.out HB.out HF.out _).mono ?_; rintro e w' ⟨rfl, hb1⟩) | (go_at_call 83; refine (measured32 c d v.toNat hc hd hw _).mono ?_; rintro e w' ⟨rfl, hb1⟩) | (go_at_call 84; refine (measuredNear c d v.toNat hc hd hw _).mono ?_; rintro e w' ⟨rfl, hb1⟩))
  go_wp2
  go_ret
  rename_i q1 wa q2 hh
  exact ⟨rfl, bch (bch (next_ch g q1) q2) hb1⟩

end Go.Proofs.Ytgehcnlfplcaaaa.fbitAdds

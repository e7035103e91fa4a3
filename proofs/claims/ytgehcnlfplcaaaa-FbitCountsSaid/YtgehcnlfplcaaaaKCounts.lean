/- Places rise with the numbers, At leads back, a step up is a place up. The walk. -/
import Derived.Test.YtgehcnlfplcaaaaWCount
import Derived.Test.YtgehcnlfplcaaaaWBd
import Derived.Test.YtgehcnlfplcaaaaWHeld
namespace Go.Proofs.Ytgehcnlfplcaaaa.fbitCounts
open Go.RowKit

theorem one_pl {n : Int} {o : Bool} (h : IsPl64 4607182418800017408 n o) : n = 4607182418800017408 := h.2.trans (by decide +kernel)

set_option maxHeartbeats 8000000 in
theorem walk (a0 a1 a2 a3 : Int) (w0 : (Lit.int .u64 a0).wf = true) (w1 : (Lit.int .u64 a1).wf = true) (w2 : (Lit.int .u32 a2).wf = true) (w3 : (Lit.int .u32 a3).wf = true) (w : World) :
    Calls Try.prog 17 #[.agg #[.int .u64 a0, .int .u64 a1, .int .u32 a2, .int .u32 a3]] w fun e w' => e = .returned (.bool true) ∧ Below w.heap.size w w' := by
  have b0 := u64_bd w0
  have b1 := u64_bd w1
  have b2 := u32_bd w2
  have b3 := u32_bd w3
  clear w0 w1 w2 w3
  obtain ⟨a, rfl⟩ := Int.eq_ofNat_of_zero_le b0.1
  obtain ⟨b, rfl⟩ := Int.eq_ofNat_of_zero_le b1.1
  obtain ⟨c, rfl⟩ := Int.eq_ofNat_of_zero_le b2.1
  obtain ⟨d, rfl⟩ := Int.eq_ofNat_of_zero_le b3.1
  have HA : Hid (a ≤ 18446744073709551615) := hide (by omega)
  have HB : Hid (b ≤ 18446744073709551615) := hide (by omega)
  have hc : c ≤ 4294967295 := by omega
  have hd : d ≤ 4294967295 := by omega
  clear b0 b1 b2 b3
  have c1 := fun (x : Nat) => convToFar x
  have c2 := fun (x : Nat) => convToNear x
  go_enter Try.func17, Try.ntmps17
  go_wp2_with fail
  refine (place64 4607182418800017408 (by decide) _).mono ?_; rintro e w1 ⟨n, o, rfl, hn, hb1⟩
  obtain rfl := one_pl hn
  have k1 : w1.cell? ⟨w.heap.size, 0, none⟩ = some (.int .u64 a) := keep_cell hb1 (by simp) (by simp)
  have k2 : w1.cell? ⟨w.heap.size, 1, none⟩ = some (.int .u64 b) := keep_cell hb1 (by simp) (by simp)
  have k3 : w1.cell? ⟨w.heap.size, 2, none⟩ = some (.int .u32 c) := keep_cell hb1 (by simp) (by simp)
  have k4 : w1.cell? ⟨w.heap.size, 3, none⟩ = some (.int .u32 d) := keep_cell hb1 (by simp) (by simp)
  have k0 : w.heap.size < w1.heap.size := by have := hb1.size; simp at this; omega
  have g := bch_one hb1
  clear hb1 hn
  go_wp2_with fail
  go_region_held3 (fun w' => w.heap.size < w'.heap.size ∧ w'.cell? ⟨w.heap.size, 0, none⟩ = some (.int .u64 a) ∧ w'.cell? ⟨w.heap.size, 1, none⟩ = some (.int .u64 b) ∧ w'.cell? ⟨w.heap.size, 2, none⟩ = some (.int .u32 c) ∧ w'.cell? ⟨w.heap.size, 3, none⟩ = some (.int .u32 d)) (((try dsimp only); (repeat' apply And.intro) <;> first | omega | (simp [*]; done) | (simp; omega) | (have := hb1.size; omega) | (have := hb1.size; simp at this; omega) | exact keep_cell hb1 (by first | (dsimp only; omega) | (simp; done) | (simp; omega)) (by simp [*])))
    (first | (go_at_call 22; refine (long_any _ _).mono ?_; rintro e w' ⟨rfl, rfl⟩) | (go_at_call 26; refine (brief_any _ _).mono ?_; rintro e w' ⟨rfl, rfl⟩) | (go_at_call 89; refine (counted64 a b HA.out HB.out _).mono ?_; rintro e w' ⟨rfl, hb1⟩) | (go_at_call 90; refine (counted32 c d hc hd _).mono ?_; rintro e w' ⟨rfl, hb1⟩) | (go_at_call 91; refine (countedFar b a HB.out HA.out _).mono ?_; rintro e w' ⟨rfl, hb1⟩) | (go_at_call 92; refine (countedNear d c hd hc _).mono ?_; rintro e w' ⟨rfl, hb1⟩))
  go_wp2
  go_ret
  rename_i q1 wa q2 wb q3 hh
  exact ⟨rfl, bch (bch (bch (next_ch g q1) q2) q3) hb1⟩

end Go.Proofs.Ytgehcnlfplcaaaa.fbitCounts

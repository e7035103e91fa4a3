/- Every Order of the program is the reference's. The walk. -/
import Derived.Test.YtgehcnlfplcaaaaWOrderR
import Derived.Test.YtgehcnlfplcaaaaWBd
namespace Go.Proofs.Ytgehcnlfplcaaaa.fbitOrders
open Go.RowKit

set_option maxHeartbeats 4000000 in
theorem walk (a0 a1 a2 a3 : Int) (w0 : (Lit.int .u64 a0).wf = true) (w1 : (Lit.int .u64 a1).wf = true) (w2 : (Lit.int .u32 a2).wf = true) (w3 : (Lit.int .u32 a3).wf = true) (w : World) :
    Calls Try.prog 14 #[.agg #[.int .u64 a0, .int .u64 a1, .int .u32 a2, .int .u32 a3]] w fun e w' => e = .returned (.bool true) ∧ Below w.heap.size w w' := by
  have b0 := u64_bd w0
  have b1 := u64_bd w1
  have b2 := u32_bd w2
  have b3 := u32_bd w3
  clear w0 w1 w2 w3
  obtain ⟨a, rfl⟩ := Int.eq_ofNat_of_zero_le b0.1
  obtain ⟨b, rfl⟩ := Int.eq_ofNat_of_zero_le b1.1
  obtain ⟨c, rfl⟩ := Int.eq_ofNat_of_zero_le b2.1
  obtain ⟨d, rfl⟩ := Int.eq_ofNat_of_zero_le b3.1
  have HA : Hid (a ≤ 18446744073709551615) := hide (by omega)
  have HB : Hid (b ≤ 18446744073709551615) := hide (by omega)
  have hc : c ≤ 4294967295 := by omega
  have hd : d ≤ 4294967295 := by omega
  clear b0 b1 b2 b3
  have c1 := fun (x : Nat) => convToFar x
  have c2 := fun (x : Nat) => convToNear x
  go_enter Try.func14, Try.ntmps14
  go_wp2_with fail
  refine (rorder64 a b HA.out HB.out _).mono ?_; rintro e w3 ⟨r, rfl, h0, hb2⟩
  have g := bch_one hb2
  have k5 : w3.cell? ⟨w.heap.size, 0, none⟩ = some (.int .u64 a) := keep_cell hb2 (by simp) (by simp)
  have k6 : w3.cell? ⟨w.heap.size, 1, none⟩ = some (.int .u64 b) := keep_cell hb2 (by simp) (by simp)
  have k7 : w3.cell? ⟨w.heap.size, 2, none⟩ = some (.int .u32 c) := keep_cell hb2 (by simp) (by simp)
  have k8 : w3.cell? ⟨w.heap.size, 3, none⟩ = some (.int .u32 d) := keep_cell hb2 (by simp) (by simp)
  have k9 : w.heap.size < w3.heap.size := by have := hb2.size; simp at this; omega
  clear hb2
  go_wp2_with fail
  go_region_held3 (fun w' => w.heap.size < w'.heap.size ∧ w'.cell? ⟨w.heap.size, 0, none⟩ = some (.int .u64 a) ∧ w'.cell? ⟨w.heap.size, 1, none⟩ = some (.int .u64 b) ∧ w'.cell? ⟨w.heap.size, 2, none⟩ = some (.int .u32 c) ∧ w'.cell? ⟨w.heap.size, 3, none⟩ = some (.int .u32 d)) (((try dsimp only); (repeat' apply And.intro) <;> first | omega | (simp [*]; done) | (simp; omega) | (have := hb1.size; omega) | (have := hb1.size; simp at this; omega) | exact keep_cell hb1 (by first | (dsimp only; omega) | (simp; done) | (simp; omega)) (by simp [*])))
    (first | (go_at_call 22; refine (long_any _ _).mono ?_; rintro e w' ⟨rfl, rfl⟩) | (go_at_call 26; refine (brief_any _ _).mono ?_; rintro e w' ⟨rfl, rfl⟩) | (go_at_call 78; refine (order64 a b HA.out HB.out _).mono ?_; rintro e w' ⟨n, rfl, h1, hb1⟩; obtain rfl := h0.same h1) | (go_at_call 79; refine (orderFar a b HA.out HB.out _).mono ?_; rintro e w' ⟨m, rfl, h2, hb1⟩; obtain rfl := h0.same h2))
  rename_i hb0 hh
  obtain ⟨k0, k1, k2, k3, k4⟩ := hh
  have g := bch (next_ch g hb0) hb1
  clear hb0 hb1 h0 h1 h2 k5 k6 k7 k8 k9
  go_wp2_with fail
  refine (rorder32 c d hc hd _).mono ?_; rintro e w4 ⟨r, rfl, h0, hb2⟩
  have g := bch g hb2
  have k5 := keep_cell hb2 k0 k1
  have k6 := keep_cell hb2 k0 k2
  have k7 := keep_cell hb2 k0 k3
  have k8 := keep_cell hb2 k0 k4
  have k9 := Nat.lt_of_lt_of_le k0 hb2.size
  clear hb2 k0 k1 k2 k3 k4
  go_wp2_with fail
  go_region_held3 (fun w' => w.heap.size < w'.heap.size ∧ w'.cell? ⟨w.heap.size, 0, none⟩ = some (.int .u64 a) ∧ w'.cell? ⟨w.heap.size, 1, none⟩ = some (.int .u64 b) ∧ w'.cell? ⟨w.heap.size, 2, none⟩ = some (.int .u32 c) ∧ w'.cell? ⟨w.heap.size, 3, none⟩ = some (.int .u32 d)) (((try dsimp only); (repeat' apply And.intro) <;> first | omega | (simp [*]; done) | (simp; omega) | (have := hb1.size; omega) | (have := hb1.size; simp at this; omega) | exact keep_cell hb1 (by first | (dsimp only; omega) | (simp; done) | (simp; omega)) (by simp [*])))
    (first | (go_at_call 22; refine (long_any _ _).mono ?_; rintro e w' ⟨rfl, rfl⟩) | (go_at_call 26; refine (brief_any _ _).mono ?_; rintro e w' ⟨rfl, rfl⟩) | (go_at_call 80; refine (order32 c d hc hd _).mono ?_; rintro e w' ⟨n, rfl, h1, hb1⟩; obtain rfl := h0.same h1) | (go_at_call 81; refine (orderNear c d hc hd _).mono ?_; rintro e w' ⟨m, rfl, h2, hb1⟩; obtain rfl := h0.same h2))
  rename_i hb0 hh
  have g := bch (next_ch g hb0) hb1
  clear hb0 hb1 h0 h1 h2 k5 k6 k7 k8 k9 hh
  go_wp2
  go_ret
  exact ⟨rfl, g⟩

end Go.Proofs.Ytgehcnlfplcaaaa.fbitOrders

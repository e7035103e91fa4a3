/- Contracts of the reference's Small, Bit. -/
import Derived.Test.YtljnadoodbninaaWCmp
namespace Go.Proofs.Ytljnadoodbninaa
open Go.RowKit
theorem and_low (v : Nat) (hv : v ≤ 18446744073709551615) : bits .and .u64 (v : Int) 4294967295 = ((v % 4294967296 : Nat) : Int) := by
  have h := u64_and_nat v 4294967295 (by omega) (by decide)
  rw [show (4294967295 : Nat) = 2 ^ 32 - 1 from rfl, Nat.and_two_pow_sub_one_eq_mod] at h
  exact h
theorem wrap32_nat {x : Nat} (h : x < 4294967296) : IntKind.u32.wrap (x : Int) = (x : Int) := by rw [IntKind.wrap_u32]; omega
set_option maxRecDepth 20000 in
set_option maxHeartbeats 4000000 in
theorem small_any (v : Nat) (hv : v ≤ 18446744073709551615) (w : World) : Calls Try.prog 131 #[.int .u64 v] w (TNa v 2 w) := by
  have e1 := and_low v hv
  obtain ⟨lo, hlo⟩ : ∃ n, v % 4294967296 = n := ⟨_, rfl⟩
  obtain ⟨hi, hhi⟩ : ∃ n, v / 4294967296 = n := ⟨_, rfl⟩
  rw [hlo] at e1
  have e2 := wrap32_nat (x := lo) (by omega)
  have e3 : (v : Int) / 4294967296 = (hi : Int) := by omega
  have e4 := wrap32_nat (x := hi) (by omega)
  have HV := hide (show Vg.Wd [lo, hi] ∧ Vg.nat32 [lo, hi] = v from ⟨by intro b hb; simp at hb; omega, by simp only [Vg.nat32]; omega⟩)
  have W := fun (w' : World) (a : Value) (h : Rw w' a [lo, hi]) => norm_any a [lo, hi] w' h (by simp)
  clear hlo hhi hv
  go_enter Try.func131, Try.ntmps131
  go_wp2_with fail
  refine (W _ _ ⟨HV.out.1, .inr ⟨w.heap.size, 0, 2, rfl, by simp, ?_, by simp⟩⟩).mono ?_
  · intro i hj
    rcases i with _ | _ | i
    · simp [go_sem, wv]
    · simp [go_sem, wv]
    · simp at hj; omega
  rintro e w1 ⟨a, ys, rfl, h1, h2, h3, h4, hb⟩
  have R := hide (show _ ∧ _ ∧ _ ∧ _ ∧ _ from ⟨h1, h2.trans HV.out.2, h3, h4, bch_one hb⟩)
  clear h1 h2 h3 h4 hb
  go_wp2
  go_ret
  exact ⟨_, ys, rfl, R.out.1, R.out.2.1, R.out.2.2.1, R.out.2.2.2.1, R.out.2.2.2.2⟩
end Go.Proofs.Ytljnadoodbninaa

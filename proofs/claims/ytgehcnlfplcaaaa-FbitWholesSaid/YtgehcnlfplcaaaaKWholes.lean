/- Every Whole of the program is the reference's. The walk. -/
import Derived.Test.YtgehcnlfplcaaaaWWhole
import Derived.Test.YtgehcnlfplcaaaaWBd
namespace Go.Proofs.Ytgehcnlfplcaaaa.fbitWholes
open Go.RowKit

set_option maxHeartbeats 1000000 in
theorem walk (a0 : Int) (a1 : Int) (w0 : (Lit.int .u64 a0).wf = true) (w1 : (Lit.int .u32 a1).wf = true) (w : World) :
    Calls Try.prog 4 #[.int .u64 a0, .int .u32 a1] w fun e w' => e = .returned (.bool true) ∧ Below w.heap.size w w' := by
  have b0 := u64_bd w0
  have b1 := u32_bd w1
  clear w0 w1
  obtain ⟨a, rfl⟩ := Int.eq_ofNat_of_zero_le b0.1
  obtain ⟨b, rfl⟩ := Int.eq_ofNat_of_zero_le b1.1
  have HA : Hid (a ≤ 18446744073709551615) := hide (by omega)
  have hb : b ≤ 4294967295 := by omega
  clear b0 b1
  have c1 := convTo64 a
  have c2 := convToFar a
  have c4 := convTo32 b
  have c5 := convToNear b
  go_enter Try.func4, Try.ntmps4
  go_wp2_with (first | (go_at_call 22; refine (long_any _ _).mono ?_; rintro e w' ⟨rfl, rfl⟩))
  refine (whole64 a HA.out _).mono ?_; rintro e w1 ⟨p, o, rfl, h1, hb1⟩
  go_wp2_with (first | (go_at_call 22; refine (long_any _ _).mono ?_; rintro e w' ⟨rfl, rfl⟩))
  refine (wholeFar a HA.out _).mono ?_; rintro e w2 ⟨q, u, rfl, h2, hb2⟩
  obtain ⟨rfl, rfl⟩ := h1.same h2
  go_wp2_with fail
  refine (rwhole64 a HA.out _).mono ?_; rintro e w3 ⟨q, u, rfl, h3, hb3⟩
  obtain ⟨rfl, rfl⟩ := h1.same h3
  clear h1 h2 h3
  go_wp2_with (first | (go_at_call 26; refine (brief_any _ _).mono ?_; rintro e w' ⟨rfl, rfl⟩))
  refine (whole32 b hb _).mono ?_; rintro e w4 ⟨p, o, rfl, h1, hb4⟩
  go_wp2_with (first | (go_at_call 26; refine (brief_any _ _).mono ?_; rintro e w' ⟨rfl, rfl⟩))
  refine (wholeNear b hb _).mono ?_; rintro e w5 ⟨q, u, rfl, h2, hb5⟩
  obtain ⟨rfl, rfl⟩ := h1.same h2
  go_wp2_with fail
  refine (rwhole32 b hb _).mono ?_; rintro e w6 ⟨q, u, rfl, h3, hb6⟩
  obtain ⟨rfl, rfl⟩ := h1.same h3
  clear h1 h2 h3
  go_wp2
  go_ret
  exact ⟨rfl, by repeat (first | exact Below.refl _ _ | assumption | refine bch ?_ (by assumption))⟩

end Go.Proofs.Ytgehcnlfplcaaaa.fbitWholes

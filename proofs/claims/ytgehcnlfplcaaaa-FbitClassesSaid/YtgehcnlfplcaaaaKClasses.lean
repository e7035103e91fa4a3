/- Every Class of the program is the reference's. The walk. -/
import Derived.Test.YtgehcnlfplcaaaaWClass
import Derived.Test.YtgehcnlfplcaaaaWBd
namespace Go.Proofs.Ytgehcnlfplcaaaa.fbitClasses
open Go.RowKit

set_option maxHeartbeats 1000000 in
theorem walk (a0 : Int) (a1 : Int) (w0 : (Lit.int .u64 a0).wf = true) (w1 : (Lit.int .u32 a1).wf = true) (w : World) :
    Calls Try.prog 10 #[.int .u64 a0, .int .u32 a1] w fun e w' => e = .returned (.bool true) ∧ Below w.heap.size w w' := by
  have b0 := u64_bd w0
  have b1 := u32_bd w1
  clear w0 w1
  obtain ⟨a, rfl⟩ := Int.eq_ofNat_of_zero_le b0.1
  obtain ⟨b, rfl⟩ := Int.eq_ofNat_of_zero_le b1.1
  have HA : Hid (a ≤ 18446744073709551615) := hide (by omega)
  have hb : b ≤ 4294967295 := by omega
  clear b0 b1
  have c1 := convTo64 a
  have c2 := convToFar a
  have c4 := convTo32 b
  have c5 := convToNear b
  go_enter Try.func10, Try.ntmps10
  go_wp2_with (first | (go_at_call 22; refine (long_any _ _).mono ?_; rintro e w' ⟨rfl, rfl⟩))
  refine (class64 a HA.out _).mono ?_; rintro e w1 ⟨p, rfl, h1, hb1⟩
  go_wp2_with fail
  refine (rclass64 a HA.out _).mono ?_; rintro e w2 ⟨q, rfl, h2, hb2⟩
  obtain rfl := h1.same h2
  clear h2
  go_wp2_with (first | (go_at_call 22; refine (long_any _ _).mono ?_; rintro e w' ⟨rfl, rfl⟩))
  refine (classFar a HA.out _).mono ?_; rintro e w3 ⟨q, rfl, h2, hb3⟩
  obtain rfl := h1.same h2
  clear h2
  go_wp2_with fail
  refine (rclass64 a HA.out _).mono ?_; rintro e w4 ⟨q, rfl, h2, hb4⟩
  obtain rfl := h1.same h2
  clear h1 h2
  go_wp2_with fail
  refine (rclass32 b hb _).mono ?_; rintro e w5 ⟨p, rfl, h1, hb5⟩
  go_wp2_with (first | (go_at_call 26; refine (brief_any _ _).mono ?_; rintro e w' ⟨rfl, rfl⟩))
  refine (class32 b hb _).mono ?_; rintro e w6 ⟨q, rfl, h2, hb6⟩
  obtain rfl := h1.same h2
  clear h2
  go_wp2_with (first | (go_at_call 26; refine (brief_any _ _).mono ?_; rintro e w' ⟨rfl, rfl⟩))
  refine (classNear b hb _).mono ?_; rintro e w7 ⟨q, rfl, h2, hb7⟩
  obtain rfl := h1.same h2
  clear h1 h2
  go_wp2
  go_ret
  exact ⟨rfl, by repeat (first | exact Below.refl _ _ | assumption | refine bch ?_ (by assumption))⟩

end Go.Proofs.Ytgehcnlfplcaaaa.fbitClasses

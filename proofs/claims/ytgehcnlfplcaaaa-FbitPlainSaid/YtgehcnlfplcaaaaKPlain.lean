/- Every Plain of the program is the reference's: for all patterns of binary64 and of binary32, of the plain types and of types of their own. The walk. -/
import Derived.Test.YtgehcnlfplcaaaaWPlain
import Derived.Test.YtgehcnlfplcaaaaWBd
namespace Go.Proofs.Ytgehcnlfplcaaaa.fbitPlain
open Go.RowKit

theorem walk (a0 : Int) (a1 : Int) (w0 : (Lit.int .u64 a0).wf = true) (w1 : (Lit.int .u32 a1).wf = true) (w : World) :
    Calls Try.prog 3 #[.int .u64 a0, .int .u32 a1] w fun e w' => e = .returned (.bool true) ∧ Below w.heap.size w w' := by
  have b0 := u64_bd w0
  have b1 := u32_bd w1
  clear w0 w1
  obtain ⟨a, rfl⟩ := Int.eq_ofNat_of_zero_le b0.1
  obtain ⟨b, rfl⟩ := Int.eq_ofNat_of_zero_le b1.1
  have HA : Hid (a ≤ 18446744073709551615) := hide (by omega)
  have hb : b ≤ 4294967295 := by omega
  clear b0 b1
  go_enter Try.func3, Try.ntmps3
  go_wp2_with fail
  refine (rplain64 _ HA.out _).mono ?_; rintro e w1 ⟨z, rfl, hz, hb1⟩
  go_wp2_with fail
  refine (rplain32 _ hb _).mono ?_; rintro e w2 ⟨v, rfl, hv, hb2⟩
  have c1 := convTo64 a
  have c2 := convToFar a
  have c3 := convOfFar (Vg.plainb true a)
  have c4 := convTo32 b
  have c5 := convToNear b
  have c6 := convOfNear (Vg.plainb false b)
  have z1 := hide (hz.ok HA.out)
  have z2 := hide (hv.ok hb)
  clear hz hv
  go_wp2_with (first | (go_at_call 22; refine (long_any _ _).mono ?_; rintro e w' ⟨rfl, rfl⟩) | (go_at_call 26; refine (brief_any _ _).mono ?_; rintro e w' ⟨rfl, rfl⟩) | (go_at_call 21; refine (plain64 _ HA.out _).mono ?_; rintro e w' ⟨rfl, rfl⟩) | (go_at_call 23; refine (plainFar _ HA.out _).mono ?_; rintro e w' ⟨rfl, rfl⟩) | (go_at_call 25; refine (plain32 _ hb _).mono ?_; rintro e w' ⟨rfl, rfl⟩) | (go_at_call 27; refine (plainNear _ hb _).mono ?_; rintro e w' ⟨rfl, rfl⟩) | (go_at_call 20; refine (is_any64 _ _ z1.out _).mono ?_; rintro e w' ⟨rfl, hbx⟩) | (go_at_call 24; refine (is_any32 _ _ z2.out _).mono ?_; rintro e w' ⟨rfl, hby⟩))
  go_ret
  exact ⟨rfl, by repeat (first | exact Below.refl _ _ | assumption | refine bch ?_ (by assumption))⟩

end Go.Proofs.Ytgehcnlfplcaaaa.fbitPlain

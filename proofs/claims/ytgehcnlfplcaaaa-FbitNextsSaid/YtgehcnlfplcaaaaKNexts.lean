/- Every NextUp and NextDown of the program is the reference's. The walk. -/
import Derived.Test.YtgehcnlfplcaaaaWNext
import Derived.Test.YtgehcnlfplcaaaaWBd
namespace Go.Proofs.Ytgehcnlfplcaaaa.fbitNexts
open Go.RowKit

theorem ok_up64 {b y : Nat} {z : Int} (hb : b ≤ 18446744073709551615) (h : IsUp64 b y) (k : RUp64 b z) : IsOk64 y z := by
  unfold IsUp64 at h
  unfold RUp64 at k
  subst h k
  have u := Vg.up64 b hb
  refine ⟨u.1, by omega, by omega, ?_⟩
  rw [Int.toNat_natCast, u.2]
  cases Vg.nn true b <;> simp
theorem ok_dn64 {b y : Nat} {z : Int} (hb : b ≤ 18446744073709551615) (h : IsDn64 b y) (k : RDn64 b z) : IsOk64 y z := by
  obtain ⟨h1, h2, h3⟩ := h
  unfold RDn64 at k
  subst k
  have u := Vg.dn64 b hb
  refine ⟨h1, by omega, by omega, ?_⟩
  rw [Int.toNat_natCast, u.2, h2]
  revert h3
  cases Vg.nn true b <;> simp
  intro h; rw [h]

theorem ok_up32 {b y : Nat} {z : Int} (hb : b ≤ 4294967295) (h : IsUp32 b y) (k : RUp32 b z) : IsOk32 y z := by
  unfold IsUp32 at h
  unfold RUp32 at k
  subst h k
  have u := Vg.up32 b hb
  refine ⟨u.1, by omega, by omega, ?_⟩
  rw [Int.toNat_natCast, u.2]
  cases Vg.nn false b <;> simp
theorem ok_dn32 {b y : Nat} {z : Int} (hb : b ≤ 4294967295) (h : IsDn32 b y) (k : RDn32 b z) : IsOk32 y z := by
  obtain ⟨h1, h2, h3⟩ := h
  unfold RDn32 at k
  subst k
  have u := Vg.dn32 b hb
  refine ⟨h1, by omega, by omega, ?_⟩
  rw [Int.toNat_natCast, u.2, h2]
  revert h3
  cases Vg.nn false b <;> simp
  intro h; rw [h]

set_option maxHeartbeats 4000000 in
theorem walk (a0 : Int) (a1 : Int) (w0 : (Lit.int .u64 a0).wf = true) (w1 : (Lit.int .u32 a1).wf = true) (w : World) :
    Calls Try.prog 12 #[.int .u64 a0, .int .u32 a1] w fun e w' => e = .returned (.bool true) ∧ Below w.heap.size w w' := by
  have b0 := u64_bd w0
  have b1 := u32_bd w1
  clear w0 w1
  obtain ⟨a, rfl⟩ := Int.eq_ofNat_of_zero_le b0.1
  obtain ⟨b, rfl⟩ := Int.eq_ofNat_of_zero_le b1.1
  have HA : Hid (a ≤ 18446744073709551615) := hide (by omega)
  have hb : b ≤ 4294967295 := by omega
  clear b0 b1
  have c1 := fun (x : Nat) => convToFar x
  have c2 := fun (x : Nat) => convToNear x
  have c3 := fun (x : Nat) => convOfFar x
  have c4 := fun (x : Nat) => convOfNear x
  go_enter Try.func12, Try.ntmps12
  go_wp2_with fail
  refine (rnextup64 a HA.out _).mono ?_; rintro e v0 ⟨up, rfl, hu, g0⟩
  go_wp2_with fail
  refine (rnextdown64 a HA.out _).mono ?_; rintro e v1 ⟨dn, rfl, hd, g1⟩
  go_wp2_with (first | (go_at_call 22; refine (long_any _ _).mono ?_; rintro e w' ⟨rfl, rfl⟩) | (go_at_call 26; refine (brief_any _ _).mono ?_; rintro e w' ⟨rfl, rfl⟩))
  refine (nextup64 a HA.out _).mono ?_; rintro e v2 ⟨y, rfl, hy, g2⟩
  have ok := hide (ok_up64 HA.out hy hu)
  clear hy
  go_wp2_with fail
  refine (is_any64 _ _ ok.out _).mono ?_; rintro e v3 ⟨rfl, g3⟩
  clear ok
  go_wp2_with (first | (go_at_call 22; refine (long_any _ _).mono ?_; rintro e w' ⟨rfl, rfl⟩) | (go_at_call 26; refine (brief_any _ _).mono ?_; rintro e w' ⟨rfl, rfl⟩))
  refine (nextdown64 a HA.out _).mono ?_; rintro e v4 ⟨y, rfl, hy, g4⟩
  have ok := hide (ok_dn64 HA.out hy hd)
  clear hy
  go_wp2_with fail
  refine (is_any64 _ _ ok.out _).mono ?_; rintro e v5 ⟨rfl, g5⟩
  clear ok
  go_wp2_with (first | (go_at_call 22; refine (long_any _ _).mono ?_; rintro e w' ⟨rfl, rfl⟩) | (go_at_call 26; refine (brief_any _ _).mono ?_; rintro e w' ⟨rfl, rfl⟩))
  refine (nextupFar a HA.out _).mono ?_; rintro e v6 ⟨y, rfl, hy, g6⟩
  have ok := hide (ok_up64 HA.out hy hu)
  clear hy
  go_wp2_with fail
  refine (is_any64 _ _ ok.out _).mono ?_; rintro e v7 ⟨rfl, g7⟩
  clear ok
  go_wp2_with (first | (go_at_call 22; refine (long_any _ _).mono ?_; rintro e w' ⟨rfl, rfl⟩) | (go_at_call 26; refine (brief_any _ _).mono ?_; rintro e w' ⟨rfl, rfl⟩))
  refine (nextdownFar a HA.out _).mono ?_; rintro e v8 ⟨y, rfl, hy, g8⟩
  have ok := hide (ok_dn64 HA.out hy hd)
  clear hy
  go_wp2_with fail
  refine (is_any64 _ _ ok.out _).mono ?_; rintro e v9 ⟨rfl, g9⟩
  clear ok
  clear hu hd
  go_wp2_with fail
  refine (rnextup32 b hb _).mono ?_; rintro e v10 ⟨up, rfl, hu, g10⟩
  go_wp2_with fail
  refine (rnextdown32 b hb _).mono ?_; rintro e v11 ⟨dn, rfl, hd, g11⟩
  go_wp2_with (first | (go_at_call 22; refine (long_any _ _).mono ?_; rintro e w' ⟨rfl, rfl⟩) | (go_at_call 26; refine (brief_any _ _).mono ?_; rintro e w' ⟨rfl, rfl⟩))
  refine (nextup32 b hb _).mono ?_; rintro e v12 ⟨y, rfl, hy, g12⟩
  have ok := hide (ok_up32 hb hy hu)
  clear hy
  go_wp2_with fail
  refine (is_any32 _ _ ok.out _).mono ?_; rintro e v13 ⟨rfl, g13⟩
  clear ok
  go_wp2_with (first | (go_at_call 22; refine (long_any _ _).mono ?_; rintro e w' ⟨rfl, rfl⟩) | (go_at_call 26; refine (brief_any _ _).mono ?_; rintro e w' ⟨rfl, rfl⟩))
  refine (nextdown32 b hb _).mono ?_; rintro e v14 ⟨y, rfl, hy, g14⟩
  have ok := hide (ok_dn32 hb hy hd)
  clear hy
  go_wp2_with fail
  refine (is_any32 _ _ ok.out _).mono ?_; rintro e v15 ⟨rfl, g15⟩
  clear ok
  go_wp2_with (first | (go_at_call 22; refine (long_any _ _).mono ?_; rintro e w' ⟨rfl, rfl⟩) | (go_at_call 26; refine (brief_any _ _).mono ?_; rintro e w' ⟨rfl, rfl⟩))
  refine (nextupNear b hb _).mono ?_; rintro e v16 ⟨y, rfl, hy, g16⟩
  have ok := hide (ok_up32 hb hy hu)
  clear hy
  go_wp2_with fail
  refine (is_any32 _ _ ok.out _).mono ?_; rintro e v17 ⟨rfl, g17⟩
  clear ok
  go_wp2_with (first | (go_at_call 22; refine (long_any _ _).mono ?_; rintro e w' ⟨rfl, rfl⟩) | (go_at_call 26; refine (brief_any _ _).mono ?_; rintro e w' ⟨rfl, rfl⟩))
  refine (nextdownNear b hb _).mono ?_; rintro e v18 ⟨y, rfl, hy, g18⟩
  have ok := hide (ok_dn32 hb hy hd)
  clear hy
  go_wp2_with fail
  refine (is_any32 _ _ ok.out _).mono ?_; rintro e v19 ⟨rfl, g19⟩
  clear ok
  clear hu hd
  go_wp2
  go_ret
  exact ⟨rfl, by repeat (first | exact Below.refl _ _ | assumption | refine bch ?_ (by assumption))⟩

end Go.Proofs.Ytgehcnlfplcaaaa.fbitNexts

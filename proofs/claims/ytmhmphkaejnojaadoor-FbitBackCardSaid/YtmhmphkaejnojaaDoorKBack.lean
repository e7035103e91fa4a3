/- Join of what Split tells is the number. The walk. -/
import Derived.Test.YtmhmphkaejnojaaDoorWBackC
import Derived.Test.YtmhmphkaejnojaaDoorWBd
namespace Go.Proofs.YtmhmphkaejnojaaDoor.fbitBack
open Go.RowKit

theorem vr_half : Vg.VR true 4609434218613702656 3 (-1) := by unfold Vg.VR; decide +kernel
theorem jn_half {b : Nat} {o : Bool} (h : Vg.Jn64 false 3 (-1) b o) : b = 4609434218613702656 ∧ o = true := by
  have h1 : Vg.Jn64 false 3 (-1) ((4609434218613702656 : Nat) : Int) true := .inr (.inl ⟨by decide, rfl, 4609434218613702656, by decide, vr_half, rfl⟩)
  obtain ⟨e, rfl⟩ := h.same h1
  exact ⟨by omega, rfl⟩
theorem ne_half : (FloatKind.f64.format.order 4609434218613702656 4609434218613702656 != some Ordering.eq) = false := by decide +kernel
set_option maxHeartbeats 2000000 in
theorem walk (a0 : Int) (a1 : Int) (w0 : (Lit.int .u64 a0).wf = true) (w1 : (Lit.int .u32 a1).wf = true) (w : World) (hT : Tab w) :
    Calls Tryd.prog 4 #[.int .u64 a0, .int .u32 a1] w fun e w' => e = .returned (.bool true) ∧ Below w.heap.size w w' := by
  have b0 := u64_bd w0
  have b1 := u32_bd w1
  clear w0 w1
  obtain ⟨a, rfl⟩ := Int.eq_ofNat_of_zero_le b0.1
  obtain ⟨b, rfl⟩ := Int.eq_ofNat_of_zero_le b1.1
  have HA : Hid (a ≤ 18446744073709551615) := hide (by omega)
  have HB : Hid (b ≤ 4294967295) := hide (by omega)
  clear b0 b1
  have nh := ne_half
  have c1 := fun (x : Nat) => convToFar x
  have c2 := fun (x : Nat) => convToNear x
  go_enter Tryd.func4, Tryd.ntmps4
  go_wp2_with fail
  refine (join64 false 3 (-1) (by decide) (by decide) _ hT).mono ?_; rintro e w1 ⟨x, o, k, rfl, h, hk, hb1⟩
  obtain ⟨rfl, rfl⟩ := jn_half h
  obtain rfl := (not_zero_err hk).1 rfl
  clear h hk
  have hT1 := hT.below hb1
  go_wp2_with (first | (go_at_call 14; refine (long_any _ _).mono ?_; rintro e w' ⟨rfl, rfl⟩) | (go_at_call 16; refine (brief_any _ _).mono ?_; rintro e w' ⟨rfl, rfl⟩))
  refine (back64 a HA.out _ hT1).mono ?_; rintro e w2 ⟨rfl, hb2⟩
  have hT2 := hT1.below hb2
  go_wp2_with (first | (go_at_call 14; refine (long_any _ _).mono ?_; rintro e w' ⟨rfl, rfl⟩) | (go_at_call 16; refine (brief_any _ _).mono ?_; rintro e w' ⟨rfl, rfl⟩))
  refine (back32 b HB.out _ hT2).mono ?_; rintro e w3 ⟨rfl, hb3⟩
  have hT3 := hT2.below hb3
  go_wp2_with (first | (go_at_call 14; refine (long_any _ _).mono ?_; rintro e w' ⟨rfl, rfl⟩) | (go_at_call 16; refine (brief_any _ _).mono ?_; rintro e w' ⟨rfl, rfl⟩))
  refine (backFar a HA.out _ hT3).mono ?_; rintro e w4 ⟨rfl, hb4⟩
  have hT4 := hT3.below hb4
  go_wp2_with (first | (go_at_call 14; refine (long_any _ _).mono ?_; rintro e w' ⟨rfl, rfl⟩) | (go_at_call 16; refine (brief_any _ _).mono ?_; rintro e w' ⟨rfl, rfl⟩))
  refine (backNear b HB.out _ hT4).mono ?_; rintro e w5 ⟨rfl, hb5⟩
  go_wp2
  go_ret
  exact ⟨rfl, bch (bch (bch (bch hb1 hb2) hb3) hb4) hb5⟩

end Go.Proofs.YtmhmphkaejnojaaDoor.fbitBack

/- Split of what Join tells is what was handed in. The walk. -/
import Derived.Test.YtmhmphkaejnojaaDoorWAgainC
import Derived.Test.YtmhmphkaejnojaaDoorWBd
namespace Go.Proofs.YtmhmphkaejnojaaDoor.fbitAgain
open Go.RowKit

theorem vr_half : Vg.VR false 1069547520 3 (-1) := by unfold Vg.VR; decide +kernel
theorem jn_half {b : Nat} {o : Bool} (h : Vg.Jn32 false 3 (-1) b o) : b = 1069547520 ∧ o = true := by
  have h1 : Vg.Jn32 false 3 (-1) ((1069547520 : Nat) : Int) true := .inr (.inl ⟨by decide, rfl, 1069547520, by decide, vr_half, rfl⟩)
  obtain ⟨e, rfl⟩ := h.same h1
  exact ⟨by omega, rfl⟩
theorem ne_half : (FloatKind.f32.format.order 1069547520 1069547520 != some Ordering.eq) = false := by decide +kernel
set_option maxHeartbeats 2000000 in
theorem walk (n : Bool) (a1 : Int) (a2 : Int) (w1 : (Lit.int .u64 a1).wf = true) (w2 : (Lit.int .i64 a2).wf = true) (w : World) (hT : Tab w) :
    Calls Tryd.prog 5 #[.bool n, .int .u64 a1, .int .i64 a2] w fun e w' => e = .returned (.bool true) ∧ Below w.heap.size w w' := by
  have HS := hide (u64_bd w1)
  have HX := hide (i64_bd w2)
  clear w1 w2
  have nh := ne_half
  go_enter Tryd.func5, Tryd.ntmps5
  go_wp2_with fail
  refine (join32 false 3 (-1) (by decide) (by decide) _ hT).mono ?_; rintro e w1 ⟨x, o, k, rfl, h, hk, hb1⟩
  obtain ⟨rfl, rfl⟩ := jn_half h
  obtain rfl := (not_zero_err hk).1 rfl
  clear h hk
  have hT1 := hT.below hb1
  go_wp2_with fail
  refine (again64 n a1 a2 HS.out HX.out _ hT1).mono ?_; rintro e w2 ⟨rfl, hb2⟩
  have hT2 := hT1.below hb2
  go_wp2_with fail
  refine (againFar n a1 a2 HS.out HX.out _ hT2).mono ?_; rintro e w3 ⟨rfl, hb3⟩
  have hT3 := hT2.below hb3
  go_wp2_with fail
  refine (again32 n a1 a2 HS.out HX.out _ hT3).mono ?_; rintro e w4 ⟨rfl, hb4⟩
  have hT4 := hT3.below hb4
  go_wp2_with fail
  refine (againNear n a1 a2 HS.out HX.out _ hT4).mono ?_; rintro e w5 ⟨rfl, hb5⟩
  go_wp2
  go_ret
  exact ⟨rfl, bch (bch (bch (bch hb1 hb2) hb3) hb4) hb5⟩

end Go.Proofs.YtmhmphkaejnojaaDoor.fbitAgain

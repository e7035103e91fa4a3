/- Every Join of the program is the reference's. The walk. -/
import Derived.Test.YtmhmphkaejnojaaDoorWJoinP
import Derived.Test.YtmhmphkaejnojaaDoorWBd
import Derived.Test.YtmhmphkaejnojaaDoorWIs
namespace Go.Proofs.YtmhmphkaejnojaaDoor.fbitJoins
open Go.RowKit

theorem jn_ok64 {n : Bool} {s : Nat} {x : Int} {b : Nat} {o : Bool} (h : Vg.Jn64 n s x b o) : IsOk64 b b := by
  obtain ⟨h0, h1, h2⟩ := h.bd
  exact ⟨by omega, h0, h1, .inr ⟨by simpa using h2, rfl⟩⟩
theorem jn_ok32 {n : Bool} {s : Nat} {x : Int} {b : Nat} {o : Bool} (h : Vg.Jn32 n s x b o) : IsOk32 b b := by
  obtain ⟨h0, h1, h2⟩ := h.bd
  exact ⟨by omega, h0, h1, .inr ⟨by simpa using h2, rfl⟩⟩
set_option maxHeartbeats 2000000 in
theorem walk (n : Bool) (a1 : Int) (a2 : Int) (w1 : (Lit.int .u64 a1).wf = true) (w2 : (Lit.int .i64 a2).wf = true) (w : World) (hT : Tab w) :
    Calls Tryd.prog 3 #[.bool n, .int .u64 a1, .int .i64 a2] w fun e w' => e = .returned (.bool true) ∧ Below w.heap.size w w' := by
  have b1 := u64_bd w1
  have HX := hide (i64_bd w2)
  clear w1 w2
  obtain ⟨s, rfl⟩ := Int.eq_ofNat_of_zero_le b1.1
  have HS : Hid (s ≤ 18446744073709551615) := hide (by omega)
  clear b1
  have c3 := fun (x : Nat) => convOfFar x
  have c6 := fun (x : Nat) => convOfNear x
  go_enter Tryd.func3, Tryd.ntmps3
  go_wp2_with fail
  refine (join64 n s a2 HS.out HX.out _ hT).mono ?_; rintro e w1 ⟨x, o, k, rfl, h1, hk, hb1⟩
  have hT1 := hT.below hb1
  go_wp2_with fail
  refine (joinFar n s a2 HS.out HX.out _ hT1).mono ?_; rintro e w2 ⟨y, u, j, rfl, h2, hj, hb2⟩
  have hT2 := hT1.below hb2
  obtain ⟨hyx, rfl⟩ := h1.same h2
  obtain rfl : x = y := by omega
  obtain rfl : k = j := by
    rcases hk with ⟨rfl, rfl⟩ | ⟨rfl, rfl⟩ <;> rcases hj with ⟨h, rfl⟩ | ⟨h, rfl⟩ <;> first | rfl | exact absurd h (by decide)
  clear hj h2
  go_wp2_with fail
  refine (rjoin64 n s a2 HS.out HX.out _).mono ?_; rintro e w3 ⟨y, u, rfl, h3, hb3⟩
  have hT3 := hT2.below hb3
  obtain ⟨rfl, rfl⟩ := h1.same h3
  have z1 := hide (jn_ok64 h1)
  clear h1 h3 hyx hT hT1 hT2
  have HT := hide hT3
  clear hT3
  have G := hide (bch (bch hb1 hb2) hb3)
  clear hb1 hb2 hb3
  rcases hk with ⟨rfl, rfl⟩ | ⟨rfl, rfl⟩
  all_goals
    go_wp2_with (go_at_call 9; refine (is_any64 _ _ z1.out _).mono ?_; rintro e w' ⟨rfl, hbx⟩)
    have hx2 : Below w3.heap.size w3 w' := bch (by assumption) hbx
    have hT4 := HT.out.below hx2
    have G2 := hide (bch G.out hx2)
    clear hx2 hbx
    refine (join32 n s a2 HS.out HX.out _ hT4).mono ?_; rintro e w4 ⟨x, o, k, rfl, h1, hk, hb1⟩
    have hT5 := hT4.below hb1
    go_wp2_with fail
    refine (joinNear n s a2 HS.out HX.out _ hT5).mono ?_; rintro e w5 ⟨y, u, j, rfl, h2, hj, hb2⟩
    obtain ⟨hyx, rfl⟩ := h1.same h2
    obtain rfl : x = y := by omega
    obtain rfl : k = j := by
      rcases hk with ⟨rfl, rfl⟩ | ⟨rfl, rfl⟩ <;> rcases hj with ⟨h, rfl⟩ | ⟨h, rfl⟩ <;> first | rfl | exact absurd h (by decide)
    clear hj h2
    go_wp2_with fail
    refine (rjoin32 n s a2 HS.out HX.out _).mono ?_; rintro e w6 ⟨y, u, rfl, h3, hb3⟩
    obtain ⟨rfl, rfl⟩ := h1.same h3
    have z2 := hide (jn_ok32 h1)
    clear h1 h3 hyx hT4 hT5
    have G3 := hide (bch (bch (bch G2.out hb1) hb2) hb3)
    clear hb1 hb2 hb3
    rcases hk with ⟨rfl, rfl⟩ | ⟨rfl, rfl⟩
    all_goals
      go_wp2_with (go_at_call 12; refine (is_any32 _ _ z2.out _).mono ?_; rintro e w' ⟨rfl, hby⟩)
      go_ret
      exact ⟨rfl, by have g3 := G3.out; repeat (first | assumption | refine bch ?_ (by assumption))⟩

end Go.Proofs.YtmhmphkaejnojaaDoor.fbitJoins

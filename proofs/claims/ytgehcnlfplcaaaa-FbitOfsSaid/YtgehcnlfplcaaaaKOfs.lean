/- Every Of of the program is the reference's. The walk. -/
import Derived.Test.YtgehcnlfplcaaaaWOfR
import Derived.Test.YtgehcnlfplcaaaaWBd
namespace Go.Proofs.Ytgehcnlfplcaaaa.fbitOfs
open Go.RowKit

set_option maxHeartbeats 1000000 in
theorem walk (a0 : Int) (w0 : (Lit.int .i64 a0).wf = true) (w : World) :
    Calls Try.prog 5 #[.int .i64 a0] w fun e w' => e = .returned (.bool true) ∧ Below w.heap.size w w' := by
  have HP := hide (i64_bd w0)
  clear w0
  have c3 := fun (x : Nat) => convOfFar x
  have c6 := fun (x : Nat) => convOfNear x
  go_enter Try.func5, Try.ntmps5
  go_wp2_with fail
  refine (offl64 a0 HP.out.1 HP.out.2 _).mono ?_; rintro e w1 ⟨x, o, rfl, h1, hb1⟩
  go_wp2_with fail
  refine (offlFar a0 HP.out.1 HP.out.2 _).mono ?_; rintro e w2 ⟨y, u, rfl, h2, hb2⟩
  obtain ⟨rfl, rfl⟩ := h1.same h2
  go_wp2_with fail
  refine (rof64 a0 HP.out.1 HP.out.2 _).mono ?_; rintro e w3 ⟨y, u, rfl, h3, hb3⟩
  obtain ⟨rfl, rfl⟩ := h1.same h3
  have z1 := hide (iof_ok64 HP.out.1 HP.out.2 h1)
  clear h1 h2 h3
  go_wp2_with (go_at_call 20; refine (is_any64 _ _ z1.out _).mono ?_; rintro e w' ⟨rfl, hbx⟩)
  refine (offl32 a0 HP.out.1 HP.out.2 _).mono ?_; rintro e w4 ⟨x, o, rfl, h1, hb4⟩
  go_wp2_with fail
  refine (offlNear a0 HP.out.1 HP.out.2 _).mono ?_; rintro e w5 ⟨y, u, rfl, h2, hb5⟩
  obtain ⟨rfl, rfl⟩ := h1.same h2
  go_wp2_with fail
  refine (rof32 a0 HP.out.1 HP.out.2 _).mono ?_; rintro e w6 ⟨y, u, rfl, h3, hb6⟩
  obtain ⟨rfl, rfl⟩ := h1.same h3
  have z2 := hide (iof_ok32 HP.out.1 HP.out.2 h1)
  clear h1 h2 h3
  go_wp2_with (go_at_call 24; refine (is_any32 _ _ z2.out _).mono ?_; rintro e w' ⟨rfl, hby⟩)
  go_ret
  exact ⟨rfl, by repeat (first | exact Below.refl _ _ | assumption | refine bch ?_ (by assumption))⟩

end Go.Proofs.Ytgehcnlfplcaaaa.fbitOfs

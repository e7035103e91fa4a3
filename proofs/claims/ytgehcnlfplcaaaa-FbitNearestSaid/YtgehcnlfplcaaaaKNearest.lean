/- No number is nearer to an integer than Of's; Of rises; it tells true just where Whole leads back. The walk. -/
import Derived.Test.YtgehcnlfplcaaaaWNearest64
import Derived.Test.YtgehcnlfplcaaaaWNearestFar
import Derived.Test.YtgehcnlfplcaaaaWNearest32
import Derived.Test.YtgehcnlfplcaaaaWNearestNear
import Derived.Test.YtgehcnlfplcaaaaWBd
namespace Go.Proofs.Ytgehcnlfplcaaaa.fbitNearest
open Go.RowKit

theorem three {z : Int} {o : Bool} (h : Vg.IOf true 3 z o) : z.toNat = 4613937818241073152 ∧ o = true := by
  obtain ⟨rfl, rfl⟩ := h
  decide +kernel
theorem eq_three : (FloatKind.f64.format.order 4613937818241073152 4613937818241073152 != some Ordering.eq) = false := by decide +kernel
set_option maxHeartbeats 1000000 in
theorem walk (a0 a1 : Int) (w0 : (Lit.int .i64 a0).wf = true) (w1 : (Lit.int .i64 a1).wf = true) (w : World) :
    Calls Try.prog 16 #[.int .i64 a0, .int .i64 a1] w fun e w' => e = .returned (.bool true) ∧ Below w.heap.size w w' := by
  have P := hide (i64_bd w0)
  have Q := hide (i64_bd w1)
  have e3 := eq_three
  clear w0 w1
  go_enter Try.func16, Try.ntmps16
  go_wp2_with fail
  refine (offl64 3 (by omega) (by omega) _).mono ?_; rintro e w1 ⟨z, o, rfl, h1, hb1⟩
  obtain ⟨ez, rfl⟩ := three h1
  rw [ez]
  clear h1 ez
  go_wp2_with (first | (go_at_call 85; refine (nearest64 a0 a1 P.out.1 P.out.2 Q.out.1 Q.out.2 _).mono ?_; rintro e w' ⟨rfl, hb2⟩) | (go_at_call 86; refine (nearest32 a0 a1 P.out.1 P.out.2 Q.out.1 Q.out.2 _).mono ?_; rintro e w' ⟨rfl, hb3⟩) | (go_at_call 87; refine (nearestFar a0 a1 P.out.1 P.out.2 Q.out.1 Q.out.2 _).mono ?_; rintro e w' ⟨rfl, hb4⟩) | (go_at_call 88; refine (nearestNear a0 a1 P.out.1 P.out.2 Q.out.1 Q.out.2 _).mono ?_; rintro e w' ⟨rfl, hb5⟩))
  go_ret
  exact ⟨rfl, by repeat (first | exact Below.refl _ _ | assumption | refine bch ?_ (by assumption))⟩

end Go.Proofs.Ytgehcnlfplcaaaa.fbitNearest

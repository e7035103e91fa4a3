/- The classes and the error have their numbers. The walk. -/
import Derived.Test.YtgehcnlfplcaaaaWClass
import Derived.Test.YtgehcnlfplcaaaaWBd
namespace Go.Proofs.Ytgehcnlfplcaaaa.fbitNames
open Go.RowKit

theorem one_cl : IsCl64 4607182418800017408 7 := by
  unfold IsCl64 far64
  decide +kernel

set_option maxHeartbeats 1000000 in
theorem walk (w : World) : Calls Try.prog 9 #[] w fun e w' => e = .returned (.bool true) ∧ Below w.heap.size w w' := by
  go_enter Try.func9, Try.ntmps9
  go_wp2_with fail
  refine (class64 4607182418800017408 (by decide) _).mono ?_; rintro e w1 ⟨p, rfl, h1, hb1⟩
  obtain rfl := h1.same one_cl
  clear h1
  go_wp2
  go_ret
  exact ⟨rfl, hb1⟩

end Go.Proofs.Ytgehcnlfplcaaaa.fbitNames

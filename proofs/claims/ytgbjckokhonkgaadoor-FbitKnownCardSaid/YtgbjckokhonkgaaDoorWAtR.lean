/- Contracts of the reference's At. -/
import Derived.Test.YtgbjckokhonkgaaDoorWAt
namespace Go.Proofs.YtgbjckokhonkgaaDoor
open Go.RowKit

theorem bch_one {w w1 : World} {o : Obj} (h : Below (w.alloc o).heap.size (w.alloc o) w1) : Below w.heap.size w w1 := ((Below.refl _ _).alloc (Nat.le_refl _) o).trans (h.mono (by simp))

theorem fi_small64 (m : Int) : fi64 m (-1074) = m := by unfold fi64; split <;> omega
theorem fi_great64 (m q : Int) (hq : m / 4503599627370496 = q) : fi64 (m - (q - 1) * 4503599627370496) (-1074 + (q - 1)) = m := by
  unfold fi64; split <;> omega

theorem fi_small32 (m : Int) : fi32 m (-149) = m := by unfold fi32; split <;> omega
theorem fi_great32 (m q : Int) (hq : m / 8388608 = q) : fi32 (m - (q - 1) * 8388608) (-149 + (q - 1)) = m := by
  unfold fi32; split <;> omega

end Go.Proofs.YtgbjckokhonkgaaDoor

/- What is told of a pattern and a truth; worlds that grow. -/
import Derived.Test.YtmhmphkaejnojaaDoorWIs
import Derived.Test.YtmhmphkaejnojaaDoorWBd
import Derived.Test.YtmhmphkaejnojaaDoorMBit
namespace Go.Proofs.YtmhmphkaejnojaaDoor
open Go.RowKit
theorem bch {w w1 w2 : World} (h1 : Below w.heap.size w w1) (h2 : Below w1.heap.size w1 w2) : Below w.heap.size w w2 := h1.trans (h2.mono h1.size)
theorem bch_one {w w1 : World} {o : Obj} (h : Below (w.alloc o).heap.size (w.alloc o) w1) : Below w.heap.size w w1 := ((Below.refl _ _).alloc (Nat.le_refl _) o).trans (h.mono (by simp))
/-- A pattern and a truth are told, and nothing that was there has changed. -/
def ToldU (R : Int → Bool → Prop) (w : World) (e : Ending) (w' : World) : Prop := ∃ z o, e = .returned (.tuple #[.int .u64 z, .bool o]) ∧ R z o ∧ Below w.heap.size w w'
end Go.Proofs.YtmhmphkaejnojaaDoor

/- Regions that load beside calls that make memory. -/
import Derived.Test.YtljnadoodbninaaWTool
import Derived.Deep.RegionHeld3
namespace Go.Proofs.Ytljnadoodbninaa
open Go.RowKit
theorem keep_cell {w w' : World} {p : Addr} {v : Value} (h : Below w.heap.size w w') (hp : p.block < w.heap.size) (hc : w.cell? p = some v) : w'.cell? p = some v := (h.cell hp).trans hc
theorem first_ch {w w1 : World} {o : Obj} (h : Below (w.alloc o).drew.heap.size (w.alloc o).drew w1) : Below w.heap.size w w1 := ((Below.refl _ _).alloc (Nat.le_refl _) o).drew.trans (h.mono (by simp))
theorem next_ch {w w1 w2 : World} (g : Below w.heap.size w w1) (h : Below w1.drew.heap.size w1.drew w2) : Below w.heap.size w w2 := g.drew.trans (h.mono (by simpa using g.size))
end Go.Proofs.Ytljnadoodbninaa

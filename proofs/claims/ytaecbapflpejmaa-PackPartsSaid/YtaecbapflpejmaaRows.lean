/-
  No cell of these rows narrows 'for every input' (looked for: loops, veiled, ifaces, maps, wideKeys, modest, calm, conditions, laid).
  DERIVED. THE GIVEN ROWS OF THIS SEAT. 5 by the template 'for every input the law returns true; each argument reads behind the call as it read before'; 0 by the template 'total and deterministic' (their statements: YtaecbapflpejmaaTotals.lean).
  GIVEN WITH THE SEED: the statements are not yours to turn. If you find one false, say at which input.
  Laid BY PROGRAM, IN A SANDBOX (cutbox-rows.mjs): the forced cells as the released guide's own fill.sh prints them over the translation 9f7bbc42a6b29a7a… (all of the seat's roots in one cut). By AI agents, Wed Nov 11 2026. No macro, syntax, notation, axiom, sorry.
-/
import Derived.Test.YtaecbapflpejmaaChecked
import GoSem.Claim
import GoSem.ClaimJoined
import GoSem.ClaimMapViews
import Derived.JoinedTies
import Derived.KernelRfl
namespace Go.Proofs.Ytaecbapflpejmaa
/- THE CELL 'sum', in the pinned program and in every row, IS THE sha256 OF THE DUMP (.gsa) THAT YtaecbapflpejmaaProg.lean LOADS. Nothing in Lean hashes anything: it is a label: what it is worth is what the hold of that sum in a sandbox is worth. -/
noncomputable def Try.pinned : Pinned := { name := "ytaecbapflpejmaa", sum := "9f7bbc42a6b29a7acd47a18ecd92e72d8085db451c9fb5f2ce89f838ece369e6", checked := Try.checked }
namespace Rows
def none {H : Type} : Left H := { results := [], args := [] }

/-- 'vergelaw13.PackPuts': WHATEVER THE INPUT: true; the input reads as it did. -/
def packPutsSpec : ChangeSpec := { name := "packPuts", fn := fun _ => fun
  | [d] => { results := [.lit (.bool true)], args := [d] }
  | _ => none }
def packPutsRow : OpenClaim := { program := "ytaecbapflpejmaa", sum := "9f7bbc42a6b29a7acd47a18ecd92e72d8085db451c9fb5f2ce89f838ece369e6", func := "verge/vergelaw13.PackPuts", spec := "packPuts", inPlace := ["math.Float64frombits", "math.Float64bits"], apart := false }
def PackPutsSaid : Prop := packPutsRow.holds Try.pinned (OpenSpec.ofChange packPutsSpec)

/-- ITS FALSE NEIGHBOUR: 'it returns false'. Refute it at one input. -/
def packPutsWrong : ChangeSpec := { name := "packPuts", fn := fun _ => fun
  | [d] => { results := [.lit (.bool false)], args := [d] }
  | _ => none }
def PackPutsWrongFalsely : Prop := packPutsRow.holds Try.pinned (OpenSpec.ofChange packPutsWrong)

/-- 'vergelaw13.PackBoxes': WHATEVER THE INPUT: true; the input reads as it did. -/
def packBoxesSpec : ChangeSpec := { name := "packBoxes", fn := fun _ => fun
  | [d] => { results := [.lit (.bool true)], args := [d] }
  | _ => none }
def packBoxesRow : OpenClaim := { program := "ytaecbapflpejmaa", sum := "9f7bbc42a6b29a7acd47a18ecd92e72d8085db451c9fb5f2ce89f838ece369e6", func := "verge/vergelaw13.PackBoxes", spec := "packBoxes", inPlace := ["math.Float64frombits", "math.Float64bits"], apart := false }
def PackBoxesSaid : Prop := packBoxesRow.holds Try.pinned (OpenSpec.ofChange packBoxesSpec)

/-- ITS FALSE NEIGHBOUR: 'it returns false'. Refute it at one input. -/
def packBoxesWrong : ChangeSpec := { name := "packBoxes", fn := fun _ => fun
  | [d] => { results := [.lit (.bool false)], args := [d] }
  | _ => none }
def PackBoxesWrongFalsely : Prop := packBoxesRow.holds Try.pinned (OpenSpec.ofChange packBoxesWrong)

/-- 'vergelaw13.PackOpens': WHATEVER THE INPUT: true; the input reads as it did. -/
def packOpensSpec : ChangeSpec := { name := "packOpens", fn := fun _ => fun
  | [d] => { results := [.lit (.bool true)], args := [d] }
  | _ => none }
def packOpensRow : OpenClaim := { program := "ytaecbapflpejmaa", sum := "9f7bbc42a6b29a7acd47a18ecd92e72d8085db451c9fb5f2ce89f838ece369e6", func := "verge/vergelaw13.PackOpens", spec := "packOpens", inPlace := ["math.Float64frombits", "math.Float64bits"], apart := false }
def PackOpensSaid : Prop := packOpensRow.holds Try.pinned (OpenSpec.ofChange packOpensSpec)

/-- ITS FALSE NEIGHBOUR: 'it returns false'. Refute it at one input. -/
def packOpensWrong : ChangeSpec := { name := "packOpens", fn := fun _ => fun
  | [d] => { results := [.lit (.bool false)], args := [d] }
  | _ => none }
def PackOpensWrongFalsely : Prop := packOpensRow.holds Try.pinned (OpenSpec.ofChange packOpensWrong)

/-- 'vergelaw13.PackParts': WHATEVER THE INPUT: true; the input reads as it did. -/
def packPartsSpec : ChangeSpec := { name := "packParts", fn := fun _ => fun
  | [d] => { results := [.lit (.bool true)], args := [d] }
  | _ => none }
def packPartsRow : OpenClaim := { program := "ytaecbapflpejmaa", sum := "9f7bbc42a6b29a7acd47a18ecd92e72d8085db451c9fb5f2ce89f838ece369e6", func := "verge/vergelaw13.PackParts", spec := "packParts", inPlace := ["math.Float64frombits", "math.Float64bits"], apart := false }
def PackPartsSaid : Prop := packPartsRow.holds Try.pinned (OpenSpec.ofChange packPartsSpec)

/-- ITS FALSE NEIGHBOUR: 'it returns false'. Refute it at one input. -/
def packPartsWrong : ChangeSpec := { name := "packParts", fn := fun _ => fun
  | [d] => { results := [.lit (.bool false)], args := [d] }
  | _ => none }
def PackPartsWrongFalsely : Prop := packPartsRow.holds Try.pinned (OpenSpec.ofChange packPartsWrong)

/-- 'vergelaw13.PackApart': WHATEVER THE INPUT: true; the input reads as it did. -/
def packApartSpec : ChangeSpec := { name := "packApart", fn := fun _ => fun
  | [d1, d2] => { results := [.lit (.bool true)], args := [d1, d2] }
  | _ => none }
def packApartRow : OpenClaim := { program := "ytaecbapflpejmaa", sum := "9f7bbc42a6b29a7acd47a18ecd92e72d8085db451c9fb5f2ce89f838ece369e6", func := "verge/vergelaw13.PackApart", spec := "packApart", inPlace := ["math.Float64frombits", "math.Float64bits"], apart := false }
def PackApartSaid : Prop := packApartRow.holds Try.pinned (OpenSpec.ofChange packApartSpec)

/-- ITS FALSE NEIGHBOUR: 'it returns false'. Refute it at one input. -/
def packApartWrong : ChangeSpec := { name := "packApart", fn := fun _ => fun
  | [d1, d2] => { results := [.lit (.bool false)], args := [d1, d2] }
  | _ => none }
def PackApartWrongFalsely : Prop := packApartRow.holds Try.pinned (OpenSpec.ofChange packApartWrong)

/- THE SECOND FORM. 'bulk': how many values and letters a reading holds, each counted each time it is reached (what is shared counts as often as it is met; a slice's spare places count too). A statement '..UptoSaid' is the law's where the arguments, and the package variables that the reading takes, are together of bulk at most 1048576: NARROWER than '..Said'. Prove '..Said' where nothing that the law and all that it calls make is longer than what came in: it says more and counts as full. Else prove '..UptoSaid'. A law counts once. -/
mutual
def uptoBulk {H : Type} : DataW H → Nat
  | .lit (.string bytes) => bytes.length + 1
  | .lit _ => 1
  | .nil => 1
  | .ptr d => uptoBulk d + 1
  | .slice elems spare => uptoBulkAll elems + uptoBulkAll spare + 1
  | .agg parts => uptoBulkAll parts + 1
  | .iface _ d => uptoBulk d + 1
  | .map entries => uptoBulkEntries entries + 1
  | .held _ => 1
def uptoBulkAll {H : Type} : List (DataW H) → Nat
  | [] => 0
  | d :: r => uptoBulk d + uptoBulkAll r
def uptoBulkEntries {H : Type} : List (Lit × DataW H) → Nat
  | [] => 0
  | x :: r => uptoBulkEntry x + uptoBulkEntries r
def uptoBulkEntry {H : Type} : Lit × DataW H → Nat
  | (.string bytes, d) => bytes.length + uptoBulk d + 1
  | (_, d) => uptoBulk d + 1
 end
def uptoSmall : (H : Type) → List (DataW H) → Bool := fun _ ds => decide (uptoBulkAll ds ≤ 1048576)
def OpenSpec.upto (s : _root_.Go.ChangeSpec) : _root_.Go.OpenSpec := { _root_.Go.OpenSpec.ofChange s with cond := some uptoSmall }

/-- 'vergelaw13.PackPuts', WHERE WHAT IT READS IS OF BULK AT MOST 1048576: true; the input reads as it did. -/
def packPutsUptoRow : OpenClaim := { program := "ytaecbapflpejmaa", sum := "9f7bbc42a6b29a7acd47a18ecd92e72d8085db451c9fb5f2ce89f838ece369e6", func := "verge/vergelaw13.PackPuts", spec := "packPuts", inPlace := ["math.Float64frombits", "math.Float64bits"], apart := false, narrowed := true }
def PackPutsUptoSaid : Prop := packPutsUptoRow.holds Try.pinned (OpenSpec.upto packPutsSpec)

/-- 'vergelaw13.PackBoxes', WHERE WHAT IT READS IS OF BULK AT MOST 1048576: true; the input reads as it did. -/
def packBoxesUptoRow : OpenClaim := { program := "ytaecbapflpejmaa", sum := "9f7bbc42a6b29a7acd47a18ecd92e72d8085db451c9fb5f2ce89f838ece369e6", func := "verge/vergelaw13.PackBoxes", spec := "packBoxes", inPlace := ["math.Float64frombits", "math.Float64bits"], apart := false, narrowed := true }
def PackBoxesUptoSaid : Prop := packBoxesUptoRow.holds Try.pinned (OpenSpec.upto packBoxesSpec)

/-- 'vergelaw13.PackOpens', WHERE WHAT IT READS IS OF BULK AT MOST 1048576: true; the input reads as it did. -/
def packOpensUptoRow : OpenClaim := { program := "ytaecbapflpejmaa", sum := "9f7bbc42a6b29a7acd47a18ecd92e72d8085db451c9fb5f2ce89f838ece369e6", func := "verge/vergelaw13.PackOpens", spec := "packOpens", inPlace := ["math.Float64frombits", "math.Float64bits"], apart := false, narrowed := true }
def PackOpensUptoSaid : Prop := packOpensUptoRow.holds Try.pinned (OpenSpec.upto packOpensSpec)

/-- 'vergelaw13.PackParts', WHERE WHAT IT READS IS OF BULK AT MOST 1048576: true; the input reads as it did. -/
def packPartsUptoRow : OpenClaim := { program := "ytaecbapflpejmaa", sum := "9f7bbc42a6b29a7acd47a18ecd92e72d8085db451c9fb5f2ce89f838ece369e6", func := "verge/vergelaw13.PackParts", spec := "packParts", inPlace := ["math.Float64frombits", "math.Float64bits"], apart := false, narrowed := true }
def PackPartsUptoSaid : Prop := packPartsUptoRow.holds Try.pinned (OpenSpec.upto packPartsSpec)

/-- 'vergelaw13.PackApart', WHERE WHAT IT READS IS OF BULK AT MOST 1048576: true; the input reads as it did. -/
def packApartUptoRow : OpenClaim := { program := "ytaecbapflpejmaa", sum := "9f7bbc42a6b29a7acd47a18ecd92e72d8085db451c9fb5f2ce89f838ece369e6", func := "verge/vergelaw13.PackApart", spec := "packApart", inPlace := ["math.Float64frombits", "math.Float64bits"], apart := false, narrowed := true }
def PackApartUptoSaid : Prop := packApartUptoRow.holds Try.pinned (OpenSpec.upto packApartSpec)

end Rows
end Go.Proofs.Ytaecbapflpejmaa

/-
  No cell of these rows narrows 'for every input' (looked for: loops, veiled, ifaces, maps, wideKeys, modest, calm, conditions, laid).
  DERIVED. THE GIVEN ROWS OF THIS SEAT. 16 by the template 'for every input the law returns true; each argument reads behind the call as it read before'; 0 by the template 'total and deterministic' (their statements: YtgehcnlfplcaaaaTotals.lean).
  GIVEN WITH THE SEED: the statements are not yours to turn. If you find one false, say at which input.
  Laid BY PROGRAM, IN A SANDBOX (cutbox-rows.mjs): the forced cells as the released guide's own fill.sh prints them over the translation 9c9bb837db6da79e… (all of the seat's roots in one cut). By AI agents, Wed Nov 11 2026. No macro, syntax, notation, axiom, sorry.
-/
import Derived.Test.YtgehcnlfplcaaaaChecked
import GoSem.Claim
import GoSem.ClaimJoined
import GoSem.ClaimMapViews
import Derived.JoinedTies
import Derived.KernelRfl
namespace Go.Proofs.Ytgehcnlfplcaaaa
/- THE CELL 'sum', in the pinned program and in every row, IS THE sha256 OF THE DUMP (.gsa) THAT YtgehcnlfplcaaaaProg.lean LOADS. Nothing in Lean hashes anything: it is a label: what it is worth is what the hold of that sum in a sandbox is worth. -/
noncomputable def Try.pinned : Pinned := { name := "ytgehcnlfplcaaaa", sum := "9c9bb837db6da79e9af9a8db1af3421c9ad867b0173c7c8fabf5f7e9d272e30d", checked := Try.checked }
namespace Rows
def none {H : Type} : Left H := { results := [], args := [] }

/-- 'vergelaw1.FbitPlain': WHATEVER THE INPUT: true; the input reads as it did. -/
def fbitPlainSpec : ChangeSpec := { name := "fbitPlain", fn := fun _ => fun
  | [d1, d2] => { results := [.lit (.bool true)], args := [d1, d2] }
  | _ => none }
def fbitPlainRow : OpenClaim := { program := "ytgehcnlfplcaaaa", sum := "9c9bb837db6da79e9af9a8db1af3421c9ad867b0173c7c8fabf5f7e9d272e30d", func := "verge/vergelaw1.FbitPlain", spec := "fbitPlain", inPlace := ["math.Float64frombits", "math.Float64bits", "math.Float32frombits", "math.Float32bits"], apart := false }
def FbitPlainSaid : Prop := fbitPlainRow.holds Try.pinned (OpenSpec.ofChange fbitPlainSpec)

/-- ITS FALSE NEIGHBOUR: 'it returns false'. Refute it at one input. -/
def fbitPlainWrong : ChangeSpec := { name := "fbitPlain", fn := fun _ => fun
  | [d1, d2] => { results := [.lit (.bool false)], args := [d1, d2] }
  | _ => none }
def FbitPlainWrongFalsely : Prop := fbitPlainRow.holds Try.pinned (OpenSpec.ofChange fbitPlainWrong)

/-- 'vergelaw1.FbitWholes': WHATEVER THE INPUT: true; the input reads as it did. -/
def fbitWholesSpec : ChangeSpec := { name := "fbitWholes", fn := fun _ => fun
  | [d1, d2] => { results := [.lit (.bool true)], args := [d1, d2] }
  | _ => none }
def fbitWholesRow : OpenClaim := { program := "ytgehcnlfplcaaaa", sum := "9c9bb837db6da79e9af9a8db1af3421c9ad867b0173c7c8fabf5f7e9d272e30d", func := "verge/vergelaw1.FbitWholes", spec := "fbitWholes", inPlace := ["math.Float64frombits", "math.Float32frombits"], apart := false }
def FbitWholesSaid : Prop := fbitWholesRow.holds Try.pinned (OpenSpec.ofChange fbitWholesSpec)

/-- ITS FALSE NEIGHBOUR: 'it returns false'. Refute it at one input. -/
def fbitWholesWrong : ChangeSpec := { name := "fbitWholes", fn := fun _ => fun
  | [d1, d2] => { results := [.lit (.bool false)], args := [d1, d2] }
  | _ => none }
def FbitWholesWrongFalsely : Prop := fbitWholesRow.holds Try.pinned (OpenSpec.ofChange fbitWholesWrong)

/-- 'vergelaw1.FbitOfs': WHATEVER THE INPUT: true; the input reads as it did. -/
def fbitOfsSpec : ChangeSpec := { name := "fbitOfs", fn := fun _ => fun
  | [d] => { results := [.lit (.bool true)], args := [d] }
  | _ => none }
def fbitOfsRow : OpenClaim := { program := "ytgehcnlfplcaaaa", sum := "9c9bb837db6da79e9af9a8db1af3421c9ad867b0173c7c8fabf5f7e9d272e30d", func := "verge/vergelaw1.FbitOfs", spec := "fbitOfs", inPlace := ["math.Float64bits", "math.Float32bits"], apart := false }
def FbitOfsSaid : Prop := fbitOfsRow.holds Try.pinned (OpenSpec.ofChange fbitOfsSpec)

/-- ITS FALSE NEIGHBOUR: 'it returns false'. Refute it at one input. -/
def fbitOfsWrong : ChangeSpec := { name := "fbitOfs", fn := fun _ => fun
  | [d] => { results := [.lit (.bool false)], args := [d] }
  | _ => none }
def FbitOfsWrongFalsely : Prop := fbitOfsRow.holds Try.pinned (OpenSpec.ofChange fbitOfsWrong)

/-- 'vergelaw1.FbitAts': WHATEVER THE INPUT: true; the input reads as it did. -/
def fbitAtsSpec : ChangeSpec := { name := "fbitAts", fn := fun _ => fun
  | [d] => { results := [.lit (.bool true)], args := [d] }
  | _ => none }
def fbitAtsRow : OpenClaim := { program := "ytgehcnlfplcaaaa", sum := "9c9bb837db6da79e9af9a8db1af3421c9ad867b0173c7c8fabf5f7e9d272e30d", func := "verge/vergelaw1.FbitAts", spec := "fbitAts", inPlace := ["math.Float32frombits", "math.Float64frombits", "math.Float64bits", "math.Float32bits"], apart := false }
def FbitAtsSaid : Prop := fbitAtsRow.holds Try.pinned (OpenSpec.ofChange fbitAtsSpec)

/-- ITS FALSE NEIGHBOUR: 'it returns false'. Refute it at one input. -/
def fbitAtsWrong : ChangeSpec := { name := "fbitAts", fn := fun _ => fun
  | [d] => { results := [.lit (.bool false)], args := [d] }
  | _ => none }
def FbitAtsWrongFalsely : Prop := fbitAtsRow.holds Try.pinned (OpenSpec.ofChange fbitAtsWrong)

/-- 'vergelaw1.FbitPlaces': WHATEVER THE INPUT: true; the input reads as it did. -/
def fbitPlacesSpec : ChangeSpec := { name := "fbitPlaces", fn := fun _ => fun
  | [d1, d2] => { results := [.lit (.bool true)], args := [d1, d2] }
  | _ => none }
def fbitPlacesRow : OpenClaim := { program := "ytgehcnlfplcaaaa", sum := "9c9bb837db6da79e9af9a8db1af3421c9ad867b0173c7c8fabf5f7e9d272e30d", func := "verge/vergelaw1.FbitPlaces", spec := "fbitPlaces", inPlace := ["math.Float64frombits", "math.Float32bits", "math.Float64bits", "math.Float32frombits"], apart := false }
def FbitPlacesSaid : Prop := fbitPlacesRow.holds Try.pinned (OpenSpec.ofChange fbitPlacesSpec)

/-- ITS FALSE NEIGHBOUR: 'it returns false'. Refute it at one input. -/
def fbitPlacesWrong : ChangeSpec := { name := "fbitPlaces", fn := fun _ => fun
  | [d1, d2] => { results := [.lit (.bool false)], args := [d1, d2] }
  | _ => none }
def FbitPlacesWrongFalsely : Prop := fbitPlacesRow.holds Try.pinned (OpenSpec.ofChange fbitPlacesWrong)

/-- 'vergelaw1.FbitSplits': WHATEVER THE INPUT: true; the input reads as it did. -/
def fbitSplitsSpec : ChangeSpec := { name := "fbitSplits", fn := fun _ => fun
  | [d1, d2] => { results := [.lit (.bool true)], args := [d1, d2] }
  | _ => none }
def fbitSplitsRow : OpenClaim := { program := "ytgehcnlfplcaaaa", sum := "9c9bb837db6da79e9af9a8db1af3421c9ad867b0173c7c8fabf5f7e9d272e30d", func := "verge/vergelaw1.FbitSplits", spec := "fbitSplits", inPlace := ["math.Float64frombits", "math.Float32bits", "math.Float64bits", "math.Float32frombits"], apart := false }
def FbitSplitsSaid : Prop := fbitSplitsRow.holds Try.pinned (OpenSpec.ofChange fbitSplitsSpec)

/-- ITS FALSE NEIGHBOUR: 'it returns false'. Refute it at one input. -/
def fbitSplitsWrong : ChangeSpec := { name := "fbitSplits", fn := fun _ => fun
  | [d1, d2] => { results := [.lit (.bool false)], args := [d1, d2] }
  | _ => none }
def FbitSplitsWrongFalsely : Prop := fbitSplitsRow.holds Try.pinned (OpenSpec.ofChange fbitSplitsWrong)

/-- 'vergelaw1.FbitNames': WHATEVER THE INPUT: true; the input reads as it did. -/
def fbitNamesSpec : ChangeSpec := { name := "fbitNames", fn := fun _ => fun
  | [] => { results := [.lit (.bool true)], args := [] }
  | _ => none }
def fbitNamesRow : OpenClaim := { program := "ytgehcnlfplcaaaa", sum := "9c9bb837db6da79e9af9a8db1af3421c9ad867b0173c7c8fabf5f7e9d272e30d", func := "verge/vergelaw1.FbitNames", spec := "fbitNames", inPlace := ["math.Float32bits", "math.Float64bits"], apart := false }
def FbitNamesSaid : Prop := fbitNamesRow.holds Try.pinned (OpenSpec.ofChange fbitNamesSpec)

/-- ITS FALSE NEIGHBOUR: 'it returns false'. Refute it at one input. -/
def fbitNamesWrong : ChangeSpec := { name := "fbitNames", fn := fun _ => fun
  | [] => { results := [.lit (.bool false)], args := [] }
  | _ => none }
def FbitNamesWrongFalsely : Prop := fbitNamesRow.holds Try.pinned (OpenSpec.ofChange fbitNamesWrong)

/-- 'vergelaw1.FbitClasses': WHATEVER THE INPUT: true; the input reads as it did. -/
def fbitClassesSpec : ChangeSpec := { name := "fbitClasses", fn := fun _ => fun
  | [d1, d2] => { results := [.lit (.bool true)], args := [d1, d2] }
  | _ => none }
def fbitClassesRow : OpenClaim := { program := "ytgehcnlfplcaaaa", sum := "9c9bb837db6da79e9af9a8db1af3421c9ad867b0173c7c8fabf5f7e9d272e30d", func := "verge/vergelaw1.FbitClasses", spec := "fbitClasses", inPlace := ["math.Float64frombits", "math.Float32bits", "math.Float64bits", "math.Float32frombits"], apart := false }
def FbitClassesSaid : Prop := fbitClassesRow.holds Try.pinned (OpenSpec.ofChange fbitClassesSpec)

/-- ITS FALSE NEIGHBOUR: 'it returns false'. Refute it at one input. -/
def fbitClassesWrong : ChangeSpec := { name := "fbitClasses", fn := fun _ => fun
  | [d1, d2] => { results := [.lit (.bool false)], args := [d1, d2] }
  | _ => none }
def FbitClassesWrongFalsely : Prop := fbitClassesRow.holds Try.pinned (OpenSpec.ofChange fbitClassesWrong)

/-- 'vergelaw1.FbitSteps': WHATEVER THE INPUT: true; the input reads as it did. -/
def fbitStepsSpec : ChangeSpec := { name := "fbitSteps", fn := fun _ => fun
  | [d] => { results := [.lit (.bool true)], args := [d] }
  | _ => none }
def fbitStepsRow : OpenClaim := { program := "ytgehcnlfplcaaaa", sum := "9c9bb837db6da79e9af9a8db1af3421c9ad867b0173c7c8fabf5f7e9d272e30d", func := "verge/vergelaw1.FbitSteps", spec := "fbitSteps", inPlace := ["math.Float64frombits", "math.Float32bits", "math.Float64bits", "math.Float32frombits"], apart := false }
def FbitStepsSaid : Prop := fbitStepsRow.holds Try.pinned (OpenSpec.ofChange fbitStepsSpec)

/-- ITS FALSE NEIGHBOUR: 'it returns false'. Refute it at one input. -/
def fbitStepsWrong : ChangeSpec := { name := "fbitSteps", fn := fun _ => fun
  | [d] => { results := [.lit (.bool false)], args := [d] }
  | _ => none }
def FbitStepsWrongFalsely : Prop := fbitStepsRow.holds Try.pinned (OpenSpec.ofChange fbitStepsWrong)

/-- 'vergelaw1.FbitNexts': WHATEVER THE INPUT: true; the input reads as it did. -/
def fbitNextsSpec : ChangeSpec := { name := "fbitNexts", fn := fun _ => fun
  | [d1, d2] => { results := [.lit (.bool true)], args := [d1, d2] }
  | _ => none }
def fbitNextsRow : OpenClaim := { program := "ytgehcnlfplcaaaa", sum := "9c9bb837db6da79e9af9a8db1af3421c9ad867b0173c7c8fabf5f7e9d272e30d", func := "verge/vergelaw1.FbitNexts", spec := "fbitNexts", inPlace := ["math.Float64frombits", "math.Float32bits", "math.Float64bits", "math.Float32frombits"], apart := false }
def FbitNextsSaid : Prop := fbitNextsRow.holds Try.pinned (OpenSpec.ofChange fbitNextsSpec)

/-- ITS FALSE NEIGHBOUR: 'it returns false'. Refute it at one input. -/
def fbitNextsWrong : ChangeSpec := { name := "fbitNexts", fn := fun _ => fun
  | [d1, d2] => { results := [.lit (.bool false)], args := [d1, d2] }
  | _ => none }
def FbitNextsWrongFalsely : Prop := fbitNextsRow.holds Try.pinned (OpenSpec.ofChange fbitNextsWrong)

/-- 'vergelaw1.FbitNeighbours': WHATEVER THE INPUT: true; the input reads as it did. -/
def fbitNeighboursSpec : ChangeSpec := { name := "fbitNeighbours", fn := fun _ => fun
  | [d] => { results := [.lit (.bool true)], args := [d] }
  | _ => none }
def fbitNeighboursRow : OpenClaim := { program := "ytgehcnlfplcaaaa", sum := "9c9bb837db6da79e9af9a8db1af3421c9ad867b0173c7c8fabf5f7e9d272e30d", func := "verge/vergelaw1.FbitNeighbours", spec := "fbitNeighbours", inPlace := ["math.Float32bits", "math.Float64bits", "math.Float32frombits", "math.Float64frombits"], apart := false }
def FbitNeighboursSaid : Prop := fbitNeighboursRow.holds Try.pinned (OpenSpec.ofChange fbitNeighboursSpec)

/-- ITS FALSE NEIGHBOUR: 'it returns false'. Refute it at one input. -/
def fbitNeighboursWrong : ChangeSpec := { name := "fbitNeighbours", fn := fun _ => fun
  | [d] => { results := [.lit (.bool false)], args := [d] }
  | _ => none }
def FbitNeighboursWrongFalsely : Prop := fbitNeighboursRow.holds Try.pinned (OpenSpec.ofChange fbitNeighboursWrong)

/-- 'vergelaw1.FbitOrders': WHATEVER THE INPUT: true; the input reads as it did. -/
def fbitOrdersSpec : ChangeSpec := { name := "fbitOrders", fn := fun _ => fun
  | [d] => { results := [.lit (.bool true)], args := [d] }
  | _ => none }
def fbitOrdersRow : OpenClaim := { program := "ytgehcnlfplcaaaa", sum := "9c9bb837db6da79e9af9a8db1af3421c9ad867b0173c7c8fabf5f7e9d272e30d", func := "verge/vergelaw1.FbitOrders", spec := "fbitOrders", inPlace := ["math.Float64frombits", "math.Float32bits", "math.Float64bits", "math.Float32frombits"], apart := false }
def FbitOrdersSaid : Prop := fbitOrdersRow.holds Try.pinned (OpenSpec.ofChange fbitOrdersSpec)

/-- ITS FALSE NEIGHBOUR: 'it returns false'. Refute it at one input. -/
def fbitOrdersWrong : ChangeSpec := { name := "fbitOrders", fn := fun _ => fun
  | [d] => { results := [.lit (.bool false)], args := [d] }
  | _ => none }
def FbitOrdersWrongFalsely : Prop := fbitOrdersRow.holds Try.pinned (OpenSpec.ofChange fbitOrdersWrong)

/-- 'vergelaw1.FbitAdds': WHATEVER THE INPUT: true; the input reads as it did. -/
def fbitAddsSpec : ChangeSpec := { name := "fbitAdds", fn := fun _ => fun
  | [d1, d2] => { results := [.lit (.bool true)], args := [d1, d2] }
  | _ => none }
def fbitAddsRow : OpenClaim := { program := "ytgehcnlfplcaaaa", sum := "9c9bb837db6da79e9af9a8db1af3421c9ad867b0173c7c8fabf5f7e9d272e30d", func := "verge/vergelaw1.FbitAdds", spec := "fbitAdds", inPlace := ["math.Float32bits", "math.Float64bits", "math.Float64frombits", "math.Float32frombits"], apart := false }
def FbitAddsSaid : Prop := fbitAddsRow.holds Try.pinned (OpenSpec.ofChange fbitAddsSpec)

/-- ITS FALSE NEIGHBOUR: 'it returns false'. Refute it at one input. -/
def fbitAddsWrong : ChangeSpec := { name := "fbitAdds", fn := fun _ => fun
  | [d1, d2] => { results := [.lit (.bool false)], args := [d1, d2] }
  | _ => none }
def FbitAddsWrongFalsely : Prop := fbitAddsRow.holds Try.pinned (OpenSpec.ofChange fbitAddsWrong)

/-- 'vergelaw1.FbitNearest': WHATEVER THE INPUT: true; the input reads as it did. -/
def fbitNearestSpec : ChangeSpec := { name := "fbitNearest", fn := fun _ => fun
  | [d1, d2] => { results := [.lit (.bool true)], args := [d1, d2] }
  | _ => none }
def fbitNearestRow : OpenClaim := { program := "ytgehcnlfplcaaaa", sum := "9c9bb837db6da79e9af9a8db1af3421c9ad867b0173c7c8fabf5f7e9d272e30d", func := "verge/vergelaw1.FbitNearest", spec := "fbitNearest", inPlace := ["math.Float32bits", "math.Float64bits", "math.Float32frombits", "math.Float64frombits"], apart := false }
def FbitNearestSaid : Prop := fbitNearestRow.holds Try.pinned (OpenSpec.ofChange fbitNearestSpec)

/-- ITS FALSE NEIGHBOUR: 'it returns false'. Refute it at one input. -/
def fbitNearestWrong : ChangeSpec := { name := "fbitNearest", fn := fun _ => fun
  | [d1, d2] => { results := [.lit (.bool false)], args := [d1, d2] }
  | _ => none }
def FbitNearestWrongFalsely : Prop := fbitNearestRow.holds Try.pinned (OpenSpec.ofChange fbitNearestWrong)

/-- 'vergelaw1.FbitCounts': WHATEVER THE INPUT: true; the input reads as it did. -/
def fbitCountsSpec : ChangeSpec := { name := "fbitCounts", fn := fun _ => fun
  | [d] => { results := [.lit (.bool true)], args := [d] }
  | _ => none }
def fbitCountsRow : OpenClaim := { program := "ytgehcnlfplcaaaa", sum := "9c9bb837db6da79e9af9a8db1af3421c9ad867b0173c7c8fabf5f7e9d272e30d", func := "verge/vergelaw1.FbitCounts", spec := "fbitCounts", inPlace := ["math.Float32bits", "math.Float64bits", "math.Float64frombits", "math.Float32frombits"], apart := false }
def FbitCountsSaid : Prop := fbitCountsRow.holds Try.pinned (OpenSpec.ofChange fbitCountsSpec)

/-- ITS FALSE NEIGHBOUR: 'it returns false'. Refute it at one input. -/
def fbitCountsWrong : ChangeSpec := { name := "fbitCounts", fn := fun _ => fun
  | [d] => { results := [.lit (.bool false)], args := [d] }
  | _ => none }
def FbitCountsWrongFalsely : Prop := fbitCountsRow.holds Try.pinned (OpenSpec.ofChange fbitCountsWrong)

/-- 'vergelaw1.FbitRanks': WHATEVER THE INPUT: true; the input reads as it did. -/
def fbitRanksSpec : ChangeSpec := { name := "fbitRanks", fn := fun _ => fun
  | [d1, d2] => { results := [.lit (.bool true)], args := [d1, d2] }
  | _ => none }
def fbitRanksRow : OpenClaim := { program := "ytgehcnlfplcaaaa", sum := "9c9bb837db6da79e9af9a8db1af3421c9ad867b0173c7c8fabf5f7e9d272e30d", func := "verge/vergelaw1.FbitRanks", spec := "fbitRanks", inPlace := ["math.Float32bits", "math.Float64bits", "math.Float32frombits", "math.Float64frombits"], apart := false }
def FbitRanksSaid : Prop := fbitRanksRow.holds Try.pinned (OpenSpec.ofChange fbitRanksSpec)

/-- ITS FALSE NEIGHBOUR: 'it returns false'. Refute it at one input. -/
def fbitRanksWrong : ChangeSpec := { name := "fbitRanks", fn := fun _ => fun
  | [d1, d2] => { results := [.lit (.bool false)], args := [d1, d2] }
  | _ => none }
def FbitRanksWrongFalsely : Prop := fbitRanksRow.holds Try.pinned (OpenSpec.ofChange fbitRanksWrong)

/- THE SECOND FORM. 'bulk': how many values and letters a reading holds, each counted each time it is reached (what is shared counts as often as it is met; a slice's spare places count too). A statement '..UptoSaid' is the law's where the arguments, and the package variables that the reading takes, are together of bulk at most 1048576: NARROWER than '..Said'. Prove '..Said' where nothing that the law and all that it calls make is longer than what came in: it says more and counts as full. Else prove '..UptoSaid'. A law counts once. -/
mutual
def uptoBulk {H : Type} : DataW H → Nat
  | .lit (.string bytes) => bytes.length + 1
  | .lit _ => 1
  | .nil => 1
  | .ptr d => uptoBulk d + 1
  | .slice elems spare => uptoBulkAll elems + uptoBulkAll spare + 1
  | .agg parts => uptoBulkAll parts + 1
  | .iface _ d => uptoBulk d + 1
  | .map entries => uptoBulkEntries entries + 1
  | .held _ => 1
def uptoBulkAll {H : Type} : List (DataW H) → Nat
  | [] => 0
  | d :: r => uptoBulk d + uptoBulkAll r
def uptoBulkEntries {H : Type} : List (Lit × DataW H) → Nat
  | [] => 0
  | x :: r => uptoBulkEntry x + uptoBulkEntries r
def uptoBulkEntry {H : Type} : Lit × DataW H → Nat
  | (.string bytes, d) => bytes.length + uptoBulk d + 1
  | (_, d) => uptoBulk d + 1
 end
def uptoSmall : (H : Type) → List (DataW H) → Bool := fun _ ds => decide (uptoBulkAll ds ≤ 1048576)
def OpenSpec.upto (s : _root_.Go.ChangeSpec) : _root_.Go.OpenSpec := { _root_.Go.OpenSpec.ofChange s with cond := some uptoSmall }

/-- 'vergelaw1.FbitPlain', WHERE WHAT IT READS IS OF BULK AT MOST 1048576: true; the input reads as it did. -/
def fbitPlainUptoRow : OpenClaim := { program := "ytgehcnlfplcaaaa", sum := "9c9bb837db6da79e9af9a8db1af3421c9ad867b0173c7c8fabf5f7e9d272e30d", func := "verge/vergelaw1.FbitPlain", spec := "fbitPlain", inPlace := ["math.Float64frombits", "math.Float64bits", "math.Float32frombits", "math.Float32bits"], apart := false, narrowed := true }
def FbitPlainUptoSaid : Prop := fbitPlainUptoRow.holds Try.pinned (OpenSpec.upto fbitPlainSpec)

/-- 'vergelaw1.FbitWholes', WHERE WHAT IT READS IS OF BULK AT MOST 1048576: true; the input reads as it did. -/
def fbitWholesUptoRow : OpenClaim := { program := "ytgehcnlfplcaaaa", sum := "9c9bb837db6da79e9af9a8db1af3421c9ad867b0173c7c8fabf5f7e9d272e30d", func := "verge/vergelaw1.FbitWholes", spec := "fbitWholes", inPlace := ["math.Float64frombits", "math.Float32frombits"], apart := false, narrowed := true }
def FbitWholesUptoSaid : Prop := fbitWholesUptoRow.holds Try.pinned (OpenSpec.upto fbitWholesSpec)

/-- 'vergelaw1.FbitOfs', WHERE WHAT IT READS IS OF BULK AT MOST 1048576: true; the input reads as it did. -/
def fbitOfsUptoRow : OpenClaim := { program := "ytgehcnlfplcaaaa", sum := "9c9bb837db6da79e9af9a8db1af3421c9ad867b0173c7c8fabf5f7e9d272e30d", func := "verge/vergelaw1.FbitOfs", spec := "fbitOfs", inPlace := ["math.Float64bits", "math.Float32bits"], apart := false, narrowed := true }
def FbitOfsUptoSaid : Prop := fbitOfsUptoRow.holds Try.pinned (OpenSpec.upto fbitOfsSpec)

/-- 'vergelaw1.FbitAts', WHERE WHAT IT READS IS OF BULK AT MOST 1048576: true; the input reads as it did. -/
def fbitAtsUptoRow : OpenClaim := { program := "ytgehcnlfplcaaaa", sum := "9c9bb837db6da79e9af9a8db1af3421c9ad867b0173c7c8fabf5f7e9d272e30d", func := "verge/vergelaw1.FbitAts", spec := "fbitAts", inPlace := ["math.Float32frombits", "math.Float64frombits", "math.Float64bits", "math.Float32bits"], apart := false, narrowed := true }
def FbitAtsUptoSaid : Prop := fbitAtsUptoRow.holds Try.pinned (OpenSpec.upto fbitAtsSpec)

/-- 'vergelaw1.FbitPlaces', WHERE WHAT IT READS IS OF BULK AT MOST 1048576: true; the input reads as it did. -/
def fbitPlacesUptoRow : OpenClaim := { program := "ytgehcnlfplcaaaa", sum := "9c9bb837db6da79e9af9a8db1af3421c9ad867b0173c7c8fabf5f7e9d272e30d", func := "verge/vergelaw1.FbitPlaces", spec := "fbitPlaces", inPlace := ["math.Float64frombits", "math.Float32bits", "math.Float64bits", "math.Float32frombits"], apart := false, narrowed := true }
def FbitPlacesUptoSaid : Prop := fbitPlacesUptoRow.holds Try.pinned (OpenSpec.upto fbitPlacesSpec)

/-- 'vergelaw1.FbitSplits', WHERE WHAT IT READS IS OF BULK AT MOST 1048576: true; the input reads as it did. -/
def fbitSplitsUptoRow : OpenClaim := { program := "ytgehcnlfplcaaaa", sum := "9c9bb837db6da79e9af9a8db1af3421c9ad867b0173c7c8fabf5f7e9d272e30d", func := "verge/vergelaw1.FbitSplits", spec := "fbitSplits", inPlace := ["math.Float64frombits", "math.Float32bits", "math.Float64bits", "math.Float32frombits"], apart := false, narrowed := true }
def FbitSplitsUptoSaid : Prop := fbitSplitsUptoRow.holds Try.pinned (OpenSpec.upto fbitSplitsSpec)

/-- 'vergelaw1.FbitNames', WHERE WHAT IT READS IS OF BULK AT MOST 1048576: true; the input reads as it did. -/
def fbitNamesUptoRow : OpenClaim := { program := "ytgehcnlfplcaaaa", sum := "9c9bb837db6da79e9af9a8db1af3421c9ad867b0173c7c8fabf5f7e9d272e30d", func := "verge/vergelaw1.FbitNames", spec := "fbitNames", inPlace := ["math.Float32bits", "math.Float64bits"], apart := false, narrowed := true }
def FbitNamesUptoSaid : Prop := fbitNamesUptoRow.holds Try.pinned (OpenSpec.upto fbitNamesSpec)

/-- 'vergelaw1.FbitClasses', WHERE WHAT IT READS IS OF BULK AT MOST 1048576: true; the input reads as it did. -/
def fbitClassesUptoRow : OpenClaim := { program := "ytgehcnlfplcaaaa", sum := "9c9bb837db6da79e9af9a8db1af3421c9ad867b0173c7c8fabf5f7e9d272e30d", func := "verge/vergelaw1.FbitClasses", spec := "fbitClasses", inPlace := ["math.Float64frombits", "math.Float32bits", "math.Float64bits", "math.Float32frombits"], apart := false, narrowed := true }
def FbitClassesUptoSaid : Prop := fbitClassesUptoRow.holds Try.pinned (OpenSpec.upto fbitClassesSpec)

/-- 'vergelaw1.FbitSteps', WHERE WHAT IT READS IS OF BULK AT MOST 1048576: true; the input reads as it did. -/
def fbitStepsUptoRow : OpenClaim := { program := "ytgehcnlfplcaaaa", sum := "9c9bb837db6da79e9af9a8db1af3421c9ad867b0173c7c8fabf5f7e9d272e30d", func := "verge/vergelaw1.FbitSteps", spec := "fbitSteps", inPlace := ["math.Float64frombits", "math.Float32bits", "math.Float64bits", "math.Float32frombits"], apart := false, narrowed := true }
def FbitStepsUptoSaid : Prop := fbitStepsUptoRow.holds Try.pinned (OpenSpec.upto fbitStepsSpec)

/-- 'vergelaw1.FbitNexts', WHERE WHAT IT READS IS OF BULK AT MOST 1048576: true; the input reads as it did. -/
def fbitNextsUptoRow : OpenClaim := { program := "ytgehcnlfplcaaaa", sum := "9c9bb837db6da79e9af9a8db1af3421c9ad867b0173c7c8fabf5f7e9d272e30d", func := "verge/vergelaw1.FbitNexts", spec := "fbitNexts", inPlace := ["math.Float64frombits", "math.Float32bits", "math.Float64bits", "math.Float32frombits"], apart := false, narrowed := true }
def FbitNextsUptoSaid : Prop := fbitNextsUptoRow.holds Try.pinned (OpenSpec.upto fbitNextsSpec)

/-- 'vergelaw1.FbitNeighbours', WHERE WHAT IT READS IS OF BULK AT MOST 1048576: true; the input reads as it did. -/
def fbitNeighboursUptoRow : OpenClaim := { program := "ytgehcnlfplcaaaa", sum := "9c9bb837db6da79e9af9a8db1af3421c9ad867b0173c7c8fabf5f7e9d272e30d", func := "verge/vergelaw1.FbitNeighbours", spec := "fbitNeighbours", inPlace := ["math.Float32bits", "math.Float64bits", "math.Float32frombits", "math.Float64frombits"], apart := false, narrowed := true }
def FbitNeighboursUptoSaid : Prop := fbitNeighboursUptoRow.holds Try.pinned (OpenSpec.upto fbitNeighboursSpec)

/-- 'vergelaw1.FbitOrders', WHERE WHAT IT READS IS OF BULK AT MOST 1048576: true; the input reads as it did. -/
def fbitOrdersUptoRow : OpenClaim := { program := "ytgehcnlfplcaaaa", sum := "9c9bb837db6da79e9af9a8db1af3421c9ad867b0173c7c8fabf5f7e9d272e30d", func := "verge/vergelaw1.FbitOrders", spec := "fbitOrders", inPlace := ["math.Float64frombits", "math.Float32bits", "math.Float64bits", "math.Float32frombits"], apart := false, narrowed := true }
def FbitOrdersUptoSaid : Prop := fbitOrdersUptoRow.holds Try.pinned (OpenSpec.upto fbitOrdersSpec)

/-- 'vergelaw1.FbitAdds', WHERE WHAT IT READS IS OF BULK AT MOST 1048576: true; the input reads as it did. -/
def fbitAddsUptoRow : OpenClaim := { program := "ytgehcnlfplcaaaa", sum := "9c9bb837db6da79e9af9a8db1af3421c9ad867b0173c7c8fabf5f7e9d272e30d", func := "verge/vergelaw1.FbitAdds", spec := "fbitAdds", inPlace := ["math.Float32bits", "math.Float64bits", "math.Float64frombits", "math.Float32frombits"], apart := false, narrowed := true }
def FbitAddsUptoSaid : Prop := fbitAddsUptoRow.holds Try.pinned (OpenSpec.upto fbitAddsSpec)

/-- 'vergelaw1.FbitNearest', WHERE WHAT IT READS IS OF BULK AT MOST 1048576: true; the input reads as it did. -/
def fbitNearestUptoRow : OpenClaim := { program := "ytgehcnlfplcaaaa", sum := "9c9bb837db6da79e9af9a8db1af3421c9ad867b0173c7c8fabf5f7e9d272e30d", func := "verge/vergelaw1.FbitNearest", spec := "fbitNearest", inPlace := ["math.Float32bits", "math.Float64bits", "math.Float32frombits", "math.Float64frombits"], apart := false, narrowed := true }
def FbitNearestUptoSaid : Prop := fbitNearestUptoRow.holds Try.pinned (OpenSpec.upto fbitNearestSpec)

/-- 'vergelaw1.FbitCounts', WHERE WHAT IT READS IS OF BULK AT MOST 1048576: true; the input reads as it did. -/
def fbitCountsUptoRow : OpenClaim := { program := "ytgehcnlfplcaaaa", sum := "9c9bb837db6da79e9af9a8db1af3421c9ad867b0173c7c8fabf5f7e9d272e30d", func := "verge/vergelaw1.FbitCounts", spec := "fbitCounts", inPlace := ["math.Float32bits", "math.Float64bits", "math.Float64frombits", "math.Float32frombits"], apart := false, narrowed := true }
def FbitCountsUptoSaid : Prop := fbitCountsUptoRow.holds Try.pinned (OpenSpec.upto fbitCountsSpec)

/-- 'vergelaw1.FbitRanks', WHERE WHAT IT READS IS OF BULK AT MOST 1048576: true; the input reads as it did. -/
def fbitRanksUptoRow : OpenClaim := { program := "ytgehcnlfplcaaaa", sum := "9c9bb837db6da79e9af9a8db1af3421c9ad867b0173c7c8fabf5f7e9d272e30d", func := "verge/vergelaw1.FbitRanks", spec := "fbitRanks", inPlace := ["math.Float32bits", "math.Float64bits", "math.Float32frombits", "math.Float64frombits"], apart := false, narrowed := true }
def FbitRanksUptoSaid : Prop := fbitRanksUptoRow.holds Try.pinned (OpenSpec.upto fbitRanksSpec)

end Rows
end Go.Proofs.Ytgehcnlfplcaaaa

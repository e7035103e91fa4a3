/-
  No cell of these rows narrows 'for every input' (looked for: loops, veiled, ifaces, maps, wideKeys, modest, calm, conditions, laid).
  DERIVED. THE GIVEN ROWS OF THIS SEAT. 16 by the template 'for every input the law returns true; each argument reads behind the call as it read before'; 0 by the template 'total and deterministic' (their statements: YtljnadoodbninaaTotals.lean).
  GIVEN WITH THE SEED: the statements are not yours to turn. If you find one false, say at which input.
  Laid BY PROGRAM, IN A SANDBOX (cutbox-rows.mjs): the forced cells as the released guide's own fill.sh prints them over the translation 0bcc962954a8d413… (all of the seat's roots in one cut). By AI agents, Wed Nov 11 2026. No macro, syntax, notation, axiom, sorry.
-/
import Derived.Test.YtljnadoodbninaaChecked
import GoSem.Claim
import GoSem.ClaimJoined
import GoSem.ClaimMapViews
import Derived.JoinedTies
import Derived.KernelRfl
namespace Go.Proofs.Ytljnadoodbninaa
/- THE CELL 'sum', in the pinned program and in every row, IS THE sha256 OF THE DUMP (.gsa) THAT YtljnadoodbninaaProg.lean LOADS. Nothing in Lean hashes anything: it is a label: what it is worth is what the hold of that sum in a sandbox is worth. -/
noncomputable def Try.pinned : Pinned := { name := "ytljnadoodbninaa", sum := "0bcc962954a8d4138796aa19ca027e792721c9fd1d6815289d5a1495aed055f3", checked := Try.checked }
namespace Rows
def none {H : Type} : Left H := { results := [], args := [] }

/-- 'vergelaw9.RelHulls': WHATEVER THE INPUT: true; the input reads as it did. -/
def relHullsSpec : ChangeSpec := { name := "relHulls", fn := fun _ => fun
  | [d1, d2] => { results := [.lit (.bool true)], args := [d1, d2] }
  | _ => none }
def relHullsRow : OpenClaim := { program := "ytljnadoodbninaa", sum := "0bcc962954a8d4138796aa19ca027e792721c9fd1d6815289d5a1495aed055f3", func := "verge/vergelaw9.RelHulls", spec := "relHulls", inPlace := ["math.Float64frombits", "math.Float64bits"], apart := false }
def RelHullsSaid : Prop := relHullsRow.holds Try.pinned (OpenSpec.ofChange relHullsSpec)

/-- ITS FALSE NEIGHBOUR: 'it returns false'. Refute it at one input. -/
def relHullsWrong : ChangeSpec := { name := "relHulls", fn := fun _ => fun
  | [d1, d2] => { results := [.lit (.bool false)], args := [d1, d2] }
  | _ => none }
def RelHullsWrongFalsely : Prop := relHullsRow.holds Try.pinned (OpenSpec.ofChange relHullsWrong)

/-- 'vergelaw9.RelMeets': WHATEVER THE INPUT: true; the input reads as it did. -/
def relMeetsSpec : ChangeSpec := { name := "relMeets", fn := fun _ => fun
  | [d1, d2] => { results := [.lit (.bool true)], args := [d1, d2] }
  | _ => none }
def relMeetsRow : OpenClaim := { program := "ytljnadoodbninaa", sum := "0bcc962954a8d4138796aa19ca027e792721c9fd1d6815289d5a1495aed055f3", func := "verge/vergelaw9.RelMeets", spec := "relMeets", inPlace := ["math.Float64frombits", "math.Float64bits"], apart := false }
def RelMeetsSaid : Prop := relMeetsRow.holds Try.pinned (OpenSpec.ofChange relMeetsSpec)

/-- ITS FALSE NEIGHBOUR: 'it returns false'. Refute it at one input. -/
def relMeetsWrong : ChangeSpec := { name := "relMeets", fn := fun _ => fun
  | [d1, d2] => { results := [.lit (.bool false)], args := [d1, d2] }
  | _ => none }
def RelMeetsWrongFalsely : Prop := relMeetsRow.holds Try.pinned (OpenSpec.ofChange relMeetsWrong)

/-- 'vergelaw9.RelMembers': WHATEVER THE INPUT: true; the input reads as it did. -/
def relMembersSpec : ChangeSpec := { name := "relMembers", fn := fun _ => fun
  | [d1, d2] => { results := [.lit (.bool true)], args := [d1, d2] }
  | _ => none }
def relMembersRow : OpenClaim := { program := "ytljnadoodbninaa", sum := "0bcc962954a8d4138796aa19ca027e792721c9fd1d6815289d5a1495aed055f3", func := "verge/vergelaw9.RelMembers", spec := "relMembers", inPlace := ["math.Float64frombits", "math.Float64bits"], apart := false }
def RelMembersSaid : Prop := relMembersRow.holds Try.pinned (OpenSpec.ofChange relMembersSpec)

/-- ITS FALSE NEIGHBOUR: 'it returns false'. Refute it at one input. -/
def relMembersWrong : ChangeSpec := { name := "relMembers", fn := fun _ => fun
  | [d1, d2] => { results := [.lit (.bool false)], args := [d1, d2] }
  | _ => none }
def RelMembersWrongFalsely : Prop := relMembersRow.holds Try.pinned (OpenSpec.ofChange relMembersWrong)

/-- 'vergelaw9.RelNames': WHATEVER THE INPUT: true; the input reads as it did. -/
def relNamesSpec : ChangeSpec := { name := "relNames", fn := fun _ => fun
  | [] => { results := [.lit (.bool true)], args := [] }
  | _ => none }
def relNamesRow : OpenClaim := { program := "ytljnadoodbninaa", sum := "0bcc962954a8d4138796aa19ca027e792721c9fd1d6815289d5a1495aed055f3", func := "verge/vergelaw9.RelNames", spec := "relNames", inPlace := ["math.Float64frombits"], apart := false }
def RelNamesSaid : Prop := relNamesRow.holds Try.pinned (OpenSpec.ofChange relNamesSpec)

/-- ITS FALSE NEIGHBOUR: 'it returns false'. Refute it at one input. -/
def relNamesWrong : ChangeSpec := { name := "relNames", fn := fun _ => fun
  | [] => { results := [.lit (.bool false)], args := [] }
  | _ => none }
def RelNamesWrongFalsely : Prop := relNamesRow.holds Try.pinned (OpenSpec.ofChange relNamesWrong)

/-- 'vergelaw9.RelKinds': WHATEVER THE INPUT: true; the input reads as it did. -/
def relKindsSpec : ChangeSpec := { name := "relKinds", fn := fun _ => fun
  | [d] => { results := [.lit (.bool true)], args := [d] }
  | _ => none }
def relKindsRow : OpenClaim := { program := "ytljnadoodbninaa", sum := "0bcc962954a8d4138796aa19ca027e792721c9fd1d6815289d5a1495aed055f3", func := "verge/vergelaw9.RelKinds", spec := "relKinds", inPlace := ["math.Float64frombits", "math.Float64bits"], apart := false }
def RelKindsSaid : Prop := relKindsRow.holds Try.pinned (OpenSpec.ofChange relKindsSpec)

/-- ITS FALSE NEIGHBOUR: 'it returns false'. Refute it at one input. -/
def relKindsWrong : ChangeSpec := { name := "relKinds", fn := fun _ => fun
  | [d] => { results := [.lit (.bool false)], args := [d] }
  | _ => none }
def RelKindsWrongFalsely : Prop := relKindsRow.holds Try.pinned (OpenSpec.ofChange relKindsWrong)

/-- 'vergelaw9.RelPoints': WHATEVER THE INPUT: true; the input reads as it did. -/
def relPointsSpec : ChangeSpec := { name := "relPoints", fn := fun _ => fun
  | [d1, d2, d3] => { results := [.lit (.bool true)], args := [d1, d2, d3] }
  | _ => none }
def relPointsRow : OpenClaim := { program := "ytljnadoodbninaa", sum := "0bcc962954a8d4138796aa19ca027e792721c9fd1d6815289d5a1495aed055f3", func := "verge/vergelaw9.RelPoints", spec := "relPoints", inPlace := ["math.Float64frombits", "math.Float64bits"], apart := false }
def RelPointsSaid : Prop := relPointsRow.holds Try.pinned (OpenSpec.ofChange relPointsSpec)

/-- ITS FALSE NEIGHBOUR: 'it returns false'. Refute it at one input. -/
def relPointsWrong : ChangeSpec := { name := "relPoints", fn := fun _ => fun
  | [d1, d2, d3] => { results := [.lit (.bool false)], args := [d1, d2, d3] }
  | _ => none }
def RelPointsWrongFalsely : Prop := relPointsRow.holds Try.pinned (OpenSpec.ofChange relPointsWrong)

/-- 'vergelaw9.RelLattice': WHATEVER THE INPUT: true; the input reads as it did. -/
def relLatticeSpec : ChangeSpec := { name := "relLattice", fn := fun _ => fun
  | [d1, d2, d3] => { results := [.lit (.bool true)], args := [d1, d2, d3] }
  | _ => none }
def relLatticeRow : OpenClaim := { program := "ytljnadoodbninaa", sum := "0bcc962954a8d4138796aa19ca027e792721c9fd1d6815289d5a1495aed055f3", func := "verge/vergelaw9.RelLattice", spec := "relLattice", inPlace := ["math.Float64frombits"], apart := false }
def RelLatticeSaid : Prop := relLatticeRow.holds Try.pinned (OpenSpec.ofChange relLatticeSpec)

/-- ITS FALSE NEIGHBOUR: 'it returns false'. Refute it at one input. -/
def relLatticeWrong : ChangeSpec := { name := "relLattice", fn := fun _ => fun
  | [d1, d2, d3] => { results := [.lit (.bool false)], args := [d1, d2, d3] }
  | _ => none }
def RelLatticeWrongFalsely : Prop := relLatticeRow.holds Try.pinned (OpenSpec.ofChange relLatticeWrong)

/-- 'vergelaw9.RelOrders': WHATEVER THE INPUT: true; the input reads as it did. -/
def relOrdersSpec : ChangeSpec := { name := "relOrders", fn := fun _ => fun
  | [d1, d2] => { results := [.lit (.bool true)], args := [d1, d2] }
  | _ => none }
def relOrdersRow : OpenClaim := { program := "ytljnadoodbninaa", sum := "0bcc962954a8d4138796aa19ca027e792721c9fd1d6815289d5a1495aed055f3", func := "verge/vergelaw9.RelOrders", spec := "relOrders", inPlace := ["math.Float64frombits", "math.Float64bits"], apart := false }
def RelOrdersSaid : Prop := relOrdersRow.holds Try.pinned (OpenSpec.ofChange relOrdersSpec)

/-- ITS FALSE NEIGHBOUR: 'it returns false'. Refute it at one input. -/
def relOrdersWrong : ChangeSpec := { name := "relOrders", fn := fun _ => fun
  | [d1, d2] => { results := [.lit (.bool false)], args := [d1, d2] }
  | _ => none }
def RelOrdersWrongFalsely : Prop := relOrdersRow.holds Try.pinned (OpenSpec.ofChange relOrdersWrong)

/-- 'vergelaw9.RelSets': WHATEVER THE INPUT: true; the input reads as it did. -/
def relSetsSpec : ChangeSpec := { name := "relSets", fn := fun _ => fun
  | [d1, d2] => { results := [.lit (.bool true)], args := [d1, d2] }
  | _ => none }
def relSetsRow : OpenClaim := { program := "ytljnadoodbninaa", sum := "0bcc962954a8d4138796aa19ca027e792721c9fd1d6815289d5a1495aed055f3", func := "verge/vergelaw9.RelSets", spec := "relSets", inPlace := ["math.Float64frombits", "math.Float64bits"], apart := false }
def RelSetsSaid : Prop := relSetsRow.holds Try.pinned (OpenSpec.ofChange relSetsSpec)

/-- ITS FALSE NEIGHBOUR: 'it returns false'. Refute it at one input. -/
def relSetsWrong : ChangeSpec := { name := "relSets", fn := fun _ => fun
  | [d1, d2] => { results := [.lit (.bool false)], args := [d1, d2] }
  | _ => none }
def RelSetsWrongFalsely : Prop := relSetsRow.holds Try.pinned (OpenSpec.ofChange relSetsWrong)

/-- 'vergelaw9.RelStates': WHATEVER THE INPUT: true; the input reads as it did. -/
def relStatesSpec : ChangeSpec := { name := "relStates", fn := fun _ => fun
  | [d1, d2] => { results := [.lit (.bool true)], args := [d1, d2] }
  | _ => none }
def relStatesRow : OpenClaim := { program := "ytljnadoodbninaa", sum := "0bcc962954a8d4138796aa19ca027e792721c9fd1d6815289d5a1495aed055f3", func := "verge/vergelaw9.RelStates", spec := "relStates", inPlace := ["math.Float64frombits"], apart := false }
def RelStatesSaid : Prop := relStatesRow.holds Try.pinned (OpenSpec.ofChange relStatesSpec)

/-- ITS FALSE NEIGHBOUR: 'it returns false'. Refute it at one input. -/
def relStatesWrong : ChangeSpec := { name := "relStates", fn := fun _ => fun
  | [d1, d2] => { results := [.lit (.bool false)], args := [d1, d2] }
  | _ => none }
def RelStatesWrongFalsely : Prop := relStatesRow.holds Try.pinned (OpenSpec.ofChange relStatesWrong)

/-- 'vergelaw9.RelTwo': WHATEVER THE INPUT: true; the input reads as it did. -/
def relTwoSpec : ChangeSpec := { name := "relTwo", fn := fun _ => fun
  | [d1, d2, d3, d4] => { results := [.lit (.bool true)], args := [d1, d2, d3, d4] }
  | _ => none }
def relTwoRow : OpenClaim := { program := "ytljnadoodbninaa", sum := "0bcc962954a8d4138796aa19ca027e792721c9fd1d6815289d5a1495aed055f3", func := "verge/vergelaw9.RelTwo", spec := "relTwo", inPlace := ["math.Float64frombits", "math.Float64bits"], apart := false }
def RelTwoSaid : Prop := relTwoRow.holds Try.pinned (OpenSpec.ofChange relTwoSpec)

/-- ITS FALSE NEIGHBOUR: 'it returns false'. Refute it at one input. -/
def relTwoWrong : ChangeSpec := { name := "relTwo", fn := fun _ => fun
  | [d1, d2, d3, d4] => { results := [.lit (.bool false)], args := [d1, d2, d3, d4] }
  | _ => none }
def RelTwoWrongFalsely : Prop := relTwoRow.holds Try.pinned (OpenSpec.ofChange relTwoWrong)

/-- 'vergelaw9.RelChains': WHATEVER THE INPUT: true; the input reads as it did. -/
def relChainsSpec : ChangeSpec := { name := "relChains", fn := fun _ => fun
  | [d1, d2, d3] => { results := [.lit (.bool true)], args := [d1, d2, d3] }
  | _ => none }
def relChainsRow : OpenClaim := { program := "ytljnadoodbninaa", sum := "0bcc962954a8d4138796aa19ca027e792721c9fd1d6815289d5a1495aed055f3", func := "verge/vergelaw9.RelChains", spec := "relChains", inPlace := ["math.Float64frombits", "math.Float64bits"], apart := false }
def RelChainsSaid : Prop := relChainsRow.holds Try.pinned (OpenSpec.ofChange relChainsSpec)

/-- ITS FALSE NEIGHBOUR: 'it returns false'. Refute it at one input. -/
def relChainsWrong : ChangeSpec := { name := "relChains", fn := fun _ => fun
  | [d1, d2, d3] => { results := [.lit (.bool false)], args := [d1, d2, d3] }
  | _ => none }
def RelChainsWrongFalsely : Prop := relChainsRow.holds Try.pinned (OpenSpec.ofChange relChainsWrong)

/-- 'vergelaw9.RelAcross': WHATEVER THE INPUT: true; the input reads as it did. -/
def relAcrossSpec : ChangeSpec := { name := "relAcross", fn := fun _ => fun
  | [d1, d2] => { results := [.lit (.bool true)], args := [d1, d2] }
  | _ => none }
def relAcrossRow : OpenClaim := { program := "ytljnadoodbninaa", sum := "0bcc962954a8d4138796aa19ca027e792721c9fd1d6815289d5a1495aed055f3", func := "verge/vergelaw9.RelAcross", spec := "relAcross", inPlace := ["math.Float64frombits"], apart := false }
def RelAcrossSaid : Prop := relAcrossRow.holds Try.pinned (OpenSpec.ofChange relAcrossSpec)

/-- ITS FALSE NEIGHBOUR: 'it returns false'. Refute it at one input. -/
def relAcrossWrong : ChangeSpec := { name := "relAcross", fn := fun _ => fun
  | [d1, d2] => { results := [.lit (.bool false)], args := [d1, d2] }
  | _ => none }
def RelAcrossWrongFalsely : Prop := relAcrossRow.holds Try.pinned (OpenSpec.ofChange relAcrossWrong)

/-- 'vergelaw9.RelHalves': WHATEVER THE INPUT: true; the input reads as it did. -/
def relHalvesSpec : ChangeSpec := { name := "relHalves", fn := fun _ => fun
  | [d] => { results := [.lit (.bool true)], args := [d] }
  | _ => none }
def relHalvesRow : OpenClaim := { program := "ytljnadoodbninaa", sum := "0bcc962954a8d4138796aa19ca027e792721c9fd1d6815289d5a1495aed055f3", func := "verge/vergelaw9.RelHalves", spec := "relHalves", inPlace := ["math.Float64frombits", "math.Float32bits", "math.Float64bits", "math.Float32frombits"], apart := false }
def RelHalvesSaid : Prop := relHalvesRow.holds Try.pinned (OpenSpec.ofChange relHalvesSpec)

/-- ITS FALSE NEIGHBOUR: 'it returns false'. Refute it at one input. -/
def relHalvesWrong : ChangeSpec := { name := "relHalves", fn := fun _ => fun
  | [d] => { results := [.lit (.bool false)], args := [d] }
  | _ => none }
def RelHalvesWrongFalsely : Prop := relHalvesRow.holds Try.pinned (OpenSpec.ofChange relHalvesWrong)

/-- 'vergelaw9.RelCuts': WHATEVER THE INPUT: true; the input reads as it did. -/
def relCutsSpec : ChangeSpec := { name := "relCuts", fn := fun _ => fun
  | [d] => { results := [.lit (.bool true)], args := [d] }
  | _ => none }
def relCutsRow : OpenClaim := { program := "ytljnadoodbninaa", sum := "0bcc962954a8d4138796aa19ca027e792721c9fd1d6815289d5a1495aed055f3", func := "verge/vergelaw9.RelCuts", spec := "relCuts", inPlace := ["math.Float64frombits", "math.Float32bits", "math.Float64bits", "math.Float32frombits"], apart := false }
def RelCutsSaid : Prop := relCutsRow.holds Try.pinned (OpenSpec.ofChange relCutsSpec)

/-- ITS FALSE NEIGHBOUR: 'it returns false'. Refute it at one input. -/
def relCutsWrong : ChangeSpec := { name := "relCuts", fn := fun _ => fun
  | [d] => { results := [.lit (.bool false)], args := [d] }
  | _ => none }
def RelCutsWrongFalsely : Prop := relCutsRow.holds Try.pinned (OpenSpec.ofChange relCutsWrong)

/-- 'vergelaw9.RelKnown': WHATEVER THE INPUT: true; the input reads as it did. -/
def relKnownSpec : ChangeSpec := { name := "relKnown", fn := fun _ => fun
  | [] => { results := [.lit (.bool true)], args := [] }
  | _ => none }
def relKnownRow : OpenClaim := { program := "ytljnadoodbninaa", sum := "0bcc962954a8d4138796aa19ca027e792721c9fd1d6815289d5a1495aed055f3", func := "verge/vergelaw9.RelKnown", spec := "relKnown", inPlace := ["math.Float64frombits", "math.Float64bits", "math.Float32bits", "math.Float32frombits"], apart := false }
def RelKnownSaid : Prop := relKnownRow.holds Try.pinned (OpenSpec.ofChange relKnownSpec)

/-- ITS FALSE NEIGHBOUR: 'it returns false'. Refute it at one input. -/
def relKnownWrong : ChangeSpec := { name := "relKnown", fn := fun _ => fun
  | [] => { results := [.lit (.bool false)], args := [] }
  | _ => none }
def RelKnownWrongFalsely : Prop := relKnownRow.holds Try.pinned (OpenSpec.ofChange relKnownWrong)

/- THE SECOND FORM. 'bulk': how many values and letters a reading holds, each counted each time it is reached (what is shared counts as often as it is met; a slice's spare places count too). A statement '..UptoSaid' is the law's where the arguments, and the package variables that the reading takes, are together of bulk at most 1048576: NARROWER than '..Said'. Prove '..Said' where nothing that the law and all that it calls make is longer than what came in: it says more and counts as full. Else prove '..UptoSaid'. A law counts once. -/
mutual
def uptoBulk {H : Type} : DataW H → Nat
  | .lit (.string bytes) => bytes.length + 1
  | .lit _ => 1
  | .nil => 1
  | .ptr d => uptoBulk d + 1
  | .slice elems spare => uptoBulkAll elems + uptoBulkAll spare + 1
  | .agg parts => uptoBulkAll parts + 1
  | .iface _ d => uptoBulk d + 1
  | .map entries => uptoBulkEntries entries + 1
  | .held _ => 1
def uptoBulkAll {H : Type} : List (DataW H) → Nat
  | [] => 0
  | d :: r => uptoBulk d + uptoBulkAll r
def uptoBulkEntries {H : Type} : List (Lit × DataW H) → Nat
  | [] => 0
  | x :: r => uptoBulkEntry x + uptoBulkEntries r
def uptoBulkEntry {H : Type} : Lit × DataW H → Nat
  | (.string bytes, d) => bytes.length + uptoBulk d + 1
  | (_, d) => uptoBulk d + 1
 end
def uptoSmall : (H : Type) → List (DataW H) → Bool := fun _ ds => decide (uptoBulkAll ds ≤ 1048576)
def OpenSpec.upto (s : _root_.Go.ChangeSpec) : _root_.Go.OpenSpec := { _root_.Go.OpenSpec.ofChange s with cond := some uptoSmall }

/-- 'vergelaw9.RelHulls', WHERE WHAT IT READS IS OF BULK AT MOST 1048576: true; the input reads as it did. -/
def relHullsUptoRow : OpenClaim := { program := "ytljnadoodbninaa", sum := "0bcc962954a8d4138796aa19ca027e792721c9fd1d6815289d5a1495aed055f3", func := "verge/vergelaw9.RelHulls", spec := "relHulls", inPlace := ["math.Float64frombits", "math.Float64bits"], apart := false, narrowed := true }
def RelHullsUptoSaid : Prop := relHullsUptoRow.holds Try.pinned (OpenSpec.upto relHullsSpec)

/-- 'vergelaw9.RelMeets', WHERE WHAT IT READS IS OF BULK AT MOST 1048576: true; the input reads as it did. -/
def relMeetsUptoRow : OpenClaim := { program := "ytljnadoodbninaa", sum := "0bcc962954a8d4138796aa19ca027e792721c9fd1d6815289d5a1495aed055f3", func := "verge/vergelaw9.RelMeets", spec := "relMeets", inPlace := ["math.Float64frombits", "math.Float64bits"], apart := false, narrowed := true }
def RelMeetsUptoSaid : Prop := relMeetsUptoRow.holds Try.pinned (OpenSpec.upto relMeetsSpec)

/-- 'vergelaw9.RelMembers', WHERE WHAT IT READS IS OF BULK AT MOST 1048576: true; the input reads as it did. -/
def relMembersUptoRow : OpenClaim := { program := "ytljnadoodbninaa", sum := "0bcc962954a8d4138796aa19ca027e792721c9fd1d6815289d5a1495aed055f3", func := "verge/vergelaw9.RelMembers", spec := "relMembers", inPlace := ["math.Float64frombits", "math.Float64bits"], apart := false, narrowed := true }
def RelMembersUptoSaid : Prop := relMembersUptoRow.holds Try.pinned (OpenSpec.upto relMembersSpec)

/-- 'vergelaw9.RelNames', WHERE WHAT IT READS IS OF BULK AT MOST 1048576: true; the input reads as it did. -/
def relNamesUptoRow : OpenClaim := { program := "ytljnadoodbninaa", sum := "0bcc962954a8d4138796aa19ca027e792721c9fd1d6815289d5a1495aed055f3", func := "verge/vergelaw9.RelNames", spec := "relNames", inPlace := ["math.Float64frombits"], apart := false, narrowed := true }
def RelNamesUptoSaid : Prop := relNamesUptoRow.holds Try.pinned (OpenSpec.upto relNamesSpec)

/-- 'vergelaw9.RelKinds', WHERE WHAT IT READS IS OF BULK AT MOST 1048576: true; the input reads as it did. -/
def relKindsUptoRow : OpenClaim := { program := "ytljnadoodbninaa", sum := "0bcc962954a8d4138796aa19ca027e792721c9fd1d6815289d5a1495aed055f3", func := "verge/vergelaw9.RelKinds", spec := "relKinds", inPlace := ["math.Float64frombits", "math.Float64bits"], apart := false, narrowed := true }
def RelKindsUptoSaid : Prop := relKindsUptoRow.holds Try.pinned (OpenSpec.upto relKindsSpec)

/-- 'vergelaw9.RelPoints', WHERE WHAT IT READS IS OF BULK AT MOST 1048576: true; the input reads as it did. -/
def relPointsUptoRow : OpenClaim := { program := "ytljnadoodbninaa", sum := "0bcc962954a8d4138796aa19ca027e792721c9fd1d6815289d5a1495aed055f3", func := "verge/vergelaw9.RelPoints", spec := "relPoints", inPlace := ["math.Float64frombits", "math.Float64bits"], apart := false, narrowed := true }
def RelPointsUptoSaid : Prop := relPointsUptoRow.holds Try.pinned (OpenSpec.upto relPointsSpec)

/-- 'vergelaw9.RelLattice', WHERE WHAT IT READS IS OF BULK AT MOST 1048576: true; the input reads as it did. -/
def relLatticeUptoRow : OpenClaim := { program := "ytljnadoodbninaa", sum := "0bcc962954a8d4138796aa19ca027e792721c9fd1d6815289d5a1495aed055f3", func := "verge/vergelaw9.RelLattice", spec := "relLattice", inPlace := ["math.Float64frombits"], apart := false, narrowed := true }
def RelLatticeUptoSaid : Prop := relLatticeUptoRow.holds Try.pinned (OpenSpec.upto relLatticeSpec)

/-- 'vergelaw9.RelOrders', WHERE WHAT IT READS IS OF BULK AT MOST 1048576: true; the input reads as it did. -/
def relOrdersUptoRow : OpenClaim := { program := "ytljnadoodbninaa", sum := "0bcc962954a8d4138796aa19ca027e792721c9fd1d6815289d5a1495aed055f3", func := "verge/vergelaw9.RelOrders", spec := "relOrders", inPlace := ["math.Float64frombits", "math.Float64bits"], apart := false, narrowed := true }
def RelOrdersUptoSaid : Prop := relOrdersUptoRow.holds Try.pinned (OpenSpec.upto relOrdersSpec)

/-- 'vergelaw9.RelSets', WHERE WHAT IT READS IS OF BULK AT MOST 1048576: true; the input reads as it did. -/
def relSetsUptoRow : OpenClaim := { program := "ytljnadoodbninaa", sum := "0bcc962954a8d4138796aa19ca027e792721c9fd1d6815289d5a1495aed055f3", func := "verge/vergelaw9.RelSets", spec := "relSets", inPlace := ["math.Float64frombits", "math.Float64bits"], apart := false, narrowed := true }
def RelSetsUptoSaid : Prop := relSetsUptoRow.holds Try.pinned (OpenSpec.upto relSetsSpec)

/-- 'vergelaw9.RelStates', WHERE WHAT IT READS IS OF BULK AT MOST 1048576: true; the input reads as it did. -/
def relStatesUptoRow : OpenClaim := { program := "ytljnadoodbninaa", sum := "0bcc962954a8d4138796aa19ca027e792721c9fd1d6815289d5a1495aed055f3", func := "verge/vergelaw9.RelStates", spec := "relStates", inPlace := ["math.Float64frombits"], apart := false, narrowed := true }
def RelStatesUptoSaid : Prop := relStatesUptoRow.holds Try.pinned (OpenSpec.upto relStatesSpec)

/-- 'vergelaw9.RelTwo', WHERE WHAT IT READS IS OF BULK AT MOST 1048576: true; the input reads as it did. -/
def relTwoUptoRow : OpenClaim := { program := "ytljnadoodbninaa", sum := "0bcc962954a8d4138796aa19ca027e792721c9fd1d6815289d5a1495aed055f3", func := "verge/vergelaw9.RelTwo", spec := "relTwo", inPlace := ["math.Float64frombits", "math.Float64bits"], apart := false, narrowed := true }
def RelTwoUptoSaid : Prop := relTwoUptoRow.holds Try.pinned (OpenSpec.upto relTwoSpec)

/-- 'vergelaw9.RelChains', WHERE WHAT IT READS IS OF BULK AT MOST 1048576: true; the input reads as it did. -/
def relChainsUptoRow : OpenClaim := { program := "ytljnadoodbninaa", sum := "0bcc962954a8d4138796aa19ca027e792721c9fd1d6815289d5a1495aed055f3", func := "verge/vergelaw9.RelChains", spec := "relChains", inPlace := ["math.Float64frombits", "math.Float64bits"], apart := false, narrowed := true }
def RelChainsUptoSaid : Prop := relChainsUptoRow.holds Try.pinned (OpenSpec.upto relChainsSpec)

/-- 'vergelaw9.RelAcross', WHERE WHAT IT READS IS OF BULK AT MOST 1048576: true; the input reads as it did. -/
def relAcrossUptoRow : OpenClaim := { program := "ytljnadoodbninaa", sum := "0bcc962954a8d4138796aa19ca027e792721c9fd1d6815289d5a1495aed055f3", func := "verge/vergelaw9.RelAcross", spec := "relAcross", inPlace := ["math.Float64frombits"], apart := false, narrowed := true }
def RelAcrossUptoSaid : Prop := relAcrossUptoRow.holds Try.pinned (OpenSpec.upto relAcrossSpec)

/-- 'vergelaw9.RelHalves', WHERE WHAT IT READS IS OF BULK AT MOST 1048576: true; the input reads as it did. -/
def relHalvesUptoRow : OpenClaim := { program := "ytljnadoodbninaa", sum := "0bcc962954a8d4138796aa19ca027e792721c9fd1d6815289d5a1495aed055f3", func := "verge/vergelaw9.RelHalves", spec := "relHalves", inPlace := ["math.Float64frombits", "math.Float32bits", "math.Float64bits", "math.Float32frombits"], apart := false, narrowed := true }
def RelHalvesUptoSaid : Prop := relHalvesUptoRow.holds Try.pinned (OpenSpec.upto relHalvesSpec)

/-- 'vergelaw9.RelCuts', WHERE WHAT IT READS IS OF BULK AT MOST 1048576: true; the input reads as it did. -/
def relCutsUptoRow : OpenClaim := { program := "ytljnadoodbninaa", sum := "0bcc962954a8d4138796aa19ca027e792721c9fd1d6815289d5a1495aed055f3", func := "verge/vergelaw9.RelCuts", spec := "relCuts", inPlace := ["math.Float64frombits", "math.Float32bits", "math.Float64bits", "math.Float32frombits"], apart := false, narrowed := true }
def RelCutsUptoSaid : Prop := relCutsUptoRow.holds Try.pinned (OpenSpec.upto relCutsSpec)

/-- 'vergelaw9.RelKnown', WHERE WHAT IT READS IS OF BULK AT MOST 1048576: true; the input reads as it did. -/
def relKnownUptoRow : OpenClaim := { program := "ytljnadoodbninaa", sum := "0bcc962954a8d4138796aa19ca027e792721c9fd1d6815289d5a1495aed055f3", func := "verge/vergelaw9.RelKnown", spec := "relKnown", inPlace := ["math.Float64frombits", "math.Float64bits", "math.Float32bits", "math.Float32frombits"], apart := false, narrowed := true }
def RelKnownUptoSaid : Prop := relKnownUptoRow.holds Try.pinned (OpenSpec.upto relKnownSpec)

end Rows
end Go.Proofs.Ytljnadoodbninaa

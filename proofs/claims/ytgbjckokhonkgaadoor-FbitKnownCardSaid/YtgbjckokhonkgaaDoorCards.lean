/-
  DERIVED. GIVEN WITH THE SEED: THE CARDS: each row of YtgbjckokhonkgaaDoorRows.lean that lists a variable, with what it lists TIED to the program's text (the seventh form; the later family's looks); each row that meets fmt, with fmt's text TOLD by the authors' own Lean function (tested against real Go, not proved from fmt's source: count such statements apart). THE CARD IS WHAT COUNTS. Prove the row's statement (the work); the ties are given (YtgbjckokhonkgaaDoorTie.lean); close each card by the builder's one call (the guide's Derived/Test/ToyasCard.lean, 'card_holds'). Laid BY PROGRAM, IN A SANDBOX (cutbox-door.mjs). By AI agents, Wed Nov 11 2026. No macro, syntax, notation, axiom, sorry.
-/
import Derived.Test.YtgbjckokhonkgaaDoorRows
import GoSem.ClaimSeven
namespace Go.Proofs.YtgbjckokhonkgaaDoor
namespace Rows

/-- THE TIED CARD OF 'vergelaw1.FbitKnown'. -/
def fbitKnownCard : Claim7 := { stood := { row := fbitKnownRow, standIns := [], harness := (true, "5ad0e946a17ddf954773b889bafb238b8a7a5b42d13c66ac0ba0a677d5dfa04e"), looks := false }, kinds := [], alts := [], laidByText := true, laidKinds := [.data], laidTests := true, laidLooks := .later }
def FbitKnownCardSaid : Prop := Claim7.holds Tryd.pinned (.plain (OpenSpec.ofChange fbitKnownSpec)) fbitKnownCard

/-- THE SECOND FORM's CARD OF 'vergelaw1.FbitKnown'. -/
def fbitKnownUptoCard : Claim7 := { stood := { row := fbitKnownUptoRow, standIns := [], harness := (true, "5ad0e946a17ddf954773b889bafb238b8a7a5b42d13c66ac0ba0a677d5dfa04e"), looks := false }, kinds := [], alts := [], laidByText := true, laidKinds := [.data], laidTests := true, laidLooks := .later }
def FbitKnownUptoCardSaid : Prop := Claim7.holds Tryd.pinned (.plain (OpenSpec.upto fbitKnownSpec)) fbitKnownUptoCard
end Rows
end Go.Proofs.YtgbjckokhonkgaaDoor

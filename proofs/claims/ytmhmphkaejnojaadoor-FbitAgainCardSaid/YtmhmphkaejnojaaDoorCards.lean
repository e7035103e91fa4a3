/-
  DERIVED. GIVEN WITH THE SEED: THE CARDS: each row of YtmhmphkaejnojaaDoorRows.lean that lists a variable, with what it lists TIED to the program's text (the seventh form; the later family's looks); each row that meets fmt, with fmt's text TOLD by the authors' own Lean function (tested against real Go, not proved from fmt's source: count such statements apart). THE CARD IS WHAT COUNTS. Prove the row's statement (the work); the ties are given (YtmhmphkaejnojaaDoorTie.lean); close each card by the builder's one call (the guide's Derived/Test/ToyasCard.lean, 'card_holds'). Laid BY PROGRAM, IN A SANDBOX (cutbox-door.mjs). By AI agents, Wed Nov 11 2026. No macro, syntax, notation, axiom, sorry.
-/
import Derived.Test.YtmhmphkaejnojaaDoorRows
import GoSem.ClaimSeven
namespace Go.Proofs.YtmhmphkaejnojaaDoor
namespace Rows

/-- THE TIED CARD OF 'vergelaw1.FbitJoins'. -/
def fbitJoinsCard : Claim7 := { stood := { row := fbitJoinsRow, standIns := [], harness := (true, "5e44f35415c081b1a6e550e1f50117d48e8417415de8638d7fe384acbb09c8f0"), looks := false }, kinds := [], alts := [], laidByText := true, laidKinds := [.data], laidTests := true, laidLooks := .later }
def FbitJoinsCardSaid : Prop := Claim7.holds Tryd.pinned (.plain (OpenSpec.ofChange fbitJoinsSpec)) fbitJoinsCard

/-- THE TIED CARD OF 'vergelaw1.FbitBack'. -/
def fbitBackCard : Claim7 := { stood := { row := fbitBackRow, standIns := [], harness := (true, "5e44f35415c081b1a6e550e1f50117d48e8417415de8638d7fe384acbb09c8f0"), looks := false }, kinds := [], alts := [], laidByText := true, laidKinds := [.data], laidTests := true, laidLooks := .later }
def FbitBackCardSaid : Prop := Claim7.holds Tryd.pinned (.plain (OpenSpec.ofChange fbitBackSpec)) fbitBackCard

/-- THE TIED CARD OF 'vergelaw1.FbitAgain'. -/
def fbitAgainCard : Claim7 := { stood := { row := fbitAgainRow, standIns := [], harness := (true, "5e44f35415c081b1a6e550e1f50117d48e8417415de8638d7fe384acbb09c8f0"), looks := false }, kinds := [], alts := [], laidByText := true, laidKinds := [.data], laidTests := true, laidLooks := .later }
def FbitAgainCardSaid : Prop := Claim7.holds Tryd.pinned (.plain (OpenSpec.ofChange fbitAgainSpec)) fbitAgainCard

/-- THE SECOND FORM's CARD OF 'vergelaw1.FbitJoins'. -/
def fbitJoinsUptoCard : Claim7 := { stood := { row := fbitJoinsUptoRow, standIns := [], harness := (true, "5e44f35415c081b1a6e550e1f50117d48e8417415de8638d7fe384acbb09c8f0"), looks := false }, kinds := [], alts := [], laidByText := true, laidKinds := [.data], laidTests := true, laidLooks := .later }
def FbitJoinsUptoCardSaid : Prop := Claim7.holds Tryd.pinned (.plain (OpenSpec.upto fbitJoinsSpec)) fbitJoinsUptoCard

/-- THE SECOND FORM's CARD OF 'vergelaw1.FbitBack'. -/
def fbitBackUptoCard : Claim7 := { stood := { row := fbitBackUptoRow, standIns := [], harness := (true, "5e44f35415c081b1a6e550e1f50117d48e8417415de8638d7fe384acbb09c8f0"), looks := false }, kinds := [], alts := [], laidByText := true, laidKinds := [.data], laidTests := true, laidLooks := .later }
def FbitBackUptoCardSaid : Prop := Claim7.holds Tryd.pinned (.plain (OpenSpec.upto fbitBackSpec)) fbitBackUptoCard

/-- THE SECOND FORM's CARD OF 'vergelaw1.FbitAgain'. -/
def fbitAgainUptoCard : Claim7 := { stood := { row := fbitAgainUptoRow, standIns := [], harness := (true, "5e44f35415c081b1a6e550e1f50117d48e8417415de8638d7fe384acbb09c8f0"), looks := false }, kinds := [], alts := [], laidByText := true, laidKinds := [.data], laidTests := true, laidLooks := .later }
def FbitAgainUptoCardSaid : Prop := Claim7.holds Tryd.pinned (.plain (OpenSpec.upto fbitAgainSpec)) fbitAgainUptoCard
end Rows
end Go.Proofs.YtmhmphkaejnojaaDoor

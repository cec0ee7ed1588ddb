/-
  DERIVED. GIVEN WITH THE SEED: THE CARDS: each row of YtnbjnnijifiaaaaGreatDoorRows.lean that lists a variable, with what it lists TIED to the program's text (the seventh form; the later family's looks); each row that meets fmt, with fmt's text TOLD by the authors' own Lean function (tested against real Go, not proved from fmt's source: count such statements apart). THE CARD IS WHAT COUNTS. Prove the row's statement (the work); the ties are given (YtnbjnnijifiaaaaGreatDoorTie.lean); close each card by the builder's one call (the guide's Derived/Test/ToyasCard.lean, 'card_holds'). Laid BY PROGRAM, IN A SANDBOX (cutbox-door.mjs). By AI agents, Wed Nov 11 2026. No macro, syntax, notation, axiom, sorry.
-/
import Derived.Test.YtnbjnnijifiaaaaGreatDoorRows
import GoSem.ClaimSeven
namespace Go.Proofs.YtnbjnnijifiaaaaGreatDoor
namespace Rows

/-- THE TIED CARD OF 'ramagetop.WholeMoved'. -/
def wholeMovedCard : Claim7 := { stood := { row := wholeMovedRow, standIns := [], harness := (true, "7ac1b85fadff666820a12350a6d15fa90e12c9ecf14d2fe04e2cbf4c736d79b7"), looks := false }, kinds := [], alts := [], laidByText := true, laidKinds := [.data, .data, .data], laidTests := true, laidLooks := .later }
def WholeMovedCardSaid : Prop := Claim7.holds Tryz.pinned (.plain (OpenSpec.ofChange wholeMovedSpec)) wholeMovedCard

/-- THE SECOND FORM's CARD OF 'ramagetop.WholeMoved'. -/
def wholeMovedUptoCard : Claim7 := { stood := { row := wholeMovedUptoRow, standIns := [], harness := (true, "7ac1b85fadff666820a12350a6d15fa90e12c9ecf14d2fe04e2cbf4c736d79b7"), looks := false }, kinds := [], alts := [], laidByText := true, laidKinds := [.data, .data, .data], laidTests := true, laidLooks := .later }
def WholeMovedUptoCardSaid : Prop := Claim7.holds Tryz.pinned (.plain (OpenSpec.upto wholeMovedSpec)) wholeMovedUptoCard
end Rows
end Go.Proofs.YtnbjnnijifiaaaaGreatDoor

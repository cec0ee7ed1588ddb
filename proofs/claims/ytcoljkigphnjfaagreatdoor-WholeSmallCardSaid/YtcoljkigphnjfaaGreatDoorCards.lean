/-
  DERIVED. GIVEN WITH THE SEED: THE CARDS: each row of YtcoljkigphnjfaaGreatDoorRows.lean that lists a variable, with what it lists TIED to the program's text (the seventh form; the later family's looks); each row that meets fmt, with fmt's text TOLD by the authors' own Lean function (tested against real Go, not proved from fmt's source: count such statements apart). THE CARD IS WHAT COUNTS. Prove the row's statement (the work); the ties are given (YtcoljkigphnjfaaGreatDoorTie.lean); close each card by the builder's one call (the guide's Derived/Test/ToyasCard.lean, 'card_holds'). Laid BY PROGRAM, IN A SANDBOX (cutbox-door.mjs). By AI agents, Wed Nov 11 2026. No macro, syntax, notation, axiom, sorry.
-/
import Derived.Test.YtcoljkigphnjfaaGreatDoorRows
import GoSem.ClaimSeven
namespace Go.Proofs.YtcoljkigphnjfaaGreatDoor
namespace Rows

/-- THE TIED CARD OF 'ramagetop.WholeSmall'. -/
def wholeSmallCard : Claim7 := { stood := { row := wholeSmallRow, standIns := [], harness := (true, "b3dca69cb8d1e9916f9466dbdcde44cce8a6136940a273022b8496950f8ca577"), looks := false }, kinds := [], alts := [], laidByText := true, laidKinds := [.data, .data, .data], laidTests := true, laidLooks := .later }
def WholeSmallCardSaid : Prop := Claim7.holds Tryz.pinned (.plain (OpenSpec.ofChange wholeSmallSpec)) wholeSmallCard

/-- THE SECOND FORM's CARD OF 'ramagetop.WholeSmall'. -/
def wholeSmallUptoCard : Claim7 := { stood := { row := wholeSmallUptoRow, standIns := [], harness := (true, "b3dca69cb8d1e9916f9466dbdcde44cce8a6136940a273022b8496950f8ca577"), looks := false }, kinds := [], alts := [], laidByText := true, laidKinds := [.data, .data, .data], laidTests := true, laidLooks := .later }
def WholeSmallUptoCardSaid : Prop := Claim7.holds Tryz.pinned (.plain (OpenSpec.upto wholeSmallSpec)) wholeSmallUptoCard
end Rows
end Go.Proofs.YtcoljkigphnjfaaGreatDoor

/-
  DERIVED. GIVEN WITH THE SEED: THE CARDS: each row of YtbnpoapmnkfhkaaGreatDoorRows.lean that lists a variable, with what it lists TIED to the program's text (the seventh form; the later family's looks); each row that meets fmt, with fmt's text TOLD by the authors' own Lean function (tested against real Go, not proved from fmt's source: count such statements apart). THE CARD IS WHAT COUNTS. Prove the row's statement (the work); the ties are given (YtbnpoapmnkfhkaaGreatDoorTie.lean); close each card by the builder's one call (the guide's Derived/Test/ToyasCard.lean, 'card_holds'). Laid BY PROGRAM, IN A SANDBOX (cutbox-door.mjs). By AI agents, Wed Nov 11 2026. No macro, syntax, notation, axiom, sorry.
-/
import Derived.Test.YtbnpoapmnkfhkaaGreatDoorRows
import GoSem.ClaimSeven
namespace Go.Proofs.YtbnpoapmnkfhkaaGreatDoor
namespace Rows

/-- THE TIED CARD OF 'ramagetop.WholeExprs'. -/
def wholeExprsCard : Claim7 := { stood := { row := wholeExprsRow, standIns := [], harness := (true, "706cbb6f4da8602aeda4b53b0f6416a81972e10fbcc9814e872b12aaa41345d9"), looks := true }, kinds := [], alts := [], laidByText := true, laidKinds := [.data, .data, .data, .sentinel, .sentinel], laidTests := true, laidLooks := .later }
def WholeExprsCardSaid : Prop := Claim7.holds Tryz.pinned (.plain (OpenSpec.ofChange wholeExprsSpec)) wholeExprsCard

/-- THE SECOND FORM's CARD OF 'ramagetop.WholeExprs'. -/
def wholeExprsUptoCard : Claim7 := { stood := { row := wholeExprsUptoRow, standIns := [], harness := (true, "706cbb6f4da8602aeda4b53b0f6416a81972e10fbcc9814e872b12aaa41345d9"), looks := true }, kinds := [], alts := [], laidByText := true, laidKinds := [.data, .data, .data, .sentinel, .sentinel], laidTests := true, laidLooks := .later }
def WholeExprsUptoCardSaid : Prop := Claim7.holds Tryz.pinned (.plain (OpenSpec.upto wholeExprsSpec)) wholeExprsUptoCard
end Rows
end Go.Proofs.YtbnpoapmnkfhkaaGreatDoor

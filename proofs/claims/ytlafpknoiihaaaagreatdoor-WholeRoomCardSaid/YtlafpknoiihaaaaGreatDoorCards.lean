/-
  DERIVED. GIVEN WITH THE SEED: THE CARDS: each row of YtlafpknoiihaaaaGreatDoorRows.lean that lists a variable, with what it lists TIED to the program's text (the seventh form; the later family's looks); each row that meets fmt, with fmt's text TOLD by the authors' own Lean function (tested against real Go, not proved from fmt's source: count such statements apart). THE CARD IS WHAT COUNTS. Prove the row's statement (the work); the ties are given (YtlafpknoiihaaaaGreatDoorTie.lean); close each card by the builder's one call (the guide's Derived/Test/ToyasCard.lean, 'card_holds'). Laid BY PROGRAM, IN A SANDBOX (cutbox-door.mjs). By AI agents, Wed Nov 11 2026. No macro, syntax, notation, axiom, sorry.
-/
import Derived.Test.YtlafpknoiihaaaaGreatDoorRows
import GoSem.ClaimSeven
namespace Go.Proofs.YtlafpknoiihaaaaGreatDoor
namespace Rows

/-- THE TIED CARD OF 'ramagetop.WholeRoom'. -/
def wholeRoomCard : Claim7 := { stood := { row := wholeRoomRow, standIns := [], harness := (true, "007b22d462146d81141a5af72c046c6ac9308c62c82c1fc2a597472015a38764"), looks := false }, kinds := [], alts := [], laidByText := true, laidKinds := [.data, .data, .data], laidTests := true, laidLooks := .later }
def WholeRoomCardSaid : Prop := Claim7.holds Tryz.pinned (.plain (OpenSpec.ofChange wholeRoomSpec)) wholeRoomCard

/-- THE SECOND FORM's CARD OF 'ramagetop.WholeRoom'. -/
def wholeRoomUptoCard : Claim7 := { stood := { row := wholeRoomUptoRow, standIns := [], harness := (true, "007b22d462146d81141a5af72c046c6ac9308c62c82c1fc2a597472015a38764"), looks := false }, kinds := [], alts := [], laidByText := true, laidKinds := [.data, .data, .data], laidTests := true, laidLooks := .later }
def WholeRoomUptoCardSaid : Prop := Claim7.holds Tryz.pinned (.plain (OpenSpec.upto wholeRoomSpec)) wholeRoomUptoCard
end Rows
end Go.Proofs.YtlafpknoiihaaaaGreatDoor

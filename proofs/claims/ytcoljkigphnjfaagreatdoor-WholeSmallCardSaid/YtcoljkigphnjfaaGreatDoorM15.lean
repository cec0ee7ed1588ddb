/- The shelf's contract of bits.Mul64: its table of numbers, by hand. -/
import Derived.Test.YtcoljkigphnjfaaGreatDoorM01
import Derived.Shelf.Bits.Mul64
import Derived.Test.YtcoljkigphnjfaaGreatDoorChecked
set_option linter.unusedVariables false
set_option linter.unusedSimpArgs false
namespace Go.Proofs.YtcoljkigphnjfaaGreatDoor
open Go.RowKit Go.Shelf

def ren264 : Ren := ⟨fun x => if x = 264 then 220 else x, fun x => if x = 53 then 22 else if x = 46 then 207 else x, fun x => x⟩

theorem lays264 : Lays.n264 Tryz.prog ren264 where
  mixed := by kernel_rfl
  f264 := (Tryz.func220).trans (congrArg some (by kernel_rfl))
  t46 := Tryz.underlying207
  a46 := Tryz.isAgg207
  z46 := Tryz.sizeOf207
  v46 := Tryz.zeroValue207
  t53 := Tryz.underlying22
  a53 := Tryz.isAgg22
  z53 := Tryz.sizeOf22
  v53 := Tryz.zeroValue22
end Go.Proofs.YtcoljkigphnjfaaGreatDoor

/- M22: Qs -/
import Derived.Test.YtnbjnnijifiaaaaGreatDoorM01
import Derived.Shelf.Bits.Mul64
import Derived.Test.YtnbjnnijifiaaaaGreatDoorChecked
set_option linter.unusedVariables false
set_option linter.unusedSimpArgs false
namespace Go.Proofs.YtnbjnnijifiaaaaGreatDoor
open Go.RowKit Go.Shelf
def ren264:Ren:=⟨fun x=>if x=264 then 235 else x,fun x=>if x=53 then 23 else if x=46 then 217 else x,fun x=>x⟩
theorem lays264:Lays.n264 Tryz.prog ren264 where
 mixed:=by kernel_rfl
 f264:=(Tryz.func235).trans (congrArg some (by kernel_rfl))
 t46:=Tryz.underlying217
 a46:=Tryz.isAgg217
 z46:=Tryz.sizeOf217
 v46:=Tryz.zeroValue217
 t53:=Tryz.underlying23
 a53:=Tryz.isAgg23
 z53:=Tryz.sizeOf23
 v53:=Tryz.zeroValue23
end Go.Proofs.YtnbjnnijifiaaaaGreatDoor

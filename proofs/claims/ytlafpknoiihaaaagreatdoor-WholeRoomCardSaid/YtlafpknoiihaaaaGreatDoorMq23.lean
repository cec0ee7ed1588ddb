/- Mq23: Qs -/
import Derived.Test.YtlafpknoiihaaaaGreatDoorMq01
import Derived.Shelf.Bits.Mul64
import Derived.Test.YtlafpknoiihaaaaGreatDoorChecked
set_option linter.unusedVariables false
set_option linter.unusedSimpArgs false
namespace Go.Proofs.YtlafpknoiihaaaaGreatDoor
open Go.RowKit Go.Shelf
def ren264:Ren:=⟨fun x=>if x=264 then 211 else x,fun x=>if x=53 then 22 else if x=46 then 213 else x,fun x=>x⟩
theorem lays264:Lays.n264 Tryz.prog ren264 where
 mixed:=by kernel_rfl
 f264:=(Tryz.func211).trans (congrArg some (by kernel_rfl))
 t46:=Tryz.underlying213
 a46:=Tryz.isAgg213
 z46:=Tryz.sizeOf213
 v46:=Tryz.zeroValue213
 t53:=Tryz.underlying22
 a53:=Tryz.isAgg22
 z53:=Tryz.sizeOf22
 v53:=Tryz.zeroValue22
end Go.Proofs.YtlafpknoiihaaaaGreatDoor

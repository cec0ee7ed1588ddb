/- WholeSmall, walked. -/
import Derived.Test.YtcoljkigphnjfaaGreatDoorM30
import Derived.Test.YtcoljkigphnjfaaGreatDoorM34
set_option linter.unusedVariables false
set_option linter.unusedSimpArgs false
namespace Go.Proofs.YtcoljkigphnjfaaGreatDoor
open Go.RowKit

theorem wholeSmall_walk (w : World) (n : Int) (wn : (Lit.int .i64 n).wf = true) (a : Int) (wa : (Lit.int .u64 a).wf = true) :
    Calls Tryz.prog 3 #[.int .i64 n, .int .u64 a] w fun e w' => e = .returned (.bool true) ∧ Mod [] w w' := by
  have h1 : IntKind.u64.min = 0 := rfl
  have h2 : IntKind.u64.max = 18446744073709551615 := rfl
  obtain ⟨z, rfl, hz⟩ : ∃ z : Nat, a = (z : Int) ∧ z < B64 := by
    simp [Lit.wf, h1, h2] at wa
    exact ⟨a.toNat, by omega, by unfold B64; omega⟩
  exact whole_c alive_c n z hz w
end Go.Proofs.YtcoljkigphnjfaaGreatDoor

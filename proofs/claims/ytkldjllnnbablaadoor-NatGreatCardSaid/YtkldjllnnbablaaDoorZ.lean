/- The law's told; the law NatSums: its walk. -/
import Derived.Test.YtkldjllnnbablaaDoorY
set_option linter.unusedVariables false
set_option linter.unusedSimpArgs false
namespace Go.Proofs.YtkldjllnnbablaaDoor
open Go.RowKit Go.Shelf

theorem lawNot_c (v dv : Value) (w : World) : Calls Tryd.prog 26 #[v, .bool false, dv] w fun e w' => e = .returned (.bool false) ∧ Mod [] w w' := by
  go_enter Tryd.func26, Tryd.ntmps26
  go_wp2
  go_ret
  exact ⟨rfl, Mod.refl _ _⟩
theorem lawTold_c {w : World} {v1 v2 : Value} {l d F1 F2 : List Nat} {m n : Nat} (h1 : Nv w v1 l F1) (hc : Can B64 l m) (hl : l.length ≤ 64) (h2 : Dv w v2 d n F2) (hd : d.length ≤ 10000) :
    Calls Tryd.prog 26 #[v1, .bool true, v2] w fun e w' => e = .returned (.bool (decide (m = n))) ∧ Mod [] w w' := by
  have IC := Lib.hid (is_c h1 hc hl h2 hd)
  clear h1 hc hl h2 hd
  obtain ⟨r, hr⟩ : ∃ r, decide (m = n) = r := ⟨_, rfl⟩
  rw [hr] at IC ⊢
  clear hr
  go_enter Tryd.func26, Tryd.ntmps26
  go_wp2_with fail
  refine IC.out.mono ?_
  rintro e w' ⟨rfl, hm⟩
  have HM := Lib.hid hm
  clear hm
  go_wp2
  go_ret
  exact ⟨rfl, HM.out⟩
end Go.Proofs.YtkldjllnnbablaaDoor

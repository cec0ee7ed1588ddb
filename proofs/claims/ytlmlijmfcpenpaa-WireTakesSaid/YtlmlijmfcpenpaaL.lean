/- The law WireTakes: all its ways. -/
import Derived.Test.YtlmlijmfcpenpaaK
set_option linter.unusedVariables false
set_option linter.unusedSimpArgs false
namespace Go.Proofs.Ytlmlijmfcpenpaa
open Go.RowKit

set_option maxRecDepth 100000 in
set_option maxHeartbeats 1000000 in
theorem wireTakes_long (w : World) (a0 : Option Addr) (len cap : Nat) (a1 : Option Addr) (len1 cap1 : Nat) (h : (300 : Int) < len ∨ ((len : Int) ≤ 300 ∧ (30 : Int) < len1)) :
    Calls Try.prog 4 #[.slice a0 len cap, .slice a1 len1 cap1] w fun e w' => e = .returned (.bool true) ∧ Mod [] w w' := by
  rcases h with h | ⟨h, h'⟩
  all_goals
    go_enter Try.func4, Try.ntmps4
    go_wp2_with fail
    refine (alive_c w).mono ?_
    rintro e w1 ⟨rfl, M1⟩
    have Z1 := Lib.hid M1
    clear M1
    go_wp2_with fail
    go_ret
    exact ⟨rfl, Z1.out⟩

theorem wireTakes_walk (w : World) (a0 : Option Addr) (len cap : Nat) (z : Nat → Int) (hw : IntRow .u8 w a0 len cap z) (a1 : Option Addr) (len1 cap1 : Nat) (z1 : Nat → Nat → Int) (hw1 : Recs w a1 len1 cap1 [.u8, .u64] z1) :
    Calls Try.prog 4 #[.slice a0 len cap, .slice a1 len1 cap1] w fun e w' => e = .returned (.bool true) ∧ Mod [] w w' := by
  by_cases h : len ≤ 300
  · by_cases h' : len1 ≤ 30
    · obtain ⟨l, F, hr, hl, hF⟩ := Rd.of_row hw
      exact wireTakes_main w a0 len cap l F hr hF hl h a1 len1 cap1 z1 hw1 h'
    · exact wireTakes_long w a0 len cap a1 len1 cap1 (.inr ⟨by omega, by omega⟩)
  · exact wireTakes_long w a0 len cap a1 len1 cap1 (.inl (by omega))
end Go.Proofs.Ytlmlijmfcpenpaa

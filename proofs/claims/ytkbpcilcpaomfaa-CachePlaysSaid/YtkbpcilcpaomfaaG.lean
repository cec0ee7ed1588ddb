/- The law CachePlays: all its ways. -/
import Derived.Test.YtkbpcilcpaomfaaF
set_option linter.unusedVariables false
set_option linter.unusedSimpArgs false
namespace Go.Proofs.Ytkbpcilcpaomfaa
open Go.RowKit

set_option maxRecDepth 100000 in
set_option maxHeartbeats 1600000 in
theorem cachePlays_long (w : World) (b : Int) (a0 : Option Addr) (len cap : Nat) (h : (200 : Int) < len) :
    Calls Try.prog 4 #[.int .i64 b, .slice a0 len cap] w fun e w' => e = .returned (.bool true) ∧ Mod [] w w' := by
  go_enter Try.func4, Try.ntmps4
  go_wp2_with fail
  refine (alive_c w).mono ?_
  rintro e w1 ⟨rfl, M1⟩
  have Z1 := Lib.hid M1
  clear M1
  go_wp2_with fail
  go_ret
  exact ⟨rfl, Z1.out⟩

set_option maxRecDepth 100000 in
set_option maxHeartbeats 1600000 in
theorem cachePlays_mid (w : World) (b : Int) (a0 : Option Addr) (len cap : Nat) (h : (len : Int) ≤ 200) (h1 : 10 < b) (h2 : b ≤ 20) :
    Calls Try.prog 4 #[.int .i64 b, .slice a0 len cap] w fun e w' => e = .returned (.bool true) ∧ Mod [] w w' := by
  go_enter Try.func4, Try.ntmps4
  go_wp2_with fail
  refine (alive_c w).mono ?_
  rintro e w1 ⟨rfl, M1⟩
  have Z1 := Lib.hid M1
  clear M1
  go_wp2_with fail
  go_ret
  exact ⟨rfl, Z1.out⟩

set_option maxRecDepth 100000 in
set_option maxHeartbeats 1600000 in
theorem cachePlays_high (w : World) (b : Int) (a0 : Option Addr) (len cap : Nat) (h : (len : Int) ≤ 200) (h1 : 20 < b) :
    Calls Try.prog 4 #[.int .i64 b, .slice a0 len cap] w fun e w' => e = .returned (.bool true) ∧ Mod [] w w' := by
  have h0 : ¬ b < 0 := by omega
  have h2 : ¬ b ≤ 20 := by omega
  go_enter Try.func4, Try.ntmps4
  go_wp2_with fail
  refine (alive_c w).mono ?_
  rintro e w1 ⟨rfl, M1⟩
  have Z1 := Lib.hid M1
  clear M1
  go_wp2_with fail
  refine (new_bad b (by omega) w1).mono ?_
  rintro e w2 ⟨rfl, rfl⟩
  go_wp2_with fail
  go_ret
  exact ⟨rfl, Z1.out⟩

set_option maxRecDepth 100000 in
set_option maxHeartbeats 1600000 in
theorem cachePlays_low (w : World) (b : Int) (a0 : Option Addr) (len cap : Nat) (h : (len : Int) ≤ 200) (h1 : b < 0) :
    Calls Try.prog 4 #[.int .i64 b, .slice a0 len cap] w fun e w' => e = .returned (.bool true) ∧ Mod [] w w' := by
  have h0 : ¬ 10 < b := by omega
  go_enter Try.func4, Try.ntmps4
  go_wp2_with fail
  refine (alive_c w).mono ?_
  rintro e w1 ⟨rfl, M1⟩
  have Z1 := Lib.hid M1
  clear M1
  go_wp2_with fail
  refine (new_bad b (by omega) w1).mono ?_
  rintro e w2 ⟨rfl, rfl⟩
  go_wp2_with fail
  go_ret
  exact ⟨rfl, Z1.out⟩

theorem cachePlays_walk (w : World) (b : Int) (_wb : (Lit.int .i64 b).wf = true) (a0 : Option Addr) (len cap : Nat) (z : Nat → Nat → Int) (hw : Recs w a0 len cap [.u8, .u32, .i64] z) :
    Calls Try.prog 4 #[.int .i64 b, .slice a0 len cap] w fun e w' => e = .returned (.bool true) ∧ Mod [] w w' := by
  by_cases h : (200 : Int) < len
  · exact cachePlays_long w b a0 len cap h
  by_cases h1 : b < 0
  · exact cachePlays_low w b a0 len cap (by omega) h1
  by_cases h2 : 20 < b
  · exact cachePlays_high w b a0 len cap (by omega) h2
  by_cases h3 : 10 < b
  · exact cachePlays_mid w b a0 len cap (by omega) h3 (by omega)
  · obtain ⟨j, rfl⟩ := Int.eq_ofNat_of_zero_le (by omega : 0 ≤ b)
    exact cachePlays_main w j (by omega) a0 len cap z (by omega) hw
end Go.Proofs.Ytkbpcilcpaomfaa

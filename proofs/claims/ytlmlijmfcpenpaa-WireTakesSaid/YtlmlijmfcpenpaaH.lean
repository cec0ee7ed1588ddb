/- The law WirePuts: all its ways. -/
import Derived.Test.YtlmlijmfcpenpaaG
set_option linter.unusedVariables false
set_option linter.unusedSimpArgs false
namespace Go.Proofs.Ytlmlijmfcpenpaa
open Go.RowKit

theorem bounds_u64' {x : Int} (h : (Lit.int .u64 x).wf = true) : ∃ n : Nat, x = n ∧ n < 18446744073709551616 := by
  obtain ⟨h0, h1⟩ := bounds_u64 h
  obtain ⟨n, rfl⟩ := Int.eq_ofNat_of_zero_le h0
  exact ⟨n, rfl, by omega⟩

set_option maxHeartbeats 1000000 in
theorem wirePuts_long (w : World) (a0 : Option Addr) (len cap : Nat) (n : Int) (s : ByteArray) (h : (200 : Int) < len ∨ ((len : Int) ≤ 200 ∧ (300 : Int) < s.size)) :
    Calls Try.prog 3 #[.slice a0 len cap, .int .u64 n, .string s] w fun e w' => e = .returned (.bool true) ∧ Mod [] w w' := by
  rcases h with h | ⟨h, h'⟩
  all_goals
    go_enter Try.func3, Try.ntmps3
    go_wp2_with fail
    refine (alive_c w).mono ?_
    rintro e w1 ⟨rfl, M1⟩
    have Z1 := Lib.hid M1
    clear M1
    go_wp2_with fail
    go_ret
    exact ⟨rfl, Z1.out⟩

theorem wirePuts_walk (w : World) (a0 : Option Addr) (len cap : Nat) (z : Nat → Int) (hw : IntRow .u8 w a0 len cap z) (n : Int) (wn : (Lit.int .u64 n).wf = true) (s : ByteArray) (_ws : s.size ≤ maxLen) :
    Calls Try.prog 3 #[.slice a0 len cap, .int .u64 n, .string s] w fun e w' => e = .returned (.bool true) ∧ Mod [] w w' := by
  by_cases h : len ≤ 200
  · by_cases h' : s.size ≤ 300
    · obtain ⟨n, rfl, hn⟩ := bounds_u64' wn
      obtain ⟨l, F, hr, hl, _⟩ := Rd.of_row hw
      exact wirePuts_main w a0 len cap l F hr hl h n hn s h'
    · exact wirePuts_long w a0 len cap n s (.inr ⟨by omega, by omega⟩)
  · exact wirePuts_long w a0 len cap n s (.inl (by omega))
end Go.Proofs.Ytlmlijmfcpenpaa

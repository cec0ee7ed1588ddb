/- The arena's example 'alive', and the law ArenaFull: there is just as much room. -/
import Derived.Test.YtlkakkgmjihlaaaEI
import Derived.Test.YtlkakkgmjihlaaaES
set_option linter.unusedVariables false
set_option linter.unusedSimpArgs false
namespace Go.Proofs.Ytlkakkgmjihlaaa
open Go.RowKit

set_option maxRecDepth 100000 in
set_option maxHeartbeats 1600000 in
theorem alive_c (w : World) : Calls Try.prog 7 #[] w fun e w' => e = .returned (.bool true) ∧ Mod [] w w' := by
  go_enter Try.func7, Try.ntmps7
  go_wp2_with fail
  refine (I.own_new [] 2 (by omega) w w (Mod.refl _ _) (by simp)).mono ?_
  rintro e w1 ⟨rfl, H1, -⟩
  have X1 := Lib.hid H1
  clear H1
  generalize w.heap.size = b at *
  go_wp2_with fail
  refine (I.own_put X1.out (by decide) 7).mono ?_
  rintro e w2 ⟨rfl, H2, -⟩
  have X2 : Hid (I.Own [] w w2 b ⟨[(7, true, 0)], [], 1, 2⟩) := H2
  have p1 : (((⟨[], [], 0, 2⟩ : AR Int).putId : Nat) : Int) = 2 := rfl
  clear H2
  go_wp2_with fail
  refine (I.own_put X2.out (by decide) 8).mono ?_
  rintro e w3 ⟨rfl, H3, -⟩
  have X3 : Hid (I.Own [] w w3 b ⟨[(7, true, 0), (8, true, 0)], [], 2, 2⟩) := H3
  have p2 : (((⟨[(7, true, 0)], [], 1, 2⟩ : AR Int).putId : Nat) : Int) = 3 := rfl
  clear H3
  go_wp2_with fail
  refine (I.own_put_full X3.out (by decide) 9).mono ?_
  rintro e w4 ⟨rfl, H4, -⟩
  have X4 := Lib.hid H4
  clear H4
  go_wp2_with fail
  refine (I.own_drop X4.out 2 (by decide) (x := 7) (k := 0) rfl (by decide)).mono ?_
  rintro e w5 ⟨rfl, H5, -⟩
  have X5 : Hid (I.Own [] w w5 b ⟨[(0, false, 0), (8, true, 0)], [2], 1, 2⟩) := H5
  clear H5
  go_wp2_with fail
  refine (I.own_put X5.out (by decide) 5).mono ?_
  rintro e w6 ⟨rfl, H6, -⟩
  have p3 : (((⟨[(0, false, 0), (8, true, 0)], [2], 1, 2⟩ : AR Int).putId : Nat) : Int) = 2 := rfl
  have M := Lib.hid (H6.mod)
  clear H6
  go_wp2
  go_ret
  exact ⟨rfl, M.out⟩

def full (k r : Nat) : AR ByteArray := ⟨List.replicate k (⟨#[120]⟩, true, 0), [], k, r⟩
theorem full_put (k r : Nat) : (full k r).put ⟨#[120]⟩ = full (k + 1) r := by
  simp [full, AR.put, List.replicate_succ']

set_option maxRecDepth 100000 in
set_option maxHeartbeats 4000000 in
theorem arenaFull_walk (w : World) (r : Int) (wr : (Lit.int .u8 r).wf = true) : Calls Try.prog 3 #[.int .u8 r] w fun e w' => e = .returned (.bool true) ∧ Mod [] w w' := by
  obtain ⟨r0, r1⟩ := bounds_u8 wr
  clear wr
  obtain ⟨r, rfl⟩ := Int.eq_ofNat_of_zero_le r0
  go_enter Try.func3, Try.ntmps3
  go_wp2_with fail
  refine (alive_c w).mono ?_
  rintro e w1 ⟨rfl, M1⟩
  have Z1 := Lib.hid M1
  clear M1
  go_wp2_with fail
  refine (S.own_new [] r (by omega) w w1 Z1.out (by simp)).mono ?_
  rintro e w2 ⟨rfl, H2, -⟩
  have X2 := Lib.hid H2
  clear H2
  generalize w1.heap.size = b at *
  go_wp2_with fail
  go_loopw [5] (fun i wr => ∃ k : Nat, i = .int .i64 k ∧ k ≤ r ∧ S.Own [] w wr b (full k r)) (fun i _ => r - (intOf i).toNat)
  case atStart => exact ⟨0, rfl, Nat.zero_le _, X2.out⟩
  case round =>
    obtain ⟨k, rfl, hk, ho⟩ := hrel
    have X3 := Lib.hid ho
    clear ho
    by_cases hlt : k < r
    · go_wp2_with fail
      refine (S.own_put X3.out (by simpa [full] using hlt) ⟨#[120]⟩).mono ?_
      rintro e w3 ⟨rfl, H3, -⟩
      rw [full_put] at H3
      have X4 := Lib.hid H3
      clear H3
      go_wp2
      go_roundw
      case rel => exact ⟨k + 1, by go_num, by omega, X4.out⟩
      case measure => simp [intOf]; omega
    obtain rfl : k = r := by omega
    go_wp2_with fail
    refine (S.own_put_full X3.out (by simp [full]) ⟨#[121]⟩).mono ?_
    rintro e w3 ⟨rfl, H3, -⟩
    have X4 := Lib.hid H3
    clear H3
    have hn : (((full k k).n : Nat) : Int) = (k : Int) := rfl
    cases k with
    | zero =>
      go_wp2_with (go_at_call 10; refine (S.own_len X4.out).mono ?_; rintro e w' ⟨rfl, rfl⟩)
      go_ret
      exact ⟨rfl, X4.out.mod⟩
    | succ k =>
      have hk0 : (((k + 1 : Nat) : Int) == 0) = false := by rw [beq_eq_false_iff_ne]; omega
      go_wp2_with (go_at_call 10; refine (S.own_len X4.out).mono ?_; rintro e w' ⟨rfl, rfl⟩)
      refine (S.own_drop X4.out 2 (by decide) (x := ⟨#[120]⟩) (k := 0) rfl (by decide)).mono ?_
      rintro e w5 ⟨rfl, H5, -⟩
      have X5 := Lib.hid H5
      clear H5
      go_wp2_with fail
      have hid : (AR.drop (full (k + 1) (k + 1)) ByteArray.empty 2).putId = 2 := by simp [AR.drop, full, AR.putId]
      have hcell : ((AR.drop (full (k + 1) (k + 1)) ByteArray.empty 2).put ⟨#[122]⟩).cells[2 - 2]? = some (⟨#[122]⟩, true, 0) := by simp [AR.drop, full, AR.put]
      have HI := Lib.hid hid
      have HC := Lib.hid hcell
      clear hid hcell
      refine (S.own_put X5.out (by simp [AR.drop, full]) ⟨#[122]⟩).mono ?_
      rw [HI.out]
      rintro e w6 ⟨rfl, H6, -⟩
      have X6 := Lib.hid H6
      clear H6
      go_wp2_with fail
      refine (S.own_get X6.out 2 (by decide) HC.out).mono ?_
      rintro e w7 ⟨rfl, rfl⟩
      go_wp2
      go_ret
      exact ⟨rfl, X6.out.mod⟩
end Go.Proofs.Ytlkakkgmjihlaaa

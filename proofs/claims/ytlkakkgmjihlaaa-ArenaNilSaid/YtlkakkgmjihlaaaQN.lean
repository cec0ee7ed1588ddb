/- The law ArenaNil: the walk. -/
import Derived.Test.YtlkakkgmjihlaaaQI
import Derived.Test.YtlkakkgmjihlaaaF
set_option linter.unusedVariables false
set_option linter.unusedSimpArgs false
namespace Go.Proofs.Ytlkakkgmjihlaaa
open Go.RowKit

theorem tk_nil (n : Int) : tk [] n = [] := by unfold tk; exact List.take_nil

set_option maxRecDepth 100000 in
set_option maxHeartbeats 4000000 in
theorem arenaNil_walk (w : World) (id : Int) (wi : (Lit.int .u32 id).wf = true) (x : Int) (wx : (Lit.int .i64 x).wf = true) :
    Calls Try.prog 6 #[.int .u32 id, .int .i64 x] w fun e w' => e = .returned (.bool true) ∧ Mod [] w w' := by
  clear wi wx
  have T0 : Hid (∀ n, tk [] n = []) := tk_nil
  have L0 : Hid (([] : List Int).length ≤ 100000) := Nat.zero_le _
  have N0 : Hid ((([] : List Int).map ei).length = 0) := rfl
  have H9 : Hid ((9 : Int) ≤ 9223372036854775807) := by show _ ≤ _; omega
  go_enter Try.func6, Try.ntmps6
  go_wp2_with fail
  refine (alive_c w).mono ?_
  rintro e w1 ⟨rfl, m1⟩
  have M1 := Lib.hid m1
  clear m1
  go_wp2_with fail
  refine (I.put_nil x w1).mono ?_
  rintro e w2 ⟨rfl, d, hd⟩
  have M2 : Hid (Mod [] w w2) := by show Mod _ _ _; rw [hd]; exact M1.out.drewN d
  clear hd M1
  go_wp2_with (first | (go_at_call 18; refine (I.get_nil _ _).mono ?_; rintro e w' ⟨rfl, rfl⟩) | (go_at_call 22; refine (I.set_nil _ _ _).mono ?_; rintro e w' ⟨rfl, rfl⟩) | (go_at_call 16; refine (I.drop_nil _ _).mono ?_; rintro e w' ⟨rfl, rfl⟩) | (go_at_call 15; refine (I.hold_nil _ _).mono ?_; rintro e w' ⟨rfl, rfl⟩) | (go_at_call 17; refine (I.let_nil _ _).mono ?_; rintro e w' ⟨rfl, rfl⟩) | (go_at_call 23; refine (I.held_nil _ _).mono ?_; rintro e w' ⟨rfl, rfl⟩) | (go_at_call 19; refine (I.len_nil _).mono ?_; rintro e w' ⟨rfl, rfl⟩) | (go_at_call 24; refine (I.room_nil _).mono ?_; rintro e w' ⟨rfl, rfl⟩))
  refine (ids_nil_c w2).mono ?_
  rintro e w3 ⟨lb3, rfl, ⟨R3, s3, f3⟩, m3⟩
  have S3 := Lib.hid s3
  have M3 := Lib.hid (M2.out.trans m3 (by simp))
  clear s3 f3 m3
  go_wp2_with fail
  refine (collect_c S3.out _ H9.out (by rw [T0.out]; exact L0.out)).mono ?_
  rintro e w4 ⟨v4, rfl, n4⟩
  rw [T0.out] at n4
  obtain ⟨A4, c4, rfl⟩ := n4.shape
  have M4 := Lib.hid (M3.out.trans n4.mod (by simp))
  clear n4
  rw [N0.out]
  go_wp2
  go_ret
  exact ⟨rfl, M4.out⟩
end Go.Proofs.Ytlkakkgmjihlaaa

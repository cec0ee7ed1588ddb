/- The example 'alive', and the law of no cache. -/
import Derived.Test.YtkbpcilcpaomfaaB
set_option linter.unusedVariables false
set_option linter.unusedSimpArgs false
namespace Go.Proofs.Ytkbpcilcpaomfaa
open Go.RowKit

theorem Head.mod {S : List Nat} {w w' : World} {b g n : Nat} {e hi mi : Int} (h : Head w b g n e hi mi) (m : Mod S w w') (hn : b ∉ S) : Head w' b g n e hi mi := Blk.mod h m hn

set_option maxHeartbeats 1600000 in
theorem alive_c (w : World) : Calls Try.prog 6 #[] w fun e w' => e = .returned (.bool true) ∧ Mod [] w w' := by
  go_enter Try.func6, Try.ntmps6
  go_wp2_with fail
  refine (new_c 0 (by omega) w).mono ?_
  rintro e w1 ⟨rfl, H1, T1, M1⟩
  have X1 := Lib.hid H1
  have Y1 := Lib.hid T1
  have Z1 := Lib.hid M1
  clear H1 T1 M1
  go_wp2_with fail
  refine (put_c 1 (by omega) 7 _ _ 0 (2 ^ 0) (by omega) rfl _ _ _ _ w1 X1.out Y1.out).mono ?_
  rintro e w2 ⟨rfl, T2, M2⟩
  have X2 := Lib.hid (X1.out.mod M2 (by simp))
  have Y2 := Lib.hid T2
  have Z2 := Lib.hid (Z1.out.trans M2 (by simp; omega))
  clear M2 T2
  go_wp2_with fail
  refine (put_c 2 (by omega) 8 _ _ 0 (2 ^ 0) (by omega) rfl _ _ _ _ w2 X2.out Y2.out).mono ?_
  rintro e w3 ⟨rfl, T3, M3⟩
  have X3 := Lib.hid (X2.out.mod M3 (by simp))
  have Y3 := Lib.hid T3
  have Z3 := Lib.hid (Z2.out.trans M3 (by simp; omega))
  clear M3 T3
  go_wp2_with fail
  refine (get_miss2 1 (by omega) _ _ 0 (2 ^ 0) (by omega) rfl _ _ _ (by omega) (by omega) _ w3 X3.out Y3.out (by omega) (by simp [upd]) (by simp [upd])).mono ?_
  rintro e w4 ⟨rfl, H4, M4⟩
  have X4 := Lib.hid H4
  have Y4 := Lib.hid (Y3.out.mod M4 (by simp))
  have Z4 := Lib.hid (Z3.out.trans M4 (by simp; omega))
  clear M4 H4
  go_wp2_with fail
  refine (get_hit 2 (by omega) _ _ 0 (2 ^ 0) (by omega) rfl _ _ _ (by omega) (by omega) _ w4 X4.out Y4.out (by omega) (by simp [upd]) (by simp [upd])).mono ?_
  rintro e w5 ⟨rfl, H5, M5⟩
  have Z5 := Lib.hid (Z4.out.trans M5 (by simp; omega))
  clear M5 H5
  have hv : ((upd (upd (fun _ => ((0 : Nat), (0 : Int), (0 : Int))) (1 % 2 ^ 0) (1, 7, 1)) (2 % 2 ^ 0) (2, 8, 1) (2 % 2 ^ 0)).2.1 == 8) = true := by simp [upd]
  go_wp2
  go_ret
  exact ⟨rfl, Z5.out⟩

set_option maxHeartbeats 1600000 in
theorem cacheNil_c (k v : Int) (w : World) : Calls Try.prog 5 #[.int .u32 k, .int .i64 v] w fun e w' => e = .returned (.bool true) ∧ Mod [] w w' := by
  go_enter Try.func5, Try.ntmps5
  go_wp2_with fail
  refine (alive_c w).mono ?_
  rintro e w1 ⟨rfl, M1⟩
  have Z1 := Lib.hid M1
  clear M1
  go_wp2_with (first
    | (go_at_call 8; refine (put_nil _ _ _).mono ?_; rintro e w' ⟨rfl, rfl⟩)
    | (go_at_call 9; refine (get_nil _ _).mono ?_; rintro e w' ⟨rfl, rfl⟩)
    | (go_at_call 10; refine (flush_nil _).mono ?_; rintro e w' ⟨rfl, rfl⟩)
    | (go_at_call 12; refine (hits_nil _).mono ?_; rintro e w' ⟨rfl, rfl⟩)
    | (go_at_call 13; refine (misses_nil _).mono ?_; rintro e w' ⟨rfl, rfl⟩)
    | (go_at_call 14; refine (epoch_nil _).mono ?_; rintro e w' ⟨rfl, rfl⟩))
  go_ret
  exact ⟨rfl, Z1.out⟩

theorem cacheNil_walk (w : World) (k : Int) (_wk : (Lit.int .u32 k).wf = true) (v : Int) (_wv : (Lit.int .i64 v).wf = true) : Calls Try.prog 5 #[.int .u32 k, .int .i64 v] w fun e w' => e = .returned (.bool true) ∧ Mod [] w w' := cacheNil_c k v w
end Go.Proofs.Ytkbpcilcpaomfaa

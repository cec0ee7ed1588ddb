/- The law SeqNil: the walk. -/
import Derived.Test.YtchbgnfmmplinaaS
import Derived.Test.YtchbgnfmmplinaaR
set_option linter.unusedVariables false
set_option linter.unusedSimpArgs false
namespace Go.Proofs.Ytchbgnfmmplinaa
open Go.RowKit

theorem tk_nil (n : Int) : tk [] n = [] := by unfold tk; exact List.take_nil
theorem sk_nil (n : Int) : sk [] n = [] := by unfold sk; exact List.drop_nil
theorem evL_nil (n : Int) : evL [] n = [] := by unfold evL ev; split <;> rfl

set_option maxRecDepth 100000 in
set_option maxHeartbeats 8000000 in
theorem seqNil_main (w : World) (a0 : Option Addr) (len cap : Nat) (l : List Int) (F : List Nat) (r : Rv w (.slice a0 len cap) (l.map ei) F) (hl : l.length = len) (h100 : len ≤ 100) (n : Int) (hn : I64 n) :
    Calls Try.prog 8 #[.int .i64 n, .slice a0 len cap] w fun e w' => e = .returned (.bool true) ∧ Mod [] w w' := by
  have A := Lib.hid r
  have hgt : ¬ ((100 : Int) < len) := by omega
  have LE : Hid (l.length ≤ 100000) := by show _ ≤ _; omega
  have HN := Lib.hid hn
  have NL : Hid ((l.map ei).length = len) := by show _ = _; rw [List.length_map, hl]
  have H9 : Hid ((9 : Int) ≤ 9223372036854775807) := by show _ ≤ _; omega
  have H2 : Hid ((200 : Int) ≤ 9223372036854775807) := by show _ ≤ _; omega
  have EQ : Hid (tk l 200 = l) := tk_all (by omega)
  have N0 : Hid ((([] : List Int).map ei).length = 0) := rfl
  have T0 : Hid (∀ n, tk [] n = []) := tk_nil
  have S0 : Hid (∀ n, sk [] n = []) := sk_nil
  have V0 : Hid (∀ n, evL [] n = []) := evL_nil
  have L0 : Hid (([] : List Int).length ≤ 100000) := Nat.zero_le _
  have G0 : Hid (∀ l, mgL [] l = l) := mgL_nil
  have C0 : Hid (catL [] = []) := rfl
  clear r hn hl h100
  go_enter Try.func8, Try.ntmps8
  go_wp2_with fail
  refine (alive_c w).mono ?_
  rintro e w1 ⟨rfl, m1⟩
  have M1 := Lib.hid m1
  have A_1 := Lib.hid (A.out.mod m1 (by simp))
  clear m1
  go_wp2_with fail
  refine (collect_v NoneTo.nil (noneI w1) n HN.out.2 (by rw [T0.out]; exact L0.out)).mono ?_
  rintro e w2 ⟨v2, rfl, n2⟩
  rw [T0.out] at n2
  obtain ⟨A2, c2, rfl⟩ := n2.shape
  obtain ⟨F2, r2, _⟩ := n2.rv
  have m2 := n2.mod
  clear n2
  rw [N0.out] at r2 ⊢
  have M2 := Lib.hid (M1.out.trans m2 (by simp))
  have A_2 := Lib.hid (A_1.out.mod m2 (by simp))
  have Q := Lib.hid r2
  clear r2 m2
  clear Q
  go_wp2_with fail
  refine (len_v NoneTo.nil (noneI w2) n HN.out.2 (by rw [T0.out]; exact L0.out)).mono ?_
  rintro e w3 ⟨rfl, m3⟩
  rw [T0.out]
  have M3 := Lib.hid (M2.out.trans m3 (by simp))
  have A_3 := Lib.hid (A_2.out.mod m3 (by simp))
  clear m3
  go_wp2_with fail
  refine (take_v NoneTo.nil (noneI w3) n HN.out.2).mono ?_
  rintro e w4 ⟨lb4, rfl, ⟨R4, s4, f4⟩, m4⟩
  have M4 := Lib.hid (M3.out.trans m4 (by simp))
  have A_4 := Lib.hid (A_3.out.mod m4 (by simp))
  have T := Lib.hid s4
  clear s4 m4 f4
  go_wp2_with fail
  refine (collect_c T.out _ H9.out (by rw [T0.out, T0.out]; exact L0.out)).mono ?_
  rintro e w5 ⟨v5, rfl, n5⟩
  rw [T0.out, T0.out] at n5
  obtain ⟨A5, c5, rfl⟩ := n5.shape
  obtain ⟨F5, r5, _⟩ := n5.rv
  have m5 := n5.mod
  clear n5
  rw [N0.out] at r5 ⊢
  have M5 := Lib.hid (M4.out.trans m5 (by simp))
  have A_5 := Lib.hid (A_4.out.mod m5 (by simp))
  have T_5 := Lib.hid (T.out.mod m5 (by simp))
  have Q := Lib.hid r5
  clear r5 m5
  clear Q
  clear T_5
  go_wp2_with fail
  refine (skip_v NoneTo.nil (noneI w5) n HN.out).mono ?_
  rintro e w6 ⟨lb6, rfl, ⟨R6, s6, f6⟩, m6⟩
  have M6 := Lib.hid (M5.out.trans m6 (by simp))
  have A_6 := Lib.hid (A_5.out.mod m6 (by simp))
  have T := Lib.hid s6
  clear s6 m6 f6
  go_wp2_with fail
  refine (collect_c T.out _ H9.out (by rw [S0.out, T0.out]; exact L0.out)).mono ?_
  rintro e w7 ⟨v7, rfl, n7⟩
  rw [S0.out, T0.out] at n7
  obtain ⟨A7, c7, rfl⟩ := n7.shape
  obtain ⟨F7, r7, _⟩ := n7.rv
  have m7 := n7.mod
  clear n7
  rw [N0.out] at r7 ⊢
  have M7 := Lib.hid (M6.out.trans m7 (by simp))
  have A_7 := Lib.hid (A_6.out.mod m7 (by simp))
  have T_7 := Lib.hid (T.out.mod m7 (by simp))
  have Q := Lib.hid r7
  clear r7 m7
  clear Q
  clear T_7
  go_wp2_with fail
  refine (every_v NoneTo.nil (noneI w7) n HN.out).mono ?_
  rintro e w8 ⟨lb8, rfl, ⟨R8, s8, f8⟩, m8⟩
  have M8 := Lib.hid (M7.out.trans m8 (by simp))
  have A_8 := Lib.hid (A_7.out.mod m8 (by simp))
  have T := Lib.hid s8
  clear s8 m8 f8
  go_wp2_with fail
  refine (collect_c T.out _ H9.out (by rw [V0.out, T0.out]; exact L0.out)).mono ?_
  rintro e w9 ⟨v9, rfl, n9⟩
  rw [V0.out, T0.out] at n9
  obtain ⟨A9, c9, rfl⟩ := n9.shape
  obtain ⟨F9, r9, _⟩ := n9.rv
  have m9 := n9.mod
  clear n9
  rw [N0.out] at r9 ⊢
  have M9 := Lib.hid (M8.out.trans m9 (by simp))
  have A_9 := Lib.hid (A_8.out.mod m9 (by simp))
  have T_9 := Lib.hid (T.out.mod m9 (by simp))
  have Q := Lib.hid r9
  clear r9 m9
  clear Q
  clear T_9
  go_wp2_with fail
  refine (merge_c NoneTo.nil (noneI w9) A_9.out LE.out).mono ?_
  rintro e w10 ⟨lb10, rfl, ⟨R10, s10, f10⟩, m10⟩
  have M10 := Lib.hid (M9.out.trans m10 (by simp))
  have A_10 := Lib.hid (A_9.out.mod m10 (by simp))
  have T := Lib.hid s10
  clear s10 m10 f10
  go_wp2_with fail
  refine (collect_c T.out _ H2.out (by rw [G0.out, EQ.out]; exact LE.out)).mono ?_
  rintro e w11 ⟨v11, rfl, n11⟩
  rw [G0.out, EQ.out] at n11
  obtain ⟨A11, c11, rfl⟩ := n11.shape
  obtain ⟨F11, r11, _⟩ := n11.rv
  have m11 := n11.mod
  clear n11
  rw [NL.out] at r11 ⊢
  have M11 := Lib.hid (M10.out.trans m11 (by simp))
  have A_11 := Lib.hid (A_10.out.mod m11 (by simp))
  have T_11 := Lib.hid (T.out.mod m11 (by simp))
  have Q := Lib.hid r11
  clear r11 m11
  go_wp2_with fail
  refine (same_yes Q.out A_11.out LE.out).mono ?_
  rintro e w12 ⟨rfl, m12⟩
  have M12 := Lib.hid (M11.out.trans m12 (by simp))
  have A_12 := Lib.hid (A_11.out.mod m12 (by simp))
  have T_12 := Lib.hid (T_11.out.mod m12 (by simp))
  have Q_12 := Lib.hid (Q.out.mod m12 (by simp))
  clear m12
  clear Q_12
  clear T_12
  go_wp2_with fail
  refine (concat_c (S := []) (R := []) (F := []) (by exact Rv.nil w12) (by simp) (by simp) (by simp) (by simp)).mono ?_
  rintro e w13 ⟨lb13, rfl, ⟨R13, s13, f13⟩, m13⟩
  have M13 := Lib.hid (M12.out.trans m13 (by simp))
  have A_13 := Lib.hid (A_12.out.mod m13 (by simp))
  have T := Lib.hid s13
  clear s13 m13 f13
  go_wp2_with fail
  refine (len_c T.out _ H9.out (by rw [C0.out, T0.out]; exact L0.out)).mono ?_
  rintro e w14 ⟨rfl, m14⟩
  rw [C0.out, T0.out]
  have M14 := Lib.hid (M13.out.trans m14 (by simp))
  have A_14 := Lib.hid (A_13.out.mod m14 (by simp))
  have T_14 := Lib.hid (T.out.mod m14 (by simp))
  clear m14
  go_wp2
  go_ret
  exact ⟨rfl, M14.out⟩

set_option maxRecDepth 100000 in
theorem seqNil_walk (w : World) (n : Int) (wn : (Lit.int .i64 n).wf = true) (a0 : Option Addr) (len cap : Nat) (z : Nat → Int) (hw : IntRow .i64 w a0 len cap z) :
    Calls Try.prog 8 #[.int .i64 n, .slice a0 len cap] w fun e w' => e = .returned (.bool true) ∧ Mod [] w w' := by
  obtain ⟨l, F, r, hl, hF, _⟩ := Rv.of_row hw
  have hn : I64 n := bounds_i64 wn
  by_cases h : len ≤ 100
  · exact seqNil_main w a0 len cap l F r hl h n hn
  · have hgt : (100 : Int) < len := by omega
    clear hw r hl wn hn hF
    go_enter Try.func8, Try.ntmps8
    go_wp2_with fail
    refine (alive_c w).mono ?_
    rintro e w1 ⟨rfl, m1⟩
    have M1 := Lib.hid m1
    clear m1
    go_wp2
    go_ret
    exact ⟨rfl, M1.out⟩
end Go.Proofs.Ytchbgnfmmplinaa

/- The law NatProducts: its walk. -/
import Derived.Test.YtkldjllnnbablaaDoorSB
set_option linter.unusedVariables false
set_option linter.unusedSimpArgs false
namespace Go.Proofs.YtkldjllnnbablaaDoor
open Go.RowKit Go.Shelf

theorem mul_small {x y : Nat} {a b : Nat} (h1 : x < B64 ^ a) (h2 : y < B64 ^ b) : x * y < B64 ^ (a + b) := by
  rw [Nat.pow_add]
  exact Nat.mul_lt_mul_of_lt_of_le h1 (Nat.le_of_lt h2) (Nat.pow_pos (by unfold B64; omega))
theorem pow_up {k m : Nat} (hk : k ≤ 64 * m) : 2 ^ k ≤ B64 ^ m := by
  have e : B64 = 2 ^ 64 := rfl
  rw [e, ← Nat.pow_mul]
  exact Nat.pow_le_pow_right (by omega) hk
theorem pow_small {x : Nat} (h : x < B64 ^ 8) {k : Nat} (hk : k ≤ 300) : x * 2 ^ k < B64 ^ (8 + 5) := by
  rw [Nat.pow_add]
  exact Nat.mul_lt_mul_of_lt_of_le h (pow_up (by omega)) (Nat.pow_pos (by unfold B64; omega))
theorem lim_of {x m : Nat} (h : x < B64 ^ m) (hm : m ≤ 64) : x < lim := Nat.lt_of_lt_of_le h (Nat.pow_le_pow_right (by unfold B64; omega) hm)

set_option maxRecDepth 100000 in
set_option maxHeartbeats 16000000 in
theorem natProducts_main (w : World) (a : Option Addr) (len cap : Nat) (l F : List Nat) (h : Nv w (.slice a len cap) l F) (hl : l.length = len) (a2 : Option Addr) (len2 cap2 : Nat) (l2 F2 : List Nat) (h2 : Nv w (.slice a2 len2 cap2) l2 F2) (hl2 : l2.length = len2) (k : Int) :
    Calls Tryd.prog 6 #[.slice a len cap, .slice a2 len2 cap2, .int .i64 k] w fun e w' => e = .returned (.bool true) ∧ Mod [] w w' := by
  have AL := Lib.hid alive_c
  have LG := Lib.hid (long_c a len cap)
  have LG2 := Lib.hid (long_c a2 len2 cap2)
  have HCAP := Lib.hid h.1.len
  have H := Lib.hid h
  have HL := Lib.hid hl
  have H2 := Lib.hid h2
  have HL2 := Lib.hid hl2
  clear h hl h2 hl2
  by_cases h8 : 8 < len
  · skip
    rw [decide_eq_true h8] at LG
    go_enter Tryd.func6, Tryd.ntmps6
    go_wp2_with fail
    refine (AL.out w).mono ?_
    rintro e w1 ⟨rfl, m1⟩
    have M1 := Lib.hid m1
    clear m1
    go_wp2_with fail
    refine (LG.out _).mono ?_
    rintro e wx ⟨rfl, rfl⟩
    go_wp2
    go_ret
    exact ⟨rfl, M1.out⟩
  · skip
    rw [decide_eq_false h8] at LG
    by_cases h82 : 8 < len2
    · skip
      rw [decide_eq_true h82] at LG2
      go_enter Tryd.func6, Tryd.ntmps6
      go_wp2_with fail
      refine (AL.out w).mono ?_
      rintro e w1 ⟨rfl, m1⟩
      have M1 := Lib.hid m1
      clear m1
      go_wp2_with fail
      refine (LG.out _).mono ?_
      rintro e wx ⟨rfl, rfl⟩
      go_wp2_with fail
      refine (LG2.out _).mono ?_
      rintro e wx ⟨rfl, rfl⟩
      go_wp2
      go_ret
      exact ⟨rfl, M1.out⟩
    · skip
      rw [decide_eq_false h82] at LG2
      have SM := Lib.hid (small_lim H.out.2 (by rw [HL.out]; omega))
      have SM2 := Lib.hid (small_lim H2.out.2 (by rw [HL2.out]; omega))
      have BX := Lib.hid SM.out.1
      have BY := Lib.hid SM2.out.1
      have LE1 : Hid (l.length ≤ 200) := by show _ ≤ _; rw [HL.out]; omega
      have LE2 : Hid (l2.length ≤ 200) := by show _ ≤ _; rw [HL2.out]; omega
      have LEL1 : Hid (l.length ≤ 100000) := by show _ ≤ _; rw [HL.out]; omega
      have LEL2 : Hid (l2.length ≤ 100000) := by show _ ≤ _; rw [HL2.out]; omega
      have BP := Lib.hid (mul_small BX.out BY.out)
      have YP : Hid ((decide (vl B64 l < lim) && decide (vl B64 l2 < lim) && decide (vl B64 l * vl B64 l2 < lim)) = true) := by
        show _ = _
        rw [decide_eq_true SM.out.2, decide_eq_true SM2.out.2, decide_eq_true (lim_of BP.out (by omega))]; rfl
      by_cases hk0 : k < 0
      · skip
        go_enter Tryd.func6, Tryd.ntmps6
        go_wp2_with fail
        refine (AL.out w).mono ?_
        rintro e w1 ⟨rfl, m1⟩
        have M1 := Lib.hid m1
        have H_1 := Lib.hid (H.out.mod m1 (by simp))
        have H2_1 := Lib.hid (H2.out.mod m1 (by simp))
        clear m1
        go_wp2_with fail
        refine (LG.out _).mono ?_
        rintro e wx ⟨rfl, rfl⟩
        go_wp2_with fail
        refine (LG2.out _).mono ?_
        rintro e wx ⟨rfl, rfl⟩
        go_wp2_with fail
        refine (digits_c (H_1.out) LE1.out).mono ?_
        rintro e w2 ⟨v2, rfl, m2, d2, F2, e2, -⟩
        have M2 := Lib.hid (M1.out.trans m2 (by simp))
        have H_2 := Lib.hid (H_1.out.mod m2 (by simp))
        have H2_2 := Lib.hid (H2_1.out.mod m2 (by simp))
        have X := Lib.hid e2
        have LX := Lib.hid (dig_len (m := 8) e2.2 BX.out)
        clear m2 e2
        go_wp2_with fail
        refine (digits_c (H2_2.out) LE2.out).mono ?_
        rintro e w3 ⟨v3, rfl, m3, d3, F3, e3, -⟩
        have M3 := Lib.hid (M2.out.trans m3 (by simp))
        have H_3 := Lib.hid (H_2.out.mod m3 (by simp))
        have H2_3 := Lib.hid (H2_2.out.mod m3 (by simp))
        have X_3 := Lib.hid (X.out.mod m3 (by simp))
        have Y := Lib.hid e3
        have LY := Lib.hid (dig_len (m := 8) e3.2 BY.out)
        clear m3 e3
        go_wp2_with fail
        refine (mul_c (H_3.out) (H2_3.out) LEL1.out LEL2.out).mono ?_
        rintro e w4 (⟨-, v4, rfl, n4⟩ | ⟨q4, -⟩)
        rotate_left
        · exact absurd (q4.symm.trans YP.out) (by simp)
        have M4 := Lib.hid (M3.out.trans n4.mod (by simp))
        have H_4 := Lib.hid (H_3.out.mod n4.mod (by simp))
        have H2_4 := Lib.hid (H2_3.out.mod n4.mod (by simp))
        have X_4 := Lib.hid (X_3.out.mod n4.mod (by simp))
        have Y_4 := Lib.hid (Y.out.mod n4.mod (by simp))
        obtain ⟨l4, F4, c4, r4, -⟩ := n4.nv
        have P := Lib.hid r4
        have CP := Lib.hid c4
        clear n4 r4 c4
        go_wp2_with fail
        refine (shiftNo_c (H_4.out) LEL1.out k hk0).mono ?_
        rintro e w5 ⟨rfl, m5⟩
        have M5 := Lib.hid (M4.out.trans m5 (by simp))
        have H_5 := Lib.hid (H_4.out.mod m5 (by simp))
        have H2_5 := Lib.hid (H2_4.out.mod m5 (by simp))
        have X_5 := Lib.hid (X_4.out.mod m5 (by simp))
        have Y_5 := Lib.hid (Y_4.out.mod m5 (by simp))
        have P_5 := Lib.hid (P.out.mod m5 (by simp))
        clear m5
        have lx := LX.out
        have ly := LY.out
        go_wp2_with fail
        refine (refMul_c (X_5.out) (Y_5.out) (by omega) (by omega)).mono ?_
        rintro e w6 ⟨v6, rfl, m6, d6, F6, e6, -⟩
        have M6 := Lib.hid (M5.out.trans m6 (by simp))
        have H_6 := Lib.hid (H_5.out.mod m6 (by simp))
        have H2_6 := Lib.hid (H2_5.out.mod m6 (by simp))
        have X_6 := Lib.hid (X_5.out.mod m6 (by simp))
        have Y_6 := Lib.hid (Y_5.out.mod m6 (by simp))
        have P_6 := Lib.hid (P_5.out.mod m6 (by simp))
        have R := Lib.hid e6
        have LR := Lib.hid (dig_len (m := 16) e6.2 BP.out)
        clear m6 e6
        have lr := LR.out
        have CLP := Lib.hid ((CP.out.fits one_lt_B 16).2 BP.out)
        go_wp2_with fail
        refine (lawTold_c (P_6.out) CP.out (by have := CLP.out; omega) (R.out) (by omega)).mono ?_
        rintro e w7 ⟨rfl, m7⟩
        rw [decide_eq_true rfl]
        have M7 := Lib.hid (M6.out.trans m7 (by simp))
        have H_7 := Lib.hid (H_6.out.mod m7 (by simp))
        have H2_7 := Lib.hid (H2_6.out.mod m7 (by simp))
        have X_7 := Lib.hid (X_6.out.mod m7 (by simp))
        have Y_7 := Lib.hid (Y_6.out.mod m7 (by simp))
        have P_7 := Lib.hid (P_6.out.mod m7 (by simp))
        have R_7 := Lib.hid (R.out.mod m7 (by simp))
        clear m7
        go_wp2
        go_ret
        exact ⟨rfl, M7.out⟩
      · skip
        obtain ⟨n, rfl⟩ : ∃ n : Nat, k = n := ⟨k.toNat, by omega⟩
        clear hk0
        by_cases hk3 : n ≤ 300
        · skip
          have BS := Lib.hid (pow_small BX.out hk3)
          have YS : Hid (decide (vl B64 l * 2 ^ n < lim) = true) := decide_eq_true (lim_of BS.out (by omega))
          go_enter Tryd.func6, Tryd.ntmps6
          go_wp2_with fail
          refine (AL.out w).mono ?_
          rintro e w1 ⟨rfl, m1⟩
          have M1 := Lib.hid m1
          have H_1 := Lib.hid (H.out.mod m1 (by simp))
          have H2_1 := Lib.hid (H2.out.mod m1 (by simp))
          clear m1
          go_wp2_with fail
          refine (LG.out _).mono ?_
          rintro e wx ⟨rfl, rfl⟩
          go_wp2_with fail
          refine (LG2.out _).mono ?_
          rintro e wx ⟨rfl, rfl⟩
          go_wp2_with fail
          refine (digits_c (H_1.out) LE1.out).mono ?_
          rintro e w2 ⟨v2, rfl, m2, d2, F2, e2, -⟩
          have M2 := Lib.hid (M1.out.trans m2 (by simp))
          have H_2 := Lib.hid (H_1.out.mod m2 (by simp))
          have H2_2 := Lib.hid (H2_1.out.mod m2 (by simp))
          have X := Lib.hid e2
          have LX := Lib.hid (dig_len (m := 8) e2.2 BX.out)
          clear m2 e2
          go_wp2_with fail
          refine (digits_c (H2_2.out) LE2.out).mono ?_
          rintro e w3 ⟨v3, rfl, m3, d3, F3, e3, -⟩
          have M3 := Lib.hid (M2.out.trans m3 (by simp))
          have H_3 := Lib.hid (H_2.out.mod m3 (by simp))
          have H2_3 := Lib.hid (H2_2.out.mod m3 (by simp))
          have X_3 := Lib.hid (X.out.mod m3 (by simp))
          have Y := Lib.hid e3
          have LY := Lib.hid (dig_len (m := 8) e3.2 BY.out)
          clear m3 e3
          go_wp2_with fail
          refine (mul_c (H_3.out) (H2_3.out) LEL1.out LEL2.out).mono ?_
          rintro e w4 (⟨-, v4, rfl, n4⟩ | ⟨q4, -⟩)
          rotate_left
          · exact absurd (q4.symm.trans YP.out) (by simp)
          have M4 := Lib.hid (M3.out.trans n4.mod (by simp))
          have H_4 := Lib.hid (H_3.out.mod n4.mod (by simp))
          have H2_4 := Lib.hid (H2_3.out.mod n4.mod (by simp))
          have X_4 := Lib.hid (X_3.out.mod n4.mod (by simp))
          have Y_4 := Lib.hid (Y.out.mod n4.mod (by simp))
          obtain ⟨l4, F4, c4, r4, -⟩ := n4.nv
          have P := Lib.hid r4
          have CP := Lib.hid c4
          clear n4 r4 c4
          go_wp2_with fail
          refine (shift_c (H_4.out) LEL1.out n).mono ?_
          rintro e w5 (⟨-, v5, rfl, n5⟩ | ⟨q5, -⟩)
          rotate_left
          · exact absurd (q5.symm.trans YS.out) (by simp)
          have M5 := Lib.hid (M4.out.trans n5.mod (by simp))
          have H_5 := Lib.hid (H_4.out.mod n5.mod (by simp))
          have H2_5 := Lib.hid (H2_4.out.mod n5.mod (by simp))
          have X_5 := Lib.hid (X_4.out.mod n5.mod (by simp))
          have Y_5 := Lib.hid (Y_4.out.mod n5.mod (by simp))
          have P_5 := Lib.hid (P.out.mod n5.mod (by simp))
          obtain ⟨l5, F5, c5, r5, -⟩ := n5.nv
          have S := Lib.hid r5
          have CS := Lib.hid c5
          clear n5 r5 c5
          have lx := LX.out
          have ly := LY.out
          go_wp2_with fail
          refine (refMul_c (X_5.out) (Y_5.out) (by omega) (by omega)).mono ?_
          rintro e w6 ⟨v6, rfl, m6, d6, F6, e6, -⟩
          have M6 := Lib.hid (M5.out.trans m6 (by simp))
          have H_6 := Lib.hid (H_5.out.mod m6 (by simp))
          have H2_6 := Lib.hid (H2_5.out.mod m6 (by simp))
          have X_6 := Lib.hid (X_5.out.mod m6 (by simp))
          have Y_6 := Lib.hid (Y_5.out.mod m6 (by simp))
          have P_6 := Lib.hid (P_5.out.mod m6 (by simp))
          have S_6 := Lib.hid (S.out.mod m6 (by simp))
          have R := Lib.hid e6
          have LR := Lib.hid (dig_len (m := 16) e6.2 BP.out)
          clear m6 e6
          have lr := LR.out
          have CLP := Lib.hid ((CP.out.fits one_lt_B 16).2 BP.out)
          go_wp2_with fail
          refine (lawTold_c (P_6.out) CP.out (by have := CLP.out; omega) (R.out) (by omega)).mono ?_
          rintro e w7 ⟨rfl, m7⟩
          rw [decide_eq_true rfl]
          have M7 := Lib.hid (M6.out.trans m7 (by simp))
          have H_7 := Lib.hid (H_6.out.mod m7 (by simp))
          have H2_7 := Lib.hid (H2_6.out.mod m7 (by simp))
          have X_7 := Lib.hid (X_6.out.mod m7 (by simp))
          have Y_7 := Lib.hid (Y_6.out.mod m7 (by simp))
          have P_7 := Lib.hid (P_6.out.mod m7 (by simp))
          have S_7 := Lib.hid (S_6.out.mod m7 (by simp))
          have R_7 := Lib.hid (R.out.mod m7 (by simp))
          clear m7
          go_wp2_with fail
          go_loopw [13, 14] (fun v i wr => ∃ j : Nat, i = .int .i64 j ∧ j ≤ n ∧ Hid (Mod [] w7 wr) ∧ Hid (∃ d F, Dv wr v d (vl B64 l * 2 ^ j) F)) (fun _ i _ => n - (intOf i).toNat)
          case atStart => exact ⟨0, rfl, Nat.zero_le _, Mod.refl _ _, by show Exists _; rw [Nat.pow_zero, Nat.mul_one]; exact ⟨_, _, X_7.out⟩⟩
          case round =>
            obtain ⟨j, rfl, hj, HM, HD⟩ := hrel
            obtain ⟨d, F, hd⟩ := HD.out
            have hdl := dig_len (m := 13) hd.2 (Nat.lt_of_le_of_lt (Nat.mul_le_mul_left _ (Nat.pow_le_pow_right (by omega) hj)) BS.out)
            have HD2 := Lib.hid hd
            clear hd HD
            by_cases hjn : j < n
            · skip
              go_wp2_with fail
              refine (double_c HD2.out (by omega) 0 (by omega)).mono ?_
              rintro e wd ⟨v', rfl, hn⟩
              have HN := Lib.hid hn
              clear hn
              go_wp2_with fail
              go_roundw
              case rel =>
                refine ⟨j + 1, by go_num, by omega, HM.out.trans HN.out.1 (by simp), ?_⟩
                obtain ⟨-, d', F', hd', -⟩ := HN.out
                rw [Nat.pow_succ, ← Nat.mul_assoc, Nat.mul_comm (vl B64 l * 2 ^ j)]
                exact ⟨d', F', hd'⟩
              case measure => simp [intOf]; omega
            · skip
              obtain rfl : j = n := by omega
              have CLS := Lib.hid ((CS.out.fits one_lt_B 13).2 BS.out)
              have TC := Lib.hid (lawTold_c (S_7.out.mod HM.out (by simp)) CS.out (by have := CLS.out; omega) HD2.out (by omega))
              rw [decide_eq_true rfl] at TC
              have MQ := Lib.hid (M7.out.trans HM.out (by simp))
              go_wp2_with fail
              refine TC.out.mono ?_
              rintro e wd ⟨rfl, hm⟩
              have MR := Lib.hid (MQ.out.trans hm (by simp))
              clear hm
              go_wp2
              go_ret
              exact ⟨rfl, MR.out⟩
        · skip
          by_cases hfit : vl B64 l * 2 ^ n < lim
          · skip
            have YS := Lib.hid (decide_eq_true hfit)
            go_enter Tryd.func6, Tryd.ntmps6
            go_wp2_with fail
            refine (AL.out w).mono ?_
            rintro e w1 ⟨rfl, m1⟩
            have M1 := Lib.hid m1
            have H_1 := Lib.hid (H.out.mod m1 (by simp))
            have H2_1 := Lib.hid (H2.out.mod m1 (by simp))
            clear m1
            go_wp2_with fail
            refine (LG.out _).mono ?_
            rintro e wx ⟨rfl, rfl⟩
            go_wp2_with fail
            refine (LG2.out _).mono ?_
            rintro e wx ⟨rfl, rfl⟩
            go_wp2_with fail
            refine (digits_c (H_1.out) LE1.out).mono ?_
            rintro e w2 ⟨v2, rfl, m2, d2, F2, e2, -⟩
            have M2 := Lib.hid (M1.out.trans m2 (by simp))
            have H_2 := Lib.hid (H_1.out.mod m2 (by simp))
            have H2_2 := Lib.hid (H2_1.out.mod m2 (by simp))
            have X := Lib.hid e2
            have LX := Lib.hid (dig_len (m := 8) e2.2 BX.out)
            clear m2 e2
            go_wp2_with fail
            refine (digits_c (H2_2.out) LE2.out).mono ?_
            rintro e w3 ⟨v3, rfl, m3, d3, F3, e3, -⟩
            have M3 := Lib.hid (M2.out.trans m3 (by simp))
            have H_3 := Lib.hid (H_2.out.mod m3 (by simp))
            have H2_3 := Lib.hid (H2_2.out.mod m3 (by simp))
            have X_3 := Lib.hid (X.out.mod m3 (by simp))
            have Y := Lib.hid e3
            have LY := Lib.hid (dig_len (m := 8) e3.2 BY.out)
            clear m3 e3
            go_wp2_with fail
            refine (mul_c (H_3.out) (H2_3.out) LEL1.out LEL2.out).mono ?_
            rintro e w4 (⟨-, v4, rfl, n4⟩ | ⟨q4, -⟩)
            rotate_left
            · exact absurd (q4.symm.trans YP.out) (by simp)
            have M4 := Lib.hid (M3.out.trans n4.mod (by simp))
            have H_4 := Lib.hid (H_3.out.mod n4.mod (by simp))
            have H2_4 := Lib.hid (H2_3.out.mod n4.mod (by simp))
            have X_4 := Lib.hid (X_3.out.mod n4.mod (by simp))
            have Y_4 := Lib.hid (Y.out.mod n4.mod (by simp))
            obtain ⟨l4, F4, c4, r4, -⟩ := n4.nv
            have P := Lib.hid r4
            have CP := Lib.hid c4
            clear n4 r4 c4
            go_wp2_with fail
            refine (shift_c (H_4.out) LEL1.out n).mono ?_
            rintro e w5 (⟨-, v5, rfl, n5⟩ | ⟨q5, -⟩)
            rotate_left
            · exact absurd (q5.symm.trans YS.out) (by simp)
            have M5 := Lib.hid (M4.out.trans n5.mod (by simp))
            have H_5 := Lib.hid (H_4.out.mod n5.mod (by simp))
            have H2_5 := Lib.hid (H2_4.out.mod n5.mod (by simp))
            have X_5 := Lib.hid (X_4.out.mod n5.mod (by simp))
            have Y_5 := Lib.hid (Y_4.out.mod n5.mod (by simp))
            have P_5 := Lib.hid (P.out.mod n5.mod (by simp))
            obtain ⟨l5, F5, c5, r5, -⟩ := n5.nv
            have S := Lib.hid r5
            have CS := Lib.hid c5
            clear n5 r5 c5
            have lx := LX.out
            have ly := LY.out
            go_wp2_with fail
            refine (refMul_c (X_5.out) (Y_5.out) (by omega) (by omega)).mono ?_
            rintro e w6 ⟨v6, rfl, m6, d6, F6, e6, -⟩
            have M6 := Lib.hid (M5.out.trans m6 (by simp))
            have H_6 := Lib.hid (H_5.out.mod m6 (by simp))
            have H2_6 := Lib.hid (H2_5.out.mod m6 (by simp))
            have X_6 := Lib.hid (X_5.out.mod m6 (by simp))
            have Y_6 := Lib.hid (Y_5.out.mod m6 (by simp))
            have P_6 := Lib.hid (P_5.out.mod m6 (by simp))
            have S_6 := Lib.hid (S.out.mod m6 (by simp))
            have R := Lib.hid e6
            have LR := Lib.hid (dig_len (m := 16) e6.2 BP.out)
            clear m6 e6
            have lr := LR.out
            have CLP := Lib.hid ((CP.out.fits one_lt_B 16).2 BP.out)
            go_wp2_with fail
            refine (lawTold_c (P_6.out) CP.out (by have := CLP.out; omega) (R.out) (by omega)).mono ?_
            rintro e w7 ⟨rfl, m7⟩
            rw [decide_eq_true rfl]
            have M7 := Lib.hid (M6.out.trans m7 (by simp))
            have H_7 := Lib.hid (H_6.out.mod m7 (by simp))
            have H2_7 := Lib.hid (H2_6.out.mod m7 (by simp))
            have X_7 := Lib.hid (X_6.out.mod m7 (by simp))
            have Y_7 := Lib.hid (Y_6.out.mod m7 (by simp))
            have P_7 := Lib.hid (P_6.out.mod m7 (by simp))
            have S_7 := Lib.hid (S_6.out.mod m7 (by simp))
            have R_7 := Lib.hid (R.out.mod m7 (by simp))
            clear m7
            have hnx : vl B64 l ≠ 0 → 0 < d2.length := fun h0 => Nat.pos_of_ne_zero (fun q => by
              have h1 := X.out.2
              rw [List.length_eq_zero_iff.1 q] at h1
              exact h0 h1.nil_val)
            obtain ⟨Ax, cx, ex, -⟩ := X.out.1.shape
            rw [List.length_map] at ex
            clear hnx
            generalize d2.length = nx at *
            subst ex
            go_wp2
            all_goals (go_ret; exact ⟨rfl, M7.out⟩)
          · skip
            have NS := Lib.hid (decide_eq_false hfit)
            go_enter Tryd.func6, Tryd.ntmps6
            go_wp2_with fail
            refine (AL.out w).mono ?_
            rintro e w1 ⟨rfl, m1⟩
            have M1 := Lib.hid m1
            have H_1 := Lib.hid (H.out.mod m1 (by simp))
            have H2_1 := Lib.hid (H2.out.mod m1 (by simp))
            clear m1
            go_wp2_with fail
            refine (LG.out _).mono ?_
            rintro e wx ⟨rfl, rfl⟩
            go_wp2_with fail
            refine (LG2.out _).mono ?_
            rintro e wx ⟨rfl, rfl⟩
            go_wp2_with fail
            refine (digits_c (H_1.out) LE1.out).mono ?_
            rintro e w2 ⟨v2, rfl, m2, d2, F2, e2, -⟩
            have M2 := Lib.hid (M1.out.trans m2 (by simp))
            have H_2 := Lib.hid (H_1.out.mod m2 (by simp))
            have H2_2 := Lib.hid (H2_1.out.mod m2 (by simp))
            have X := Lib.hid e2
            have LX := Lib.hid (dig_len (m := 8) e2.2 BX.out)
            clear m2 e2
            go_wp2_with fail
            refine (digits_c (H2_2.out) LE2.out).mono ?_
            rintro e w3 ⟨v3, rfl, m3, d3, F3, e3, -⟩
            have M3 := Lib.hid (M2.out.trans m3 (by simp))
            have H_3 := Lib.hid (H_2.out.mod m3 (by simp))
            have H2_3 := Lib.hid (H2_2.out.mod m3 (by simp))
            have X_3 := Lib.hid (X.out.mod m3 (by simp))
            have Y := Lib.hid e3
            have LY := Lib.hid (dig_len (m := 8) e3.2 BY.out)
            clear m3 e3
            go_wp2_with fail
            refine (mul_c (H_3.out) (H2_3.out) LEL1.out LEL2.out).mono ?_
            rintro e w4 (⟨-, v4, rfl, n4⟩ | ⟨q4, -⟩)
            rotate_left
            · exact absurd (q4.symm.trans YP.out) (by simp)
            have M4 := Lib.hid (M3.out.trans n4.mod (by simp))
            have H_4 := Lib.hid (H_3.out.mod n4.mod (by simp))
            have H2_4 := Lib.hid (H2_3.out.mod n4.mod (by simp))
            have X_4 := Lib.hid (X_3.out.mod n4.mod (by simp))
            have Y_4 := Lib.hid (Y.out.mod n4.mod (by simp))
            obtain ⟨l4, F4, c4, r4, -⟩ := n4.nv
            have P := Lib.hid r4
            have CP := Lib.hid c4
            clear n4 r4 c4
            go_wp2_with fail
            refine (shift_c (H_4.out) LEL1.out n).mono ?_
            rintro e w5 (⟨q5, -⟩ | ⟨-, rfl, m5⟩)
            · exact absurd (q5.symm.trans NS.out) (by simp)
            have M5 := Lib.hid (M4.out.trans m5 (by simp))
            have H_5 := Lib.hid (H_4.out.mod m5 (by simp))
            have H2_5 := Lib.hid (H2_4.out.mod m5 (by simp))
            have X_5 := Lib.hid (X_4.out.mod m5 (by simp))
            have Y_5 := Lib.hid (Y_4.out.mod m5 (by simp))
            have P_5 := Lib.hid (P.out.mod m5 (by simp))
            clear m5
            have lx := LX.out
            have ly := LY.out
            go_wp2_with fail
            refine (refMul_c (X_5.out) (Y_5.out) (by omega) (by omega)).mono ?_
            rintro e w6 ⟨v6, rfl, m6, d6, F6, e6, -⟩
            have M6 := Lib.hid (M5.out.trans m6 (by simp))
            have H_6 := Lib.hid (H_5.out.mod m6 (by simp))
            have H2_6 := Lib.hid (H2_5.out.mod m6 (by simp))
            have X_6 := Lib.hid (X_5.out.mod m6 (by simp))
            have Y_6 := Lib.hid (Y_5.out.mod m6 (by simp))
            have P_6 := Lib.hid (P_5.out.mod m6 (by simp))
            have R := Lib.hid e6
            have LR := Lib.hid (dig_len (m := 16) e6.2 BP.out)
            clear m6 e6
            have lr := LR.out
            have CLP := Lib.hid ((CP.out.fits one_lt_B 16).2 BP.out)
            go_wp2_with fail
            refine (lawTold_c (P_6.out) CP.out (by have := CLP.out; omega) (R.out) (by omega)).mono ?_
            rintro e w7 ⟨rfl, m7⟩
            rw [decide_eq_true rfl]
            have M7 := Lib.hid (M6.out.trans m7 (by simp))
            have H_7 := Lib.hid (H_6.out.mod m7 (by simp))
            have H2_7 := Lib.hid (H2_6.out.mod m7 (by simp))
            have X_7 := Lib.hid (X_6.out.mod m7 (by simp))
            have Y_7 := Lib.hid (Y_6.out.mod m7 (by simp))
            have P_7 := Lib.hid (P_6.out.mod m7 (by simp))
            have R_7 := Lib.hid (R.out.mod m7 (by simp))
            clear m7
            have hnx : vl B64 l ≠ 0 → 0 < d2.length := fun h0 => Nat.pos_of_ne_zero (fun q => by
              have h1 := X.out.2
              rw [List.length_eq_zero_iff.1 q] at h1
              exact h0 h1.nil_val)
            have hpos := hnx (fun q => hfit (by rw [q, Nat.zero_mul]; exact Nat.pow_pos (by unfold B64; omega)))
            obtain ⟨Ax, cx, ex, -⟩ := X.out.1.shape
            rw [List.length_map] at ex
            clear hnx
            generalize d2.length = nx at *
            have hb : ((nx : Int) == 0) = false := by rw [beq_eq_false_iff_ne]; omega
            clear hpos
            subst ex
            go_wp2
            go_ret
            exact ⟨rfl, M7.out⟩
theorem natProducts_walk (w : World) (a0 : Option Addr) (len cap : Nat) (z : Nat → Int) (hw : IntRow .u64 w a0 len cap z) (a1 : Option Addr) (len1 cap1 : Nat) (z1 : Nat → Int) (hw1 : IntRow .u64 w a1 len1 cap1 z1) (k : Int) (wk : (Lit.int .i64 k).wf = true) :
    Calls Tryd.prog 6 #[.slice a0 len cap, .slice a1 len1 cap1, .int .i64 k] w fun e w' => e = .returned (.bool true) ∧ Mod [] w w' := by
  obtain ⟨l, F, hn, hl⟩ := intRow_nv hw
  obtain ⟨l1, F1, hn1, hl1⟩ := intRow_nv hw1
  exact natProducts_main w a0 len cap l F hn hl a1 len1 cap1 l1 F1 hn1 hl1 k
end Go.Proofs.YtkldjllnnbablaaDoor

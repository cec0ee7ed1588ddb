/- The law NatTexts: its walk. -/
import Derived.Test.YtkldjllnnbablaaDoorSG
set_option linter.unusedVariables false
set_option linter.unusedSimpArgs false
namespace Go.Proofs.YtkldjllnnbablaaDoor
open Go.RowKit Go.Shelf

theorem ten_small {x n m : Nat} (h : x < 10 ^ n) (hn : n ≤ 19 * m) : x < B64 ^ m := by
  refine Nat.lt_of_lt_of_le h (Nat.le_trans (Nat.pow_le_pow_right (by omega) hn) ?_)
  rw [Nat.pow_mul]
  exact Nat.pow_le_pow_left (by unfold B64; omega) m
theorem rdv_lt {l : List UInt8} (h : ∀ c ∈ l, isDig c = true) : rdv l < 10 ^ l.length := by
  have := vl_lt (b := 10) (l := (dg l).reverse) (by intro x hx; exact dg_lt h x (by simpa using hx))
  rwa [List.length_reverse, dg_len] at this
theorem writ_digs {l : List UInt8} (h : writ l = true) : ∀ c ∈ l, isDig c = true := by
  unfold writ at h
  rw [Bool.and_eq_true] at h
  exact List.all_eq_true.1 h.1

set_option maxRecDepth 100000 in
set_option maxHeartbeats 16000000 in
theorem natTexts_main (w : World) (a : Option Addr) (len cap : Nat) (l F : List Nat) (h : Nv w (.slice a len cap) l F) (hl : l.length = len) (s : ByteArray) (hs63 : (s.size : Int) ≤ 9223372036854775807) :
    Calls Tryd.prog 7 #[.slice a len cap, .string s] w fun e w' => e = .returned (.bool true) ∧ Mod [] w w' := by
  have AL := Lib.hid alive_c
  have LG := Lib.hid (long_c a len cap)
  have HCAP := Lib.hid h.1.len
  have H := Lib.hid h
  have HL := Lib.hid hl
  clear h hl
  obtain ⟨n, hn⟩ : ∃ n, s.size = n := ⟨_, rfl⟩
  have HNR := Lib.hid hn
  rw [hn] at hs63
  by_cases h8 : 8 < len
  · skip
    rw [decide_eq_true h8] at LG
    go_enter Tryd.func7, Tryd.ntmps7
    go_wp2_with fail
    refine (AL.out w).mono ?_
    rintro e w1 ⟨rfl, m1⟩
    have M1 := Lib.hid m1
    clear m1
    go_wp2_with fail
    refine (LG.out _).mono ?_
    rintro e wx ⟨rfl, rfl⟩
    go_wp2
    go_ret
    exact ⟨rfl, M1.out⟩
  · skip
    rw [decide_eq_false h8] at LG
    by_cases h200 : (200 : Int) < n
    · skip
      go_enter Tryd.func7, Tryd.ntmps7
      go_wp2_with fail
      refine (AL.out w).mono ?_
      rintro e w1 ⟨rfl, m1⟩
      have M1 := Lib.hid m1
      clear m1
      go_wp2_with fail
      refine (LG.out _).mono ?_
      rintro e wx ⟨rfl, rfl⟩
      go_wp2
      go_ret
      exact ⟨rfl, M1.out⟩
    · skip
      have SM := Lib.hid (small_lim H.out.2 (by rw [HL.out]; omega))
      have BX := Lib.hid SM.out.1
      have LE1 : Hid (l.length ≤ 200) := by show _ ≤ _; rw [HL.out]; omega
      have LE3 : Hid (l.length ≤ 1000) := by show _ ≤ _; rw [HL.out]; omega
      by_cases hw : writ s.data.toList = true
      · skip
        have WR := Lib.hid hw
        have WD := Lib.hid (writ_digs hw)
        have BR : Hid (rdv s.data.toList < B64 ^ 11) := ten_small (rdv_lt WD.out) (by have e : s.data.toList.length = s.size := rfl; rw [e]; omega)
        have YP : Hid ((writ s.data.toList && decide (s.size ≤ 1234) && decide (rdv s.data.toList < lim)) = true) := by
          show _ = _
          rw [WR.out, decide_eq_true (show s.size ≤ 1234 by omega), decide_eq_true (lim_of BR.out (by omega))]; rfl
        clear hw
        go_enter Tryd.func7, Tryd.ntmps7
        go_wp2_with fail
        refine (AL.out w).mono ?_
        rintro e w1 ⟨rfl, m1⟩
        have M1 := Lib.hid m1
        have H_1 := Lib.hid (H.out.mod m1 (by simp))
        clear m1
        go_wp2_with fail
        refine (LG.out _).mono ?_
        rintro e wx ⟨rfl, rfl⟩
        go_wp2_with fail
        refine (text_c (H_1.out) LE3.out).mono ?_
        rintro e w2 ⟨m2, ⟨-, d, hd, rfl⟩ | hno⟩
        rotate_left
        · exact absurd SM.out.2 (Nat.not_lt.2 (by first | exact Nat.not_lt.1 hno.1 | exact hno.1))
        have M2 := Lib.hid (M1.out.trans m2 (by simp))
        have H_2 := Lib.hid (H_1.out.mod m2 (by simp))
        have HD := Lib.hid hd
        clear hd m2
        go_wp2_with fail
        refine (parse_c s (by omega) w2).mono ?_
        rintro e w3 (⟨-, v3, rfl, n3⟩ | ⟨q3, -⟩)
        rotate_left
        · exact absurd (q3.symm.trans YP.out) (by simp)
        have M3 := Lib.hid (M2.out.trans n3.mod (by simp))
        have H_3 := Lib.hid (H_2.out.mod n3.mod (by simp))
        obtain ⟨l3, F3, c3, r3, -⟩ := n3.nv
        have B := Lib.hid r3
        have CB := Lib.hid c3
        clear n3 r3 c3
        go_wp2_with fail
        refine (digits_c (H_3.out) LE1.out).mono ?_
        rintro e w4 ⟨v4, rfl, m4, d4, F4, e4, -⟩
        have M4 := Lib.hid (M3.out.trans m4 (by simp))
        have H_4 := Lib.hid (H_3.out.mod m4 (by simp))
        have B_4 := Lib.hid (B.out.mod m4 (by simp))
        have X := Lib.hid e4
        have LX := Lib.hid (dig_len (m := 8) e4.2 BX.out)
        clear m4 e4
        obtain rfl := Can.uniq (by omega) HD.out X.out.2
        have lx := LX.out
        go_wp2_with fail
        refine (refText_c (X.out) (by omega)).mono ?_
        rintro e w5 ⟨rfl, m5⟩
        have M5 := Lib.hid (M4.out.trans m5 (by simp))
        have H_5 := Lib.hid (H_4.out.mod m5 (by simp))
        have B_5 := Lib.hid (B_4.out.mod m5 (by simp))
        have X_5 := Lib.hid (X.out.mod m5 (by simp))
        clear m5
        go_wp2_with fail
        refine (written_c s (by omega) w5).mono ?_
        rintro e w6 ⟨rfl, m6⟩
        rw [WR.out]
        have M6 := Lib.hid (M5.out.trans m6 (by simp))
        have H_6 := Lib.hid (H_5.out.mod m6 (by simp))
        have B_6 := Lib.hid (B_5.out.mod m6 (by simp))
        have X_6 := Lib.hid (X_5.out.mod m6 (by simp))
        clear m6
        go_wp2_with fail
        refine (read_c s (by omega) w6 WD.out).mono ?_
        rintro e w7 ⟨v7, rfl, m7, d7, F7, e7, -⟩
        have M7 := Lib.hid (M6.out.trans m7 (by simp))
        have H_7 := Lib.hid (H_6.out.mod m7 (by simp))
        have B_7 := Lib.hid (B_6.out.mod m7 (by simp))
        have X_7 := Lib.hid (X_6.out.mod m7 (by simp))
        have R := Lib.hid e7
        have LR := Lib.hid (dig_len (m := 11) e7.2 BR.out)
        clear m7 e7
        have lr := LR.out
        have CLB := Lib.hid ((CB.out.fits one_lt_B 11).2 BR.out)
        go_wp2_with fail
        refine (lawTold_c (B_7.out) CB.out (by have := CLB.out; omega) (R.out) (by omega)).mono ?_
        rintro e w8 ⟨rfl, m8⟩
        rw [decide_eq_true rfl]
        have M8 := Lib.hid (M7.out.trans m8 (by simp))
        have H_8 := Lib.hid (H_7.out.mod m8 (by simp))
        have B_8 := Lib.hid (B_7.out.mod m8 (by simp))
        have X_8 := Lib.hid (X_7.out.mod m8 (by simp))
        have R_8 := Lib.hid (R.out.mod m8 (by simp))
        clear m8
        go_wp2
        go_ret
        exact ⟨rfl, M8.out⟩
      · skip
        have WR := Lib.hid (Bool.eq_false_iff.2 hw)
        have NP : Hid ((writ s.data.toList && decide (s.size ≤ 1234) && decide (rdv s.data.toList < lim)) = false) := by
          show _ = _
          rw [WR.out]; rfl
        clear hw
        go_enter Tryd.func7, Tryd.ntmps7
        go_wp2_with fail
        refine (AL.out w).mono ?_
        rintro e w1 ⟨rfl, m1⟩
        have M1 := Lib.hid m1
        have H_1 := Lib.hid (H.out.mod m1 (by simp))
        clear m1
        go_wp2_with fail
        refine (LG.out _).mono ?_
        rintro e wx ⟨rfl, rfl⟩
        go_wp2_with fail
        refine (text_c (H_1.out) LE3.out).mono ?_
        rintro e w2 ⟨m2, ⟨-, d, hd, rfl⟩ | hno⟩
        rotate_left
        · exact absurd SM.out.2 (Nat.not_lt.2 (by first | exact Nat.not_lt.1 hno.1 | exact hno.1))
        have M2 := Lib.hid (M1.out.trans m2 (by simp))
        have H_2 := Lib.hid (H_1.out.mod m2 (by simp))
        have HD := Lib.hid hd
        clear hd m2
        go_wp2_with fail
        refine (parse_c s (by omega) w2).mono ?_
        rintro e w3 (⟨q3, -⟩ | ⟨-, rfl, m3⟩)
        · exact absurd (q3.symm.trans NP.out) (by simp)
        have M3 := Lib.hid (M2.out.trans m3 (by simp))
        have H_3 := Lib.hid (H_2.out.mod m3 (by simp))
        clear m3
        go_wp2_with fail
        refine (digits_c (H_3.out) LE1.out).mono ?_
        rintro e w4 ⟨v4, rfl, m4, d4, F4, e4, -⟩
        have M4 := Lib.hid (M3.out.trans m4 (by simp))
        have H_4 := Lib.hid (H_3.out.mod m4 (by simp))
        have X := Lib.hid e4
        have LX := Lib.hid (dig_len (m := 8) e4.2 BX.out)
        clear m4 e4
        obtain rfl := Can.uniq (by omega) HD.out X.out.2
        have lx := LX.out
        go_wp2_with fail
        refine (refText_c (X.out) (by omega)).mono ?_
        rintro e w5 ⟨rfl, m5⟩
        have M5 := Lib.hid (M4.out.trans m5 (by simp))
        have H_5 := Lib.hid (H_4.out.mod m5 (by simp))
        have X_5 := Lib.hid (X.out.mod m5 (by simp))
        clear m5
        go_wp2_with fail
        refine (written_c s (by omega) w5).mono ?_
        rintro e w6 ⟨rfl, m6⟩
        rw [WR.out]
        have M6 := Lib.hid (M5.out.trans m6 (by simp))
        have H_6 := Lib.hid (H_5.out.mod m6 (by simp))
        have X_6 := Lib.hid (X_5.out.mod m6 (by simp))
        clear m6
        go_wp2
        go_ret
        exact ⟨rfl, M6.out⟩
theorem natTexts_walk (w : World) (a0 : Option Addr) (len cap : Nat) (z : Nat → Int) (hw : IntRow .u64 w a0 len cap z) (s : ByteArray) (ws : s.size ≤ maxLen) :
    Calls Tryd.prog 7 #[.slice a0 len cap, .string s] w fun e w' => e = .returned (.bool true) ∧ Mod [] w w' := by
  obtain ⟨l, F, hn, hl⟩ := intRow_nv hw
  exact natTexts_main w a0 len cap l F hn hl s (by unfold maxLen at ws; omega)
end Go.Proofs.YtkldjllnnbablaaDoor

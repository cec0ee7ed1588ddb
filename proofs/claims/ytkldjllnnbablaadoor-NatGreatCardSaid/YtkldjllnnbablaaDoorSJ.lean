/- The law NatRules: its walk. -/
import Derived.Test.YtkldjllnnbablaaDoorSI
set_option linter.unusedVariables false
set_option linter.unusedSimpArgs false
namespace Go.Proofs.YtkldjllnnbablaaDoor
open Go.RowKit Go.Shelf

theorem Num.of_arg {w : World} {v : Value} {l F : List Nat} (h : Nv w v l F) (hl : l.length ≤ 80) : Num w v (vl B64 l) := ⟨l, F, h, rfl, hl⟩
theorem add_small {x y : Nat} {a : Nat} (h1 : x < B64 ^ a) (h2 : y < B64 ^ a) : x + y < B64 ^ (a + 1) := by
  have h3 : B64 ^ a * 2 ≤ B64 ^ (a + 1) := by rw [Nat.pow_succ]; exact Nat.mul_le_mul_left _ (by unfold B64; omega)
  omega

set_option maxRecDepth 100000 in
set_option maxHeartbeats 16000000 in
theorem natRules_main (w : World) (a1 : Option Addr) (len1 cap1 : Nat) (l1 F1 : List Nat) (h1 : Nv w (.slice a1 len1 cap1) l1 F1) (hl1 : l1.length = len1) (a2 : Option Addr) (len2 cap2 : Nat) (l2 F2 : List Nat) (h2 : Nv w (.slice a2 len2 cap2) l2 F2) (hl2 : l2.length = len2)
    (a3 : Option Addr) (len3 cap3 : Nat) (l3 F3 : List Nat) (h3 : Nv w (.slice a3 len3 cap3) l3 F3) (hl3 : l3.length = len3) (m : Nat) (hm : m < B64) :
    Calls Tryd.prog 8 #[.slice a1 len1 cap1, .slice a2 len2 cap2, .slice a3 len3 cap3, .int .u64 m] w fun e w' => e = .returned (.bool true) ∧ Mod [] w w' := by
  have AL := Lib.hid alive_c
  have LG1 := Lib.hid (long_c a1 len1 cap1)
  have LG2 := Lib.hid (long_c a2 len2 cap2)
  have LG3 := Lib.hid (long_c a3 len3 cap3)
  have H1 := Lib.hid h1
  have HL1 := Lib.hid hl1
  have H2 := Lib.hid h2
  have HL2 := Lib.hid hl2
  have H3 := Lib.hid h3
  have HL3 := Lib.hid hl3
  have HMB := Lib.hid hm
  clear h1 hl1 h2 hl2 h3 hl3 hm
  by_cases q1 : 8 < len1
  · skip
    rw [decide_eq_true q1] at LG1
    go_enter Tryd.func8, Tryd.ntmps8
    go_wp2_with fail
    refine (AL.out w).mono ?_
    rintro e w1 ⟨rfl, m1⟩
    have MM := Lib.hid m1
    clear m1
    go_wp2_with fail
    refine (LG1.out _).mono ?_
    rintro e wx ⟨rfl, rfl⟩
    go_wp2
    go_ret
    exact ⟨rfl, MM.out⟩
  · skip
    rw [decide_eq_false q1] at LG1
    by_cases q2 : 8 < len2
    · skip
      rw [decide_eq_true q2] at LG2
      go_enter Tryd.func8, Tryd.ntmps8
      go_wp2_with fail
      refine (AL.out w).mono ?_
      rintro e w1 ⟨rfl, m1⟩
      have MM := Lib.hid m1
      clear m1
      go_wp2_with fail
      refine (LG1.out _).mono ?_
      rintro e wx ⟨rfl, rfl⟩
      go_wp2_with fail
      refine (LG2.out _).mono ?_
      rintro e wx ⟨rfl, rfl⟩
      go_wp2
      go_ret
      exact ⟨rfl, MM.out⟩
    · skip
      rw [decide_eq_false q2] at LG2
      by_cases q3 : 8 < len3
      · skip
        rw [decide_eq_true q3] at LG3
        go_enter Tryd.func8, Tryd.ntmps8
        go_wp2_with fail
        refine (AL.out w).mono ?_
        rintro e w1 ⟨rfl, m1⟩
        have MM := Lib.hid m1
        clear m1
        go_wp2_with fail
        refine (LG1.out _).mono ?_
        rintro e wx ⟨rfl, rfl⟩
        go_wp2_with fail
        refine (LG2.out _).mono ?_
        rintro e wx ⟨rfl, rfl⟩
        go_wp2_with fail
        refine (LG3.out _).mono ?_
        rintro e wx ⟨rfl, rfl⟩
        go_wp2
        go_ret
        exact ⟨rfl, MM.out⟩
      · skip
        rw [decide_eq_false q3] at LG3
        have B1 := Lib.hid (small_lim H1.out.2 (by rw [HL1.out]; omega)).1
        have N1 := Lib.hid (Num.of_arg H1.out (by rw [HL1.out]; omega))
        generalize vl B64 l1 = x1 at *
        clear H1 HL1
        have B2 := Lib.hid (small_lim H2.out.2 (by rw [HL2.out]; omega)).1
        have N2 := Lib.hid (Num.of_arg H2.out (by rw [HL2.out]; omega))
        generalize vl B64 l2 = x2 at *
        clear H2 HL2
        have B3 := Lib.hid (small_lim H3.out.2 (by rw [HL3.out]; omega)).1
        have N3 := Lib.hid (Num.of_arg H3.out (by rw [HL3.out]; omega))
        generalize vl B64 l3 = x3 at *
        clear H3 HL3
        have S12 := Lib.hid (add_small B1.out B2.out)
        have S21 := Lib.hid (add_small B2.out B1.out)
        have SP := Lib.hid (mul_small S12.out B3.out)
        have SAC := Lib.hid (mul_small B1.out B3.out)
        have SBC := Lib.hid (mul_small B3.out B2.out)
        have SQ := Lib.hid (add_small SAC.out SBC.out)
        have EAB := Lib.hid (Nat.add_comm x1 x2)
        have EBK := Lib.hid (Nat.add_sub_cancel (n := x1) (m := x2))
        have EPQ : Hid ((x1 + x2) * x3 = x1 * x3 + x3 * x2) := by show _ = _; rw [Nat.add_mul, Nat.mul_comm x2]
        by_cases hm0 : m = 0
        · skip
          subst hm0
          go_enter Tryd.func8, Tryd.ntmps8
          go_wp2_with fail
          refine (AL.out w).mono ?_
          rintro e w1 ⟨rfl, m1⟩
          have MM := Lib.hid m1
          replace N1 := Lib.hid (N1.out.mod m1)
          replace N2 := Lib.hid (N2.out.mod m1)
          replace N3 := Lib.hid (N3.out.mod m1)
          clear m1
          go_wp2_with fail
          refine (LG1.out _).mono ?_
          rintro e wx ⟨rfl, rfl⟩
          go_wp2_with fail
          refine (LG2.out _).mono ?_
          rintro e wx ⟨rfl, rfl⟩
          go_wp2_with fail
          refine (LG3.out _).mono ?_
          rintro e wx ⟨rfl, rfl⟩
          go_wp2_with fail
          refine (num_add N1.out N2.out (lim_of S12.out (by omega))).mono ?_
          rintro e w2 ⟨v2, rfl, n2, m2⟩
          replace MM := Lib.hid (MM.out.trans m2 (by simp))
          replace N1 := Lib.hid (N1.out.mod m2)
          replace N2 := Lib.hid (N2.out.mod m2)
          replace N3 := Lib.hid (N3.out.mod m2)
          have AB := Lib.hid n2
          clear n2 m2
          go_wp2_with fail
          refine (num_add N2.out N1.out (lim_of S21.out (by omega))).mono ?_
          rintro e w3 ⟨v3, rfl, n3, m3⟩
          replace MM := Lib.hid (MM.out.trans m3 (by simp))
          replace N1 := Lib.hid (N1.out.mod m3)
          replace N2 := Lib.hid (N2.out.mod m3)
          replace N3 := Lib.hid (N3.out.mod m3)
          replace AB := Lib.hid (AB.out.mod m3)
          have BA := Lib.hid n3
          clear n3 m3
          go_wp2_with fail
          refine (num_sub AB.out.num N2.out (lim_of S12.out (by omega)) (Nat.le_add_left _ _)).mono ?_
          rintro e w4 ⟨v4, rfl, n4, m4⟩
          replace MM := Lib.hid (MM.out.trans m4 (by simp))
          replace N1 := Lib.hid (N1.out.mod m4)
          replace N2 := Lib.hid (N2.out.mod m4)
          replace N3 := Lib.hid (N3.out.mod m4)
          replace AB := Lib.hid (AB.out.mod m4)
          replace BA := Lib.hid (BA.out.mod m4)
          have BK := Lib.hid n4
          clear n4 m4
          go_wp2_with fail
          refine (num_mul AB.out.num N3.out (lim_of S12.out (by omega)) (lim_of B3.out (by omega)) (lim_of SP.out (by omega))).mono ?_
          rintro e w5 ⟨v5, rfl, n5, m5⟩
          replace MM := Lib.hid (MM.out.trans m5 (by simp))
          replace N1 := Lib.hid (N1.out.mod m5)
          replace N2 := Lib.hid (N2.out.mod m5)
          replace N3 := Lib.hid (N3.out.mod m5)
          replace AB := Lib.hid (AB.out.mod m5)
          replace BA := Lib.hid (BA.out.mod m5)
          replace BK := Lib.hid (BK.out.mod m5)
          have P := Lib.hid n5
          clear n5 m5
          go_wp2_with fail
          refine (num_mul N1.out N3.out (lim_of B1.out (by omega)) (lim_of B3.out (by omega)) (lim_of SAC.out (by omega))).mono ?_
          rintro e w6 ⟨v6, rfl, n6, m6⟩
          replace MM := Lib.hid (MM.out.trans m6 (by simp))
          replace N1 := Lib.hid (N1.out.mod m6)
          replace N2 := Lib.hid (N2.out.mod m6)
          replace N3 := Lib.hid (N3.out.mod m6)
          replace AB := Lib.hid (AB.out.mod m6)
          replace BA := Lib.hid (BA.out.mod m6)
          replace BK := Lib.hid (BK.out.mod m6)
          replace P := Lib.hid (P.out.mod m6)
          have AC := Lib.hid n6
          clear n6 m6
          go_wp2_with fail
          refine (num_mul N3.out N2.out (lim_of B3.out (by omega)) (lim_of B2.out (by omega)) (lim_of SBC.out (by omega))).mono ?_
          rintro e w7 ⟨v7, rfl, n7, m7⟩
          replace MM := Lib.hid (MM.out.trans m7 (by simp))
          replace N1 := Lib.hid (N1.out.mod m7)
          replace N2 := Lib.hid (N2.out.mod m7)
          replace N3 := Lib.hid (N3.out.mod m7)
          replace AB := Lib.hid (AB.out.mod m7)
          replace BA := Lib.hid (BA.out.mod m7)
          replace BK := Lib.hid (BK.out.mod m7)
          replace P := Lib.hid (P.out.mod m7)
          replace AC := Lib.hid (AC.out.mod m7)
          have BC := Lib.hid n7
          clear n7 m7
          go_wp2_with fail
          refine (num_add AC.out.num BC.out.num (lim_of SQ.out (by omega))).mono ?_
          rintro e w8 ⟨v8, rfl, n8, m8⟩
          replace MM := Lib.hid (MM.out.trans m8 (by simp))
          replace N1 := Lib.hid (N1.out.mod m8)
          replace N2 := Lib.hid (N2.out.mod m8)
          replace N3 := Lib.hid (N3.out.mod m8)
          replace AB := Lib.hid (AB.out.mod m8)
          replace BA := Lib.hid (BA.out.mod m8)
          replace BK := Lib.hid (BK.out.mod m8)
          replace P := Lib.hid (P.out.mod m8)
          replace AC := Lib.hid (AC.out.mod m8)
          replace BC := Lib.hid (BC.out.mod m8)
          have Q := Lib.hid n8
          clear n8 m8
          clear AC
          clear BC
          go_wp2_with fail
          refine (num_same AB.out.num BA.out.num EAB.out).mono ?_
          rintro e w9 ⟨rfl, m9⟩
          replace MM := Lib.hid (MM.out.trans m9 (by simp))
          replace N1 := Lib.hid (N1.out.mod m9)
          replace N2 := Lib.hid (N2.out.mod m9)
          replace N3 := Lib.hid (N3.out.mod m9)
          replace AB := Lib.hid (AB.out.mod m9)
          replace BA := Lib.hid (BA.out.mod m9)
          replace BK := Lib.hid (BK.out.mod m9)
          replace P := Lib.hid (P.out.mod m9)
          replace Q := Lib.hid (Q.out.mod m9)
          clear m9
          clear AB
          clear BA
          go_wp2_with fail
          refine (num_same BK.out.num N1.out EBK.out).mono ?_
          rintro e w10 ⟨rfl, m10⟩
          replace MM := Lib.hid (MM.out.trans m10 (by simp))
          replace N1 := Lib.hid (N1.out.mod m10)
          replace N2 := Lib.hid (N2.out.mod m10)
          replace N3 := Lib.hid (N3.out.mod m10)
          replace BK := Lib.hid (BK.out.mod m10)
          replace P := Lib.hid (P.out.mod m10)
          replace Q := Lib.hid (Q.out.mod m10)
          clear m10
          clear BK
          go_wp2_with fail
          refine (num_same P.out.num Q.out.num EPQ.out).mono ?_
          rintro e w11 ⟨rfl, m11⟩
          replace MM := Lib.hid (MM.out.trans m11 (by simp))
          replace N1 := Lib.hid (N1.out.mod m11)
          replace N2 := Lib.hid (N2.out.mod m11)
          replace N3 := Lib.hid (N3.out.mod m11)
          replace P := Lib.hid (P.out.mod m11)
          replace Q := Lib.hid (Q.out.mod m11)
          clear m11
          clear Q
          go_wp2_with fail
          refine (num_text P.out.num (lim_of SP.out (by omega))).mono ?_
          rintro e w12 ⟨d12, c12, rfl, m12⟩
          replace MM := Lib.hid (MM.out.trans m12 (by simp))
          replace N1 := Lib.hid (N1.out.mod m12)
          replace N2 := Lib.hid (N2.out.mod m12)
          replace N3 := Lib.hid (N3.out.mod m12)
          replace P := Lib.hid (P.out.mod m12)
          have HD := Lib.hid c12
          have DL := dig_len (m := 17) c12 SP.out
          clear m12 c12
          go_wp2_with fail
          refine (num_parse HD.out (lim_of SP.out (by omega)) (by omega)).mono ?_
          rintro e w13 ⟨v13, rfl, n13, m13⟩
          replace MM := Lib.hid (MM.out.trans m13 (by simp))
          replace N1 := Lib.hid (N1.out.mod m13)
          replace N2 := Lib.hid (N2.out.mod m13)
          replace N3 := Lib.hid (N3.out.mod m13)
          replace P := Lib.hid (P.out.mod m13)
          have R := Lib.hid n13
          clear n13 m13
          go_wp2_with fail
          refine (num_sameWords R.out P.out rfl).mono ?_
          rintro e w14 ⟨rfl, m14⟩
          replace MM := Lib.hid (MM.out.trans m14 (by simp))
          replace N1 := Lib.hid (N1.out.mod m14)
          replace N2 := Lib.hid (N2.out.mod m14)
          replace N3 := Lib.hid (N3.out.mod m14)
          replace P := Lib.hid (P.out.mod m14)
          replace R := Lib.hid (R.out.mod m14)
          clear m14
          clear R
          clear P
          try go_wp2_with fail
          go_wp2
          go_ret
          exact ⟨rfl, MM.out⟩
        · skip
          have hmp : 0 < m := Nat.pos_of_ne_zero hm0
          have hmb : ((m : Int) == 0) = false := by rw [beq_eq_false_iff_ne]; omega
          have BM : Hid (m < B64 ^ 1) := by show _ < _; rw [Nat.pow_one]; exact HMB.out
          have HMP := Lib.hid hmp
          have SX : Hid (x1 / m < B64 ^ 8) := Nat.lt_of_le_of_lt (Nat.div_le_self _ _) B1.out
          have SZ := Lib.hid (mul_small SX.out BM.out)
          have HMOD := Lib.hid (Nat.mod_lt x1 hmp)
          have EDIV : Hid (x1 / m * m + x1 % m = x1) := by show _ = _; rw [Nat.mul_comm]; exact Nat.div_add_mod x1 m
          have SW : Hid (x1 / m * m + x1 % m < lim) := by show _ < _; rw [EDIV.out]; exact lim_of B1.out (by omega)
          clear hm0
          go_enter Tryd.func8, Tryd.ntmps8
          go_wp2_with fail
          refine (AL.out w).mono ?_
          rintro e w1 ⟨rfl, m1⟩
          have MM := Lib.hid m1
          replace N1 := Lib.hid (N1.out.mod m1)
          replace N2 := Lib.hid (N2.out.mod m1)
          replace N3 := Lib.hid (N3.out.mod m1)
          clear m1
          go_wp2_with fail
          refine (LG1.out _).mono ?_
          rintro e wx ⟨rfl, rfl⟩
          go_wp2_with fail
          refine (LG2.out _).mono ?_
          rintro e wx ⟨rfl, rfl⟩
          go_wp2_with fail
          refine (LG3.out _).mono ?_
          rintro e wx ⟨rfl, rfl⟩
          go_wp2_with fail
          refine (num_add N1.out N2.out (lim_of S12.out (by omega))).mono ?_
          rintro e w2 ⟨v2, rfl, n2, m2⟩
          replace MM := Lib.hid (MM.out.trans m2 (by simp))
          replace N1 := Lib.hid (N1.out.mod m2)
          replace N2 := Lib.hid (N2.out.mod m2)
          replace N3 := Lib.hid (N3.out.mod m2)
          have AB := Lib.hid n2
          clear n2 m2
          go_wp2_with fail
          refine (num_add N2.out N1.out (lim_of S21.out (by omega))).mono ?_
          rintro e w3 ⟨v3, rfl, n3, m3⟩
          replace MM := Lib.hid (MM.out.trans m3 (by simp))
          replace N1 := Lib.hid (N1.out.mod m3)
          replace N2 := Lib.hid (N2.out.mod m3)
          replace N3 := Lib.hid (N3.out.mod m3)
          replace AB := Lib.hid (AB.out.mod m3)
          have BA := Lib.hid n3
          clear n3 m3
          go_wp2_with fail
          refine (num_sub AB.out.num N2.out (lim_of S12.out (by omega)) (Nat.le_add_left _ _)).mono ?_
          rintro e w4 ⟨v4, rfl, n4, m4⟩
          replace MM := Lib.hid (MM.out.trans m4 (by simp))
          replace N1 := Lib.hid (N1.out.mod m4)
          replace N2 := Lib.hid (N2.out.mod m4)
          replace N3 := Lib.hid (N3.out.mod m4)
          replace AB := Lib.hid (AB.out.mod m4)
          replace BA := Lib.hid (BA.out.mod m4)
          have BK := Lib.hid n4
          clear n4 m4
          go_wp2_with fail
          refine (num_mul AB.out.num N3.out (lim_of S12.out (by omega)) (lim_of B3.out (by omega)) (lim_of SP.out (by omega))).mono ?_
          rintro e w5 ⟨v5, rfl, n5, m5⟩
          replace MM := Lib.hid (MM.out.trans m5 (by simp))
          replace N1 := Lib.hid (N1.out.mod m5)
          replace N2 := Lib.hid (N2.out.mod m5)
          replace N3 := Lib.hid (N3.out.mod m5)
          replace AB := Lib.hid (AB.out.mod m5)
          replace BA := Lib.hid (BA.out.mod m5)
          replace BK := Lib.hid (BK.out.mod m5)
          have P := Lib.hid n5
          clear n5 m5
          go_wp2_with fail
          refine (num_mul N1.out N3.out (lim_of B1.out (by omega)) (lim_of B3.out (by omega)) (lim_of SAC.out (by omega))).mono ?_
          rintro e w6 ⟨v6, rfl, n6, m6⟩
          replace MM := Lib.hid (MM.out.trans m6 (by simp))
          replace N1 := Lib.hid (N1.out.mod m6)
          replace N2 := Lib.hid (N2.out.mod m6)
          replace N3 := Lib.hid (N3.out.mod m6)
          replace AB := Lib.hid (AB.out.mod m6)
          replace BA := Lib.hid (BA.out.mod m6)
          replace BK := Lib.hid (BK.out.mod m6)
          replace P := Lib.hid (P.out.mod m6)
          have AC := Lib.hid n6
          clear n6 m6
          go_wp2_with fail
          refine (num_mul N3.out N2.out (lim_of B3.out (by omega)) (lim_of B2.out (by omega)) (lim_of SBC.out (by omega))).mono ?_
          rintro e w7 ⟨v7, rfl, n7, m7⟩
          replace MM := Lib.hid (MM.out.trans m7 (by simp))
          replace N1 := Lib.hid (N1.out.mod m7)
          replace N2 := Lib.hid (N2.out.mod m7)
          replace N3 := Lib.hid (N3.out.mod m7)
          replace AB := Lib.hid (AB.out.mod m7)
          replace BA := Lib.hid (BA.out.mod m7)
          replace BK := Lib.hid (BK.out.mod m7)
          replace P := Lib.hid (P.out.mod m7)
          replace AC := Lib.hid (AC.out.mod m7)
          have BC := Lib.hid n7
          clear n7 m7
          go_wp2_with fail
          refine (num_add AC.out.num BC.out.num (lim_of SQ.out (by omega))).mono ?_
          rintro e w8 ⟨v8, rfl, n8, m8⟩
          replace MM := Lib.hid (MM.out.trans m8 (by simp))
          replace N1 := Lib.hid (N1.out.mod m8)
          replace N2 := Lib.hid (N2.out.mod m8)
          replace N3 := Lib.hid (N3.out.mod m8)
          replace AB := Lib.hid (AB.out.mod m8)
          replace BA := Lib.hid (BA.out.mod m8)
          replace BK := Lib.hid (BK.out.mod m8)
          replace P := Lib.hid (P.out.mod m8)
          replace AC := Lib.hid (AC.out.mod m8)
          replace BC := Lib.hid (BC.out.mod m8)
          have Q := Lib.hid n8
          clear n8 m8
          clear AC
          clear BC
          go_wp2_with fail
          refine (num_same AB.out.num BA.out.num EAB.out).mono ?_
          rintro e w9 ⟨rfl, m9⟩
          replace MM := Lib.hid (MM.out.trans m9 (by simp))
          replace N1 := Lib.hid (N1.out.mod m9)
          replace N2 := Lib.hid (N2.out.mod m9)
          replace N3 := Lib.hid (N3.out.mod m9)
          replace AB := Lib.hid (AB.out.mod m9)
          replace BA := Lib.hid (BA.out.mod m9)
          replace BK := Lib.hid (BK.out.mod m9)
          replace P := Lib.hid (P.out.mod m9)
          replace Q := Lib.hid (Q.out.mod m9)
          clear m9
          clear AB
          clear BA
          go_wp2_with fail
          refine (num_same BK.out.num N1.out EBK.out).mono ?_
          rintro e w10 ⟨rfl, m10⟩
          replace MM := Lib.hid (MM.out.trans m10 (by simp))
          replace N1 := Lib.hid (N1.out.mod m10)
          replace N2 := Lib.hid (N2.out.mod m10)
          replace N3 := Lib.hid (N3.out.mod m10)
          replace BK := Lib.hid (BK.out.mod m10)
          replace P := Lib.hid (P.out.mod m10)
          replace Q := Lib.hid (Q.out.mod m10)
          clear m10
          clear BK
          go_wp2_with fail
          refine (num_same P.out.num Q.out.num EPQ.out).mono ?_
          rintro e w11 ⟨rfl, m11⟩
          replace MM := Lib.hid (MM.out.trans m11 (by simp))
          replace N1 := Lib.hid (N1.out.mod m11)
          replace N2 := Lib.hid (N2.out.mod m11)
          replace N3 := Lib.hid (N3.out.mod m11)
          replace P := Lib.hid (P.out.mod m11)
          replace Q := Lib.hid (Q.out.mod m11)
          clear m11
          clear Q
          go_wp2_with fail
          refine (num_text P.out.num (lim_of SP.out (by omega))).mono ?_
          rintro e w12 ⟨d12, c12, rfl, m12⟩
          replace MM := Lib.hid (MM.out.trans m12 (by simp))
          replace N1 := Lib.hid (N1.out.mod m12)
          replace N2 := Lib.hid (N2.out.mod m12)
          replace N3 := Lib.hid (N3.out.mod m12)
          replace P := Lib.hid (P.out.mod m12)
          have HD := Lib.hid c12
          have DL := dig_len (m := 17) c12 SP.out
          clear m12 c12
          go_wp2_with fail
          refine (num_parse HD.out (lim_of SP.out (by omega)) (by omega)).mono ?_
          rintro e w13 ⟨v13, rfl, n13, m13⟩
          replace MM := Lib.hid (MM.out.trans m13 (by simp))
          replace N1 := Lib.hid (N1.out.mod m13)
          replace N2 := Lib.hid (N2.out.mod m13)
          replace N3 := Lib.hid (N3.out.mod m13)
          replace P := Lib.hid (P.out.mod m13)
          have R := Lib.hid n13
          clear n13 m13
          go_wp2_with fail
          refine (num_sameWords R.out P.out rfl).mono ?_
          rintro e w14 ⟨rfl, m14⟩
          replace MM := Lib.hid (MM.out.trans m14 (by simp))
          replace N1 := Lib.hid (N1.out.mod m14)
          replace N2 := Lib.hid (N2.out.mod m14)
          replace N3 := Lib.hid (N3.out.mod m14)
          replace P := Lib.hid (P.out.mod m14)
          replace R := Lib.hid (R.out.mod m14)
          clear m14
          clear R
          clear P
          go_wp2_with fail
          refine (num_div N1.out (lim_of B1.out (by omega)) m HMP.out HMB.out).mono ?_
          rintro e w15 ⟨v15, rfl, n15, m15⟩
          replace MM := Lib.hid (MM.out.trans m15 (by simp))
          replace N1 := Lib.hid (N1.out.mod m15)
          replace N2 := Lib.hid (N2.out.mod m15)
          replace N3 := Lib.hid (N3.out.mod m15)
          have X := Lib.hid n15
          clear n15 m15
          go_wp2_with fail
          refine (num_of m HMB.out).mono ?_
          rintro e w16 ⟨v16, rfl, n16, m16⟩
          replace MM := Lib.hid (MM.out.trans m16 (by simp))
          replace N1 := Lib.hid (N1.out.mod m16)
          replace N2 := Lib.hid (N2.out.mod m16)
          replace N3 := Lib.hid (N3.out.mod m16)
          replace X := Lib.hid (X.out.mod m16)
          have OM := Lib.hid n16
          clear n16 m16
          go_wp2_with fail
          refine (num_mul X.out.num OM.out.num (lim_of SX.out (by omega)) (lim_of BM.out (by omega)) (lim_of SZ.out (by omega))).mono ?_
          rintro e w17 ⟨v17, rfl, n17, m17⟩
          replace MM := Lib.hid (MM.out.trans m17 (by simp))
          replace N1 := Lib.hid (N1.out.mod m17)
          replace N2 := Lib.hid (N2.out.mod m17)
          replace N3 := Lib.hid (N3.out.mod m17)
          replace X := Lib.hid (X.out.mod m17)
          replace OM := Lib.hid (OM.out.mod m17)
          have Z := Lib.hid n17
          clear n17 m17
          clear OM
          clear X
          go_wp2_with fail
          refine (num_of (x1 % m) (Nat.lt_trans HMOD.out HMB.out)).mono ?_
          rintro e w18 ⟨v18, rfl, n18, m18⟩
          replace MM := Lib.hid (MM.out.trans m18 (by simp))
          replace N1 := Lib.hid (N1.out.mod m18)
          replace N2 := Lib.hid (N2.out.mod m18)
          replace N3 := Lib.hid (N3.out.mod m18)
          replace Z := Lib.hid (Z.out.mod m18)
          have OY := Lib.hid n18
          clear n18 m18
          go_wp2_with fail
          refine (num_add Z.out.num OY.out.num SW.out).mono ?_
          rintro e w19 ⟨v19, rfl, n19, m19⟩
          replace MM := Lib.hid (MM.out.trans m19 (by simp))
          replace N1 := Lib.hid (N1.out.mod m19)
          replace N2 := Lib.hid (N2.out.mod m19)
          replace N3 := Lib.hid (N3.out.mod m19)
          replace Z := Lib.hid (Z.out.mod m19)
          replace OY := Lib.hid (OY.out.mod m19)
          have W := Lib.hid n19
          clear n19 m19
          clear Z
          clear OY
          go_wp2_with fail
          refine (num_same W.out.num N1.out EDIV.out).mono ?_
          rintro e w20 ⟨rfl, m20⟩
          replace MM := Lib.hid (MM.out.trans m20 (by simp))
          replace N1 := Lib.hid (N1.out.mod m20)
          replace N2 := Lib.hid (N2.out.mod m20)
          replace N3 := Lib.hid (N3.out.mod m20)
          replace W := Lib.hid (W.out.mod m20)
          clear m20
          have hlt : (x1 : Int) % (m : Int) < m := by rw [← Int.natCast_emod]; exact Int.ofNat_lt.2 HMOD.out
          go_wp2
          go_ret
          exact ⟨rfl, MM.out⟩
theorem natRules_walk (w : World) (a0 : Option Addr) (len cap : Nat) (z : Nat → Int) (hw : IntRow .u64 w a0 len cap z) (a1 : Option Addr) (len1 cap1 : Nat) (z1 : Nat → Int) (hw1 : IntRow .u64 w a1 len1 cap1 z1)
    (a2 : Option Addr) (len2 cap2 : Nat) (z2 : Nat → Int) (hw2 : IntRow .u64 w a2 len2 cap2 z2) (n : Int) (wn : (Lit.int .u64 n).wf = true) :
    Calls Tryd.prog 8 #[.slice a0 len cap, .slice a1 len1 cap1, .slice a2 len2 cap2, .int .u64 n] w fun e w' => e = .returned (.bool true) ∧ Mod [] w w' := by
  obtain ⟨l, F, hn, hl⟩ := intRow_nv hw
  obtain ⟨l1, F1, hn1, hl1⟩ := intRow_nv hw1
  obtain ⟨l2, F2, hn2, hl2⟩ := intRow_nv hw2
  obtain ⟨h0, h1⟩ := bounds_u64 wn
  obtain ⟨m, rfl⟩ := Int.eq_ofNat_of_zero_le h0
  exact natRules_main w a0 len cap l F hn hl a1 len1 cap1 l1 F1 hn1 hl1 a2 len2 cap2 l2 F2 hn2 hl2 m (by unfold B64; omega)
end Go.Proofs.YtkldjllnnbablaaDoor

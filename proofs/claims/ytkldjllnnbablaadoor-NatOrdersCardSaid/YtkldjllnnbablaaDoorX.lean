/- The law NatOrders: its walk. -/
import Derived.Test.YtkldjllnnbablaaDoorV
set_option linter.unusedVariables false
set_option linter.unusedSimpArgs false
namespace Go.Proofs.YtkldjllnnbablaaDoor
open Go.RowKit Go.Shelf

set_option maxRecDepth 100000 in
set_option maxHeartbeats 16000000 in
theorem natOrders_main (w : World) (a : Option Addr) (len cap : Nat) (l F : List Nat) (h : Nv w (.slice a len cap) l F) (hl : l.length = len) (a2 : Option Addr) (len2 cap2 : Nat) (l2 F2 : List Nat) (h2 : Nv w (.slice a2 len2 cap2) l2 F2) (hl2 : l2.length = len2) (n : Nat) (hn : n < B64) :
    Calls Tryd.prog 4 #[.slice a len cap, .slice a2 len2 cap2, .int .u64 n] w fun e w' => e = .returned (.bool true) ∧ Mod [] w w' := by
  have AL := Lib.hid alive_c
  have LG := Lib.hid (long_c a len cap)
  have LG2 := Lib.hid (long_c a2 len2 cap2)
  have HCAP := Lib.hid h.1.len
  have H := Lib.hid h
  have HL := Lib.hid hl
  have H2 := Lib.hid h2
  have HL2 := Lib.hid hl2
  have HNB := Lib.hid hn
  clear h hl h2 hl2 hn
  by_cases h8 : 8 < len
  · rw [decide_eq_true h8] at LG
    go_enter Tryd.func4, Tryd.ntmps4
    go_wp2_with fail
    refine (AL.out _).mono ?_
    rintro e w1 ⟨rfl, hm1⟩
    have HM1 := Lib.hid hm1
    clear hm1
    go_wp2_with fail
    refine (LG.out _).mono ?_
    rintro e w2 ⟨rfl, rfl⟩
    go_wp2
    go_ret
    exact ⟨rfl, HM1.out⟩
  · rw [decide_eq_false h8] at LG
    by_cases h82 : 8 < len2
    · rw [decide_eq_true h82] at LG2
      go_enter Tryd.func4, Tryd.ntmps4
      go_wp2_with fail
      refine (AL.out _).mono ?_
      rintro e w1 ⟨rfl, hm1⟩
      have HM1 := Lib.hid hm1
      clear hm1
      go_wp2_with fail
      refine (LG.out _).mono ?_
      rintro e w2 ⟨rfl, rfl⟩
      go_wp2_with fail
      refine (LG2.out _).mono ?_
      rintro e w2 ⟨rfl, rfl⟩
      go_wp2
      go_ret
      exact ⟨rfl, HM1.out⟩
    · rw [decide_eq_false h82] at LG2
      have SM := Lib.hid (small_lim H.out.2 (by rw [HL.out]; omega))
      have SM2 := Lib.hid (small_lim H2.out.2 (by rw [HL2.out]; omega))
      have DA := Lib.hid (fun w1 (hm : Mod [] w w1) => digits_c (H.out.mod hm (by simp)) (by rw [HL.out]; omega))
      have DB := Lib.hid (fun w1 (hm : Mod [] w w1) => digits_c (H2.out.mod hm (by simp)) (by rw [HL2.out]; omega))
      have CP := Lib.hid (fun w1 (hm : Mod [] w w1) => cmp_c (H.out.mod hm (by simp)) (H2.out.mod hm (by simp)) (by rw [HL.out]; omega) (by rw [HL2.out]; omega))
      have NM := Lib.hid (fun w1 (hm : Mod [] w w1) => norm_c (H.out.mod hm (by simp)) (by rw [HL.out]; omega))
      have WD := Lib.hid (fun w1 (hm : Mod [] w w1) => words_c (H.out.mod hm (by simp)) (by rw [HL.out]; omega))
      have OF := Lib.hid (of_c n HNB.out)
      obtain ⟨x, hx⟩ : ∃ x, vl B64 l = x := ⟨_, rfl⟩
      obtain ⟨y, hy⟩ : ∃ y, vl B64 l2 = y := ⟨_, rfl⟩
      rw [hx] at SM DA CP NM WD
      rw [hy] at SM2 DB CP
      clear hx hy
      go_enter Tryd.func4, Tryd.ntmps4
      go_wp2_with fail
      refine (AL.out _).mono ?_
      rintro e w1 ⟨rfl, hm1⟩
      have HM1 := Lib.hid hm1
      clear hm1
      go_wp2_with fail
      refine (LG.out _).mono ?_
      rintro e w2 ⟨rfl, rfl⟩
      go_wp2_with fail
      refine (LG2.out _).mono ?_
      rintro e w2 ⟨rfl, rfl⟩
      go_wp2_with fail
      refine (DA.out _ HM1.out).mono ?_
      rintro e w3 ⟨v3, rfl, hm3, d3, F3, e3, -⟩
      have M3 := Lib.hid (HM1.out.trans hm3 (by simp))
      have E3 := Lib.hid e3
      clear hm3 e3
      go_wp2_with fail
      refine (DB.out _ M3.out).mono ?_
      rintro e w4 ⟨v4, rfl, hm4, d4, F4, e4, -⟩
      have M4 := Lib.hid (M3.out.trans hm4 (by simp))
      have E3' := Lib.hid (E3.out.mod hm4 (by simp))
      have E4 := Lib.hid e4
      have l3 := dig_len (m := 8) E3.out.2 SM.out.1
      have l4 := dig_len (m := 8) e4.2 SM2.out.1
      have LS1 := Lib.hid (less_c E3'.out E4.out (by omega) (by omega))
      have LS2 := Lib.hid (fun w' (hm : Mod [] w4 w') => less_c (E4.out.mod hm (by simp)) (E3'.out.mod hm (by simp)) (by omega) (by omega))
      clear hm4 e4 l3 l4
      rcases Nat.lt_trichotomy x y with q | q | q
      · have hc : cmpN x y = -1 := by unfold cmpN; rw [if_pos q]
        rw [hc] at CP
        rw [decide_eq_true q] at LS1
        rw [decide_eq_false (show ¬ y < x by omega)] at LS2
        clear hc q
        go_wp2_with fail
        refine LS1.out.mono ?_
        rintro e w5 ⟨rfl, hm5⟩
        have M5 := Lib.hid (M4.out.trans hm5 (by simp))
        have M45 := Lib.hid hm5
        clear hm5
        go_wp2_with fail
        refine (LS2.out _ M45.out).mono ?_
        rintro e w6 ⟨rfl, hm6⟩
        have M6 := Lib.hid (M5.out.trans hm6 (by simp))
        clear hm6
        go_wp2_with fail
        refine (CP.out _ M6.out).mono ?_
        rintro e w7 ⟨rfl, hm7⟩
        have M7 := Lib.hid (M6.out.trans hm7 (by simp))
        clear hm7
        go_wp2_with fail
        refine (NM.out _ M7.out).mono ?_
        rintro e w8 ⟨vn, rfl, hnn⟩
        have M8 := Lib.hid (M7.out.trans hnn.mod (by simp))
        obtain ⟨ln, Fn, hcn, hnv, -⟩ := hnn.nv
        have HCN := Lib.hid hcn
        have HNV := Lib.hid hnv
        have HLN := Lib.hid ((hcn.fits one_lt_B 8).2 SM.out.1)
        clear hnn hcn hnv
        go_wp2_with fail
        refine (WD.out _ M8.out).mono ?_
        rintro e w9 ⟨hw, k, hk, rfl, hck⟩
        subst hw
        have HE := Lib.hid (Can.uniq one_lt_B HCN.out hck)
        have HA := Lib.hid (H.out.1.mod M8.out (by simp))
        have hkc : k ≤ cap := by have := HCAP.out; rw [HL.out] at hk; omega
        have hkl : k ≤ len := by rw [HL.out] at hk; exact hk
        have TK := Lib.hid (HA.out.take k hkl)
        rw [← List.map_take] at TK
        have SW := Lib.hid (sameWords_c HNV.out ⟨TK.out, fun x hx => H.out.2 x (List.mem_of_mem_take hx)⟩ (by have := HLN.out; omega) (by rw [List.length_take]; omega))
        rw [decide_eq_true HE.out] at SW
        clear hk hck
        go_wp2_with fail
        refine SW.out.mono ?_
        rintro e w10 ⟨rfl, hm10⟩
        have M10 := Lib.hid (M8.out.trans hm10 (by simp))
        clear hm10 SW
        go_wp2_with fail
        refine (OF.out _).mono ?_
        rintro e w11 ⟨vo, rfl, hno⟩
        have M11 := Lib.hid (M10.out.trans hno.mod (by simp))
        obtain ⟨lo, Fo, hco, hov, -⟩ := hno.nv
        have HCO := Lib.hid hco
        have HOV := Lib.hid hov
        have HLO := Lib.hid ((hco.fits one_lt_B 1).2 (by simpa using HNB.out))
        clear hno hco hov
        go_wp2_with fail
        refine (digits_c (nv_lit w11 [n] _ rfl (by simp) (by simpa using HNB.out)) (by simp)).mono ?_
        rintro e w12 ⟨vd, rfl, hd⟩
        have M12a := Lib.hid (Mod.trans (S := []) ((Mod.refl [] w11).alloc _) hd.1 (by simp))
        obtain ⟨-, dd, Fd, hdd, -⟩ := hd
        have ldd := dig_len (m := 1) hdd.2 (by simpa [vl] using HNB.out)
        have IC := Lib.hid (is_c (HOV.out.mod M12a.out (by simp)) HCO.out (by have := HLO.out; omega) hdd (by omega))
        rw [show vl B64 [n] = n by simp [vl], decide_eq_true rfl] at IC
        clear hdd ldd
        go_wp2_with fail
        refine IC.out.mono ?_
        rintro e w13 ⟨rfl, hm13⟩
        have M13 := Lib.hid ((M11.out.trans M12a.out (by simp)).trans hm13 (by simp))
        clear hm13 IC
        go_wp2
        go_ret
        exact ⟨rfl, M13.out⟩
      · have hc : cmpN x y = 0 := by unfold cmpN; rw [if_neg (by omega), if_neg (by omega)]
        rw [hc] at CP
        rw [decide_eq_false (show ¬ x < y by omega)] at LS1
        rw [decide_eq_false (show ¬ y < x by omega)] at LS2
        clear hc q
        go_wp2_with fail
        refine LS1.out.mono ?_
        rintro e w5 ⟨rfl, hm5⟩
        have M5 := Lib.hid (M4.out.trans hm5 (by simp))
        have M45 := Lib.hid hm5
        clear hm5
        go_wp2_with fail
        refine (LS2.out _ M45.out).mono ?_
        rintro e w6 ⟨rfl, hm6⟩
        have M6 := Lib.hid (M5.out.trans hm6 (by simp))
        clear hm6
        go_wp2_with fail
        refine (CP.out _ M6.out).mono ?_
        rintro e w7 ⟨rfl, hm7⟩
        have M7 := Lib.hid (M6.out.trans hm7 (by simp))
        clear hm7
        go_wp2_with fail
        refine (NM.out _ M7.out).mono ?_
        rintro e w8 ⟨vn, rfl, hnn⟩
        have M8 := Lib.hid (M7.out.trans hnn.mod (by simp))
        obtain ⟨ln, Fn, hcn, hnv, -⟩ := hnn.nv
        have HCN := Lib.hid hcn
        have HNV := Lib.hid hnv
        have HLN := Lib.hid ((hcn.fits one_lt_B 8).2 SM.out.1)
        clear hnn hcn hnv
        go_wp2_with fail
        refine (WD.out _ M8.out).mono ?_
        rintro e w9 ⟨hw, k, hk, rfl, hck⟩
        subst hw
        have HE := Lib.hid (Can.uniq one_lt_B HCN.out hck)
        have HA := Lib.hid (H.out.1.mod M8.out (by simp))
        have hkc : k ≤ cap := by have := HCAP.out; rw [HL.out] at hk; omega
        have hkl : k ≤ len := by rw [HL.out] at hk; exact hk
        have TK := Lib.hid (HA.out.take k hkl)
        rw [← List.map_take] at TK
        have SW := Lib.hid (sameWords_c HNV.out ⟨TK.out, fun x hx => H.out.2 x (List.mem_of_mem_take hx)⟩ (by have := HLN.out; omega) (by rw [List.length_take]; omega))
        rw [decide_eq_true HE.out] at SW
        clear hk hck
        go_wp2_with fail
        refine SW.out.mono ?_
        rintro e w10 ⟨rfl, hm10⟩
        have M10 := Lib.hid (M8.out.trans hm10 (by simp))
        clear hm10 SW
        go_wp2_with fail
        refine (OF.out _).mono ?_
        rintro e w11 ⟨vo, rfl, hno⟩
        have M11 := Lib.hid (M10.out.trans hno.mod (by simp))
        obtain ⟨lo, Fo, hco, hov, -⟩ := hno.nv
        have HCO := Lib.hid hco
        have HOV := Lib.hid hov
        have HLO := Lib.hid ((hco.fits one_lt_B 1).2 (by simpa using HNB.out))
        clear hno hco hov
        go_wp2_with fail
        refine (digits_c (nv_lit w11 [n] _ rfl (by simp) (by simpa using HNB.out)) (by simp)).mono ?_
        rintro e w12 ⟨vd, rfl, hd⟩
        have M12a := Lib.hid (Mod.trans (S := []) ((Mod.refl [] w11).alloc _) hd.1 (by simp))
        obtain ⟨-, dd, Fd, hdd, -⟩ := hd
        have ldd := dig_len (m := 1) hdd.2 (by simpa [vl] using HNB.out)
        have IC := Lib.hid (is_c (HOV.out.mod M12a.out (by simp)) HCO.out (by have := HLO.out; omega) hdd (by omega))
        rw [show vl B64 [n] = n by simp [vl], decide_eq_true rfl] at IC
        clear hdd ldd
        go_wp2_with fail
        refine IC.out.mono ?_
        rintro e w13 ⟨rfl, hm13⟩
        have M13 := Lib.hid ((M11.out.trans M12a.out (by simp)).trans hm13 (by simp))
        clear hm13 IC
        go_wp2
        go_ret
        exact ⟨rfl, M13.out⟩
      · have hc : cmpN x y = 1 := by unfold cmpN; rw [if_neg (by omega), if_pos q]
        rw [hc] at CP
        rw [decide_eq_false (show ¬ x < y by omega)] at LS1
        rw [decide_eq_true q] at LS2
        clear hc q
        go_wp2_with fail
        refine LS1.out.mono ?_
        rintro e w5 ⟨rfl, hm5⟩
        have M5 := Lib.hid (M4.out.trans hm5 (by simp))
        have M45 := Lib.hid hm5
        clear hm5
        go_wp2_with fail
        refine (LS2.out _ M45.out).mono ?_
        rintro e w6 ⟨rfl, hm6⟩
        have M6 := Lib.hid (M5.out.trans hm6 (by simp))
        clear hm6
        go_wp2_with fail
        refine (CP.out _ M6.out).mono ?_
        rintro e w7 ⟨rfl, hm7⟩
        have M7 := Lib.hid (M6.out.trans hm7 (by simp))
        clear hm7
        go_wp2_with fail
        refine (NM.out _ M7.out).mono ?_
        rintro e w8 ⟨vn, rfl, hnn⟩
        have M8 := Lib.hid (M7.out.trans hnn.mod (by simp))
        obtain ⟨ln, Fn, hcn, hnv, -⟩ := hnn.nv
        have HCN := Lib.hid hcn
        have HNV := Lib.hid hnv
        have HLN := Lib.hid ((hcn.fits one_lt_B 8).2 SM.out.1)
        clear hnn hcn hnv
        go_wp2_with fail
        refine (WD.out _ M8.out).mono ?_
        rintro e w9 ⟨hw, k, hk, rfl, hck⟩
        subst hw
        have HE := Lib.hid (Can.uniq one_lt_B HCN.out hck)
        have HA := Lib.hid (H.out.1.mod M8.out (by simp))
        have hkc : k ≤ cap := by have := HCAP.out; rw [HL.out] at hk; omega
        have hkl : k ≤ len := by rw [HL.out] at hk; exact hk
        have TK := Lib.hid (HA.out.take k hkl)
        rw [← List.map_take] at TK
        have SW := Lib.hid (sameWords_c HNV.out ⟨TK.out, fun x hx => H.out.2 x (List.mem_of_mem_take hx)⟩ (by have := HLN.out; omega) (by rw [List.length_take]; omega))
        rw [decide_eq_true HE.out] at SW
        clear hk hck
        go_wp2_with fail
        refine SW.out.mono ?_
        rintro e w10 ⟨rfl, hm10⟩
        have M10 := Lib.hid (M8.out.trans hm10 (by simp))
        clear hm10 SW
        go_wp2_with fail
        refine (OF.out _).mono ?_
        rintro e w11 ⟨vo, rfl, hno⟩
        have M11 := Lib.hid (M10.out.trans hno.mod (by simp))
        obtain ⟨lo, Fo, hco, hov, -⟩ := hno.nv
        have HCO := Lib.hid hco
        have HOV := Lib.hid hov
        have HLO := Lib.hid ((hco.fits one_lt_B 1).2 (by simpa using HNB.out))
        clear hno hco hov
        go_wp2_with fail
        refine (digits_c (nv_lit w11 [n] _ rfl (by simp) (by simpa using HNB.out)) (by simp)).mono ?_
        rintro e w12 ⟨vd, rfl, hd⟩
        have M12a := Lib.hid (Mod.trans (S := []) ((Mod.refl [] w11).alloc _) hd.1 (by simp))
        obtain ⟨-, dd, Fd, hdd, -⟩ := hd
        have ldd := dig_len (m := 1) hdd.2 (by simpa [vl] using HNB.out)
        have IC := Lib.hid (is_c (HOV.out.mod M12a.out (by simp)) HCO.out (by have := HLO.out; omega) hdd (by omega))
        rw [show vl B64 [n] = n by simp [vl], decide_eq_true rfl] at IC
        clear hdd ldd
        go_wp2_with fail
        refine IC.out.mono ?_
        rintro e w13 ⟨rfl, hm13⟩
        have M13 := Lib.hid ((M11.out.trans M12a.out (by simp)).trans hm13 (by simp))
        clear hm13 IC
        go_wp2
        go_ret
        exact ⟨rfl, M13.out⟩
theorem natOrders_walk (w : World) (a0 : Option Addr) (len cap : Nat) (z : Nat → Int) (hw : IntRow .u64 w a0 len cap z) (a1 : Option Addr) (len1 cap1 : Nat) (z1 : Nat → Int) (hw1 : IntRow .u64 w a1 len1 cap1 z1) (n : Int) (wn : (Lit.int .u64 n).wf = true) :
    Calls Tryd.prog 4 #[.slice a0 len cap, .slice a1 len1 cap1, .int .u64 n] w fun e w' => e = .returned (.bool true) ∧ Mod [] w w' := by
  obtain ⟨l, F, hn, hl⟩ := intRow_nv hw
  obtain ⟨l1, F1, hn1, hl1⟩ := intRow_nv hw1
  obtain ⟨h0, h1⟩ := bounds_u64 wn
  obtain ⟨m, rfl⟩ := Int.eq_ofNat_of_zero_le h0
  exact natOrders_main w a0 len cap l F hn hl a1 len1 cap1 l1 F1 hn1 hl1 m (by unfold B64; omega)
end Go.Proofs.YtkldjllnnbablaaDoor

/- The law NatSums: its walk. -/
import Derived.Test.YtkldjllnnbablaaDoorZ
set_option linter.unusedVariables false
set_option linter.unusedSimpArgs false
namespace Go.Proofs.YtkldjllnnbablaaDoor
open Go.RowKit Go.Shelf

set_option maxRecDepth 100000 in
set_option maxHeartbeats 16000000 in
theorem natSums_main (w : World) (a : Option Addr) (len cap : Nat) (l F : List Nat) (h : Nv w (.slice a len cap) l F) (hl : l.length = len) (a2 : Option Addr) (len2 cap2 : Nat) (l2 F2 : List Nat) (h2 : Nv w (.slice a2 len2 cap2) l2 F2) (hl2 : l2.length = len2) :
    Calls Tryd.prog 5 #[.slice a len cap, .slice a2 len2 cap2] w fun e w' => e = .returned (.bool true) ∧ Mod [] w w' := by
  have AL := Lib.hid alive_c
  have LG := Lib.hid (long_c a len cap)
  have LG2 := Lib.hid (long_c a2 len2 cap2)
  have HCAP := Lib.hid h.1.len
  have H := Lib.hid h
  have HL := Lib.hid hl
  have H2 := Lib.hid h2
  have HL2 := Lib.hid hl2
  clear h hl h2 hl2
  by_cases h8 : 8 < len
  · rw [decide_eq_true h8] at LG
    go_enter Tryd.func5, Tryd.ntmps5
    go_wp2_with fail
    refine (AL.out _).mono ?_
    rintro e w1 ⟨rfl, hm1⟩
    have HM1 := Lib.hid hm1
    clear hm1
    go_wp2_with fail
    refine (LG.out _).mono ?_
    rintro e w2 ⟨rfl, rfl⟩
    go_wp2
    go_ret
    exact ⟨rfl, HM1.out⟩
  · rw [decide_eq_false h8] at LG
    by_cases h82 : 8 < len2
    · rw [decide_eq_true h82] at LG2
      go_enter Tryd.func5, Tryd.ntmps5
      go_wp2_with fail
      refine (AL.out _).mono ?_
      rintro e w1 ⟨rfl, hm1⟩
      have HM1 := Lib.hid hm1
      clear hm1
      go_wp2_with fail
      refine (LG.out _).mono ?_
      rintro e w2 ⟨rfl, rfl⟩
      go_wp2_with fail
      refine (LG2.out _).mono ?_
      rintro e w2 ⟨rfl, rfl⟩
      go_wp2
      go_ret
      exact ⟨rfl, HM1.out⟩
    · rw [decide_eq_false h82] at LG2
      have SM := Lib.hid (small_lim H.out.2 (by rw [HL.out]; omega))
      have SM2 := Lib.hid (small_lim H2.out.2 (by rw [HL2.out]; omega))
      have DA := Lib.hid (fun w1 (hm : Mod [] w w1) => digits_c (H.out.mod hm (by simp)) (by rw [HL.out]; omega))
      have DB := Lib.hid (fun w1 (hm : Mod [] w w1) => digits_c (H2.out.mod hm (by simp)) (by rw [HL2.out]; omega))
      have AD := Lib.hid (fun w1 (hm : Mod [] w w1) => add_c (H.out.mod hm (by simp)) (H2.out.mod hm (by simp)) (by rw [HL.out]; omega) (by rw [HL2.out]; omega))
      have SB := Lib.hid (fun w1 (hm : Mod [] w w1) => sub_c (H.out.mod hm (by simp)) (H2.out.mod hm (by simp)) (by rw [HL.out]; omega) (by rw [HL2.out]; omega))
      obtain ⟨x, hx⟩ : ∃ x, vl B64 l = x := ⟨_, rfl⟩
      obtain ⟨y, hy⟩ : ∃ y, vl B64 l2 = y := ⟨_, rfl⟩
      rw [hx] at SM DA AD SB
      rw [hy] at SM2 DB AD SB
      clear hx hy
      go_enter Tryd.func5, Tryd.ntmps5
      go_wp2_with fail
      refine (AL.out _).mono ?_
      rintro e w1 ⟨rfl, hm1⟩
      have HM1 := Lib.hid hm1
      clear hm1
      go_wp2_with fail
      refine (LG.out _).mono ?_
      rintro e w2 ⟨rfl, rfl⟩
      go_wp2_with fail
      refine (LG2.out _).mono ?_
      rintro e w2 ⟨rfl, rfl⟩
      go_wp2_with fail
      refine (DA.out _ HM1.out).mono ?_
      rintro e w3 ⟨v3, rfl, hm3, d3, F3, e3, -⟩
      have M3 := Lib.hid (HM1.out.trans hm3 (by simp))
      have E3 := Lib.hid e3
      clear hm3 e3
      go_wp2_with fail
      refine (DB.out _ M3.out).mono ?_
      rintro e w4 ⟨v4, rfl, hm4, d4, F4, e4, -⟩
      have M4 := Lib.hid (M3.out.trans hm4 (by simp))
      have E3' := Lib.hid (E3.out.mod hm4 (by simp))
      have E4 := Lib.hid e4
      have l3 := dig_len (m := 8) E3.out.2 SM.out.1
      have l4 := dig_len (m := 8) e4.2 SM2.out.1
      have SUMB := Lib.hid (show x + y < B64 ^ 9 by
        have h1 := SM.out.1
        have h2 := SM2.out.1
        have h3 : B64 ^ 8 * 2 ≤ B64 ^ 9 := by rw [Nat.pow_succ]; exact Nat.mul_le_mul_left _ (by unfold B64; omega)
        omega)
      have SLIM := Lib.hid (show x + y < lim from Nat.lt_of_lt_of_le SUMB.out (Nat.pow_le_pow_right (by unfold B64; omega) (by omega)))
      have RA := Lib.hid (fun w' (hm : Mod [] w4 w') => refAdd_c (E3'.out.mod hm (by simp)) (E4.out.mod hm (by simp)) (by omega) (by omega))
      have LS := Lib.hid (fun w' (hm : Mod [] w4 w') => less_c (E3'.out.mod hm (by simp)) (E4.out.mod hm (by simp)) (by omega) (by omega))
      have RS := Lib.hid (fun w' (hm : Mod [] w4 w') => refSub_c (E3'.out.mod hm (by simp)) (E4.out.mod hm (by simp)) (by omega) (by omega))
      clear hm4 e4 l3 l4
      go_wp2_with fail
      refine (AD.out _ M4.out).mono ?_
      rintro e w5 (⟨-, vs, rfl, hns⟩ | ⟨hno, -, -⟩)
      · have M5 := Lib.hid (M4.out.trans hns.mod (by simp))
        have M45 := Lib.hid hns.mod
        obtain ⟨ls, Fs, hcs, hvs, -⟩ := hns.nv
        have HCS := Lib.hid hcs
        have HVS := Lib.hid hvs
        have HLS := Lib.hid (hcs.fits64.2 SLIM.out)
        clear hns hcs hvs
        by_cases hlt : x < y
        · rw [decide_eq_true hlt] at LS
          have HNO := Lib.hid (show (decide (x < lim) && decide (y ≤ x)) = false by rw [Bool.and_eq_false_iff]; exact .inr (decide_eq_false (by omega)))
          rw [HNO.out] at SB
          clear hlt
          go_wp2_with fail
          refine (SB.out _ M5.out).mono ?_
          rintro e w6 (⟨hno, -⟩ | ⟨-, rfl, hm6⟩)
          · exact absurd hno (by simp)
          · have M6 := Lib.hid (M5.out.trans hm6 (by simp))
            have M46 := Lib.hid (M45.out.trans hm6 (by simp))
            have HVS6 := Lib.hid (HVS.out.mod hm6 (by simp))
            clear hm6
            go_wp2_with fail
            refine (RA.out _ M46.out).mono ?_
            rintro e w7 ⟨v7, rfl, hm7, d7, F7, e7, -⟩
            have M7 := Lib.hid (M6.out.trans hm7 (by simp))
            have M47 := Lib.hid (M46.out.trans hm7 (by simp))
            have l7 := dig_len (m := 9) e7.2 SUMB.out
            have TC := Lib.hid (lawTold_c (HVS6.out.mod hm7 (by simp)) HCS.out HLS.out e7 (by omega))
            rw [decide_eq_true rfl] at TC
            clear hm7 e7 l7
            go_wp2_with fail
            refine TC.out.mono ?_
            rintro e w8 ⟨rfl, hm8⟩
            have M8 := Lib.hid (M7.out.trans hm8 (by simp))
            have M48 := Lib.hid (M47.out.trans hm8 (by simp))
            clear hm8 TC
            go_wp2_with fail
            refine (LS.out _ M48.out).mono ?_
            rintro e w9 ⟨rfl, hm9⟩
            have M9 := Lib.hid (M8.out.trans hm9 (by simp))
            clear hm9
            go_wp2
            go_ret
            exact ⟨rfl, M9.out⟩
        · rw [decide_eq_false hlt] at LS
          have HYES := Lib.hid (show (decide (x < lim) && decide (y ≤ x)) = true by rw [Bool.and_eq_true]; exact ⟨decide_eq_true SM.out.2, decide_eq_true (by omega)⟩)
          have HLE := Lib.hid (show y ≤ x by omega)
          rw [HYES.out] at SB
          clear hlt
          go_wp2_with fail
          refine (SB.out _ M5.out).mono ?_
          rintro e w6 (⟨-, vd, rfl, hnd⟩ | ⟨hno, -, -⟩)
          · have M6 := Lib.hid (M5.out.trans hnd.mod (by simp))
            have M46 := Lib.hid (M45.out.trans hnd.mod (by simp))
            have HVS6 := Lib.hid (HVS.out.mod hnd.mod (by simp))
            obtain ⟨ld, Fd, hcd, hvd, -⟩ := hnd.nv
            have HCD := Lib.hid hcd
            have HVD := Lib.hid hvd
            have HDB := Lib.hid (show x - y < B64 ^ 8 from Nat.lt_of_le_of_lt (Nat.sub_le _ _) SM.out.1)
            have HLD := Lib.hid ((hcd.fits one_lt_B 8).2 HDB.out)
            clear hnd hcd hvd
            go_wp2_with fail
            refine (RA.out _ M46.out).mono ?_
            rintro e w7 ⟨v7, rfl, hm7, d7, F7, e7, -⟩
            have M7 := Lib.hid (M6.out.trans hm7 (by simp))
            have M47 := Lib.hid (M46.out.trans hm7 (by simp))
            have M67 := Lib.hid hm7
            have l7 := dig_len (m := 9) e7.2 SUMB.out
            have TC := Lib.hid (lawTold_c (HVS6.out.mod hm7 (by simp)) HCS.out HLS.out e7 (by omega))
            rw [decide_eq_true rfl] at TC
            clear hm7 e7 l7
            go_wp2_with fail
            refine TC.out.mono ?_
            rintro e w8 ⟨rfl, hm8⟩
            have M8 := Lib.hid (M7.out.trans hm8 (by simp))
            have M48 := Lib.hid (M47.out.trans hm8 (by simp))
            have M68 := Lib.hid (M67.out.trans hm8 (by simp))
            clear hm8 TC
            go_wp2_with fail
            refine (LS.out _ M48.out).mono ?_
            rintro e w9 ⟨rfl, hm9⟩
            have M9 := Lib.hid (M8.out.trans hm9 (by simp))
            have M49 := Lib.hid (M48.out.trans hm9 (by simp))
            have M69 := Lib.hid (M68.out.trans hm9 (by simp))
            clear hm9
            go_wp2_with fail
            refine (RS.out _ M49.out HLE.out).mono ?_
            rintro e wa ⟨va, rfl, hma, da, Fa, ea, -⟩
            have Ma := Lib.hid (M9.out.trans hma (by simp))
            have la := dig_len (m := 8) ea.2 HDB.out
            have TC := Lib.hid (lawTold_c (HVD.out.mod (S := []) (M69.out.trans hma (by simp)) (by simp)) HCD.out (by have := HLD.out; omega) ea (by omega))
            rw [decide_eq_true rfl] at TC
            clear hma ea la
            go_wp2_with fail
            refine TC.out.mono ?_
            rintro e wb ⟨rfl, hmb⟩
            have Mb := Lib.hid (Ma.out.trans hmb (by simp))
            clear hmb TC
            go_wp2
            go_ret
            exact ⟨rfl, Mb.out⟩
          · exact absurd hno (by simp)
      · exact absurd SLIM.out (of_decide_eq_false hno)
theorem natSums_walk (w : World) (a0 : Option Addr) (len cap : Nat) (z : Nat → Int) (hw : IntRow .u64 w a0 len cap z) (a1 : Option Addr) (len1 cap1 : Nat) (z1 : Nat → Int) (hw1 : IntRow .u64 w a1 len1 cap1 z1) :
    Calls Tryd.prog 5 #[.slice a0 len cap, .slice a1 len1 cap1] w fun e w' => e = .returned (.bool true) ∧ Mod [] w w' := by
  obtain ⟨l, F, hn, hl⟩ := intRow_nv hw
  obtain ⟨l1, F1, hn1, hl1⟩ := intRow_nv hw1
  exact natSums_main w a0 len cap l F hn hl a1 len1 cap1 l1 F1 hn1 hl1
end Go.Proofs.YtkldjllnnbablaaDoor

/- The law SeqLazy: the walk. -/
import Derived.Test.YtchbgnfmmplinaaV
set_option linter.unusedVariables false
set_option linter.unusedSimpArgs false
namespace Go.Proofs.Ytchbgnfmmplinaa
open Go.RowKit

set_option maxRecDepth 100000 in
set_option maxHeartbeats 8000000 in
theorem seqLazy_main (w : World) (ks es ts : Nat) (hks : ks ≤ 255) (hes : es ≤ 255) (hts : ts ≤ 255) (a0 : Option Addr) (n1 cap : Nat) (l : List Int) (F : List Nat) (r : Rv w (.slice a0 n1 cap) (l.map ei) F) (hl1 : l.length = n1) (h1 : n1 ≤ 50)
    (FAR R2 R6 LA : List Int) (hfar : rngL 0 9223372036854775807 1 = FAR) (hR2 : (rngL 0 200 1).take 200 = R2) (hR6 : (rngL 0 60 1).take 60 = R6) (l2 : R2.length = 200) (l6 : R6.length = 60) (m : Nat) (hm : (ts : Int) % 50 = m) (hm5 : m < 50) (hLA : LA.length = m)
    (gLA : ∀ j (h : j < LA.length), LA[j] = (ks : Int) + j * (1 + (es : Int) % 20)) (P1 : tk (evL (sk FAR ks) (1 + (es : Int) % 20)) ((ts : Int) % 50) = LA) (P2 : tk (mgL FAR l) ((ts : Int) % 50) = tk (mgL R2 l) ((ts : Int) % 50)) (P3 : tk (l ++ FAR) ((ts : Int) % 50) = tk (l ++ R6) ((ts : Int) % 50)) :
    Calls Try.prog 7 #[.int .u8 ks, .int .u8 es, .int .u8 ts, .slice a0 n1 cap] w fun e w' => e = .returned (.bool true) ∧ Mod [] w w' := by
  obtain ⟨i0, hi, hz0, hz1, hz2⟩ := info_parts Try.info3
  have A := Lib.hid r
  have hgt1 : ¬ ((50 : Int) < n1) := by omega
  have LL : Hid (l.length ≤ 100000) := by show _ ≤ _; omega
  have NL : Hid ((l.map ei).length = n1) := by show _ = _; rw [List.length_map, hl1]
  have OL := Lib.hid (ei_one l)
  have O6 := Lib.hid (ei_one R6)
  have HFAR := Lib.hid hfar
  have HR2 := Lib.hid hR2
  have HR6 := Lib.hid hR6
  have HP1 := Lib.hid P1
  have HP2 := Lib.hid P2
  have HP3 := Lib.hid P3
  have HGL := Lib.hid gLA
  have HLA := Lib.hid hLA
  have I0 : Hid (I64 0) := ⟨by omega, by omega⟩
  have I1 : Hid (I64 1) := ⟨by omega, by omega⟩
  have IM : Hid (I64 9223372036854775807) := ⟨by omega, by omega⟩
  have I60 : Hid (I64 60) := ⟨by omega, by omega⟩
  have I200 : Hid (I64 200) := ⟨by omega, by omega⟩
  have IK : Hid (I64 ks) := ⟨by omega, by omega⟩
  have IN : Hid (I64 (1 + (es : Int) % 20)) := ⟨by omega, by omega⟩
  have HM : Hid ((ts : Int) % 50 ≤ 9223372036854775807) := by show _ ≤ _; omega
  have H6 : Hid ((60 : Int) ≤ 9223372036854775807) := by show _ ≤ _; omega
  have B6 : Hid (60 ≤ 1000 ∧ 200 ≤ 1000) := ⟨by omega, by omega⟩
  have E60 : Hid (tk LA 60 = LA) := tk_all (by omega)
  have NA : Hid ((LA.map ei).length = m) := by show _ = _; rw [List.length_map, hLA]
  have N6 : Hid ((R6.map ei).length = 60) := by show _ = _; rw [List.length_map, l6]
  have N2 : Hid ((R2.map ei).length = 200) := by show _ = _; rw [List.length_map, l2]
  have N16 : Hid (((l ++ R6).map ei).length = n1 + 60) := by show _ = _; rw [List.length_map, List.length_append, hl1, l6]
  have LLA : Hid (LA.length ≤ 100000) := by show _ ≤ _; omega
  have L2 : Hid (R2.length ≤ 100000) := by show _ ≤ _; omega
  have LG : Hid ((mgL R2 l).length ≤ 100000) := by show _ ≤ _; have := mgL_len R2 l; omega
  have LC : Hid ((l ++ R6).length ≤ 100000) := by show _ ≤ _; rw [List.length_append]; omega
  have LTG : Hid ((tk (mgL R2 l) ((ts : Int) % 50)).length ≤ 100000) := Nat.le_trans (tk_len _ _) LG.out
  have LTC : Hid ((tk (l ++ R6) ((ts : Int) % 50)).length ≤ 100000) := Nat.le_trans (tk_len _ _) LC.out
  obtain ⟨ng, hng⟩ : ∃ q, ((mgL R2 l).map ei).length = q := ⟨_, rfl⟩
  obtain ⟨ngt, hngt⟩ : ∃ q, ((tk (mgL R2 l) ((ts : Int) % 50)).map ei).length = q := ⟨_, rfl⟩
  obtain ⟨nct, hnct⟩ : ∃ q, ((tk (l ++ R6) ((ts : Int) % 50)).map ei).length = q := ⟨_, rfl⟩
  have NG := Lib.hid hng
  have NGT := Lib.hid hngt
  have NCT := Lib.hid hnct
  have NF : Hid (∀ g lb, NoneTo (.func (.func g) #[] lb) g lb) := NoneTo.func
  have hbe : (((m : Nat) : Int) == (ts : Int) % 50) = true := by rw [beq_iff_eq]; exact hm.symm
  have HE0 : Hid (∀ j : Nat, j < m → 0 ≤ (j : Int) * (1 + (es : Int) % 20) ∧ (j : Int) * (1 + (es : Int) % 20) ≤ 1000) := fun j hj => by
    have a1 : (0 : Int) ≤ 1 + (es : Int) % 20 ∧ 1 + (es : Int) % 20 ≤ 20 := by omega
    refine ⟨Int.mul_nonneg (by omega) a1.1, ?_⟩
    have := Int.mul_le_mul (show (j : Int) ≤ 50 by omega) a1.2 a1.1 (by omega)
    omega
  clear r hl1 hng hngt hnct hfar hR2 hR6 l2 l6 hLA gLA P1 P2 P3 hm
  go_enter Try.func7, Try.ntmps7
  generalize hMX : (9223372036854775807 : Int) = MX
  have IMX : Hid (I64 MX) := by show I64 MX; rw [← hMX]; exact IM.out
  have HFX : Hid (rngL 0 MX 1 = FAR) := by show _ = _; rw [← hMX]; exact HFAR.out
  clear hMX HFAR
  go_wp2_with fail
  refine (alive_c w).mono ?_
  rintro e w1 ⟨rfl, m1⟩
  have M1 := Lib.hid m1
  have A_1 := Lib.hid (A.out.mod m1 (by simp))
  clear m1
  go_wp2_with fail
  refine (range_c I0.out IMX.out I1.out w1).mono ?_
  rintro e w2 ⟨lb2, rfl, ⟨RFAR, s2, f2⟩, m2⟩
  rw [HFX.out] at s2
  have M2 := Lib.hid (M1.out.trans m2 (by simp))
  have A_2 := Lib.hid (A_1.out.mod m2 (by simp))
  have S := Lib.hid s2
  clear s2 m2 f2
  go_wp2_with fail
  refine (skip_c S.out _ IK.out).mono ?_
  rintro e w3 ⟨lb3, rfl, ⟨R3, s3, f3⟩, m3⟩
  have M3 := Lib.hid (M2.out.trans m3 (by simp))
  have A_3 := Lib.hid (A_2.out.mod m3 (by simp))
  have S_3 := Lib.hid (S.out.mod m3 (by simp))
  have T := Lib.hid s3
  clear s3 m3 f3
  go_wp2_with fail
  refine (every_c T.out _ IN.out).mono ?_
  rintro e w4 ⟨lb4, rfl, ⟨R4, s4, f4⟩, m4⟩
  have M4 := Lib.hid (M3.out.trans m4 (by simp))
  have A_4 := Lib.hid (A_3.out.mod m4 (by simp))
  have S_4 := Lib.hid (S_3.out.mod m4 (by simp))
  have T_4 := Lib.hid (T.out.mod m4 (by simp))
  have U := Lib.hid s4
  clear s4 m4 f4
  clear T_4
  go_wp2_with fail
  refine (take_c U.out _ HM.out).mono ?_
  rintro e w5 ⟨lb5, rfl, ⟨R5, s5, f5⟩, m5⟩
  rw [HP1.out] at s5
  have M5 := Lib.hid (M4.out.trans m5 (by simp))
  have A_5 := Lib.hid (A_4.out.mod m5 (by simp))
  have S_5 := Lib.hid (S_4.out.mod m5 (by simp))
  have U_5 := Lib.hid (U.out.mod m5 (by simp))
  have T := Lib.hid s5
  clear s5 m5 f5
  clear U_5
  go_wp2_with fail
  refine (collect_c T.out _ H6.out (by rw [E60.out]; exact LLA.out)).mono ?_
  rintro e w6 ⟨v6, rfl, n6⟩
  rw [E60.out] at n6
  obtain ⟨A6, c6, rfl⟩ := n6.shape
  obtain ⟨F6, r6, _⟩ := n6.rv
  have m6 := n6.mod
  clear n6
  rw [NA.out] at r6 ⊢
  have M6 := Lib.hid (M5.out.trans m6 (by simp))
  have A_6 := Lib.hid (A_5.out.mod m6 (by simp))
  have S_6 := Lib.hid (S_5.out.mod m6 (by simp))
  have T_6 := Lib.hid (T.out.mod m6 (by simp))
  have V := Lib.hid r6
  clear r6 m6
  clear T_6
  go_wp2_with fail
  go_loopw [14] (fun i wr => ∃ j : Nat, i = .int .i64 j ∧ j ≤ m ∧ wr = w6) (fun i _ => m - (intOf i).toNat)
  case atStart => exact ⟨0, rfl, Nat.zero_le _, rfl⟩
  case round =>
    obtain ⟨j, rfl, hj, rfl⟩ := hrel
    by_cases hlt : j < m
    · obtain ⟨b1, o1, rfl, d1⟩ := V.out.at j (by rw [NA.out]; exact hlt)
      rw [List.getElem_map] at d1
      have e1 := HGL.out j (by rw [HLA.out]; exact hlt)
      rw [e1] at d1
      unfold ei at d1
      clear e1
      obtain ⟨e2, e3⟩ := HE0.out j hlt
      have hnb : (((ks : Int) + (j : Int) * (1 + (es : Int) % 20)) != ((ks : Int) + (j : Int) * (1 + (es : Int) % 20))) = false := by simp
      generalize hp : (j : Int) * (1 + (es : Int) % 20) = p at *
      go_wp2
      go_roundw
      case rel => exact ⟨j + 1, by go_num, hlt, by first | rfl | trivial⟩
      case measure => simp [intOf]; omega
    · obtain rfl : j = m := by omega
      go_wp2_with fail
      refine (merge_c (NF.out _ _) S_6.out A_6.out LL.out).mono ?_
      rintro e w7 ⟨lb7, rfl, ⟨R7, s7, f7⟩, m7⟩
      have M7 := Lib.hid (M6.out.trans m7 (by simp))
      have A_7 := Lib.hid (A_6.out.mod m7 (by simp))
      have S_7 := Lib.hid (S_6.out.mod m7 (by simp))
      have V_7 := Lib.hid (V.out.mod m7 (by simp))
      have G := Lib.hid s7
      clear s7 m7 f7
      go_wp2_with fail
      refine (collect_c G.out _ HM.out (by rw [HP2.out]; exact LTG.out)).mono ?_
      rintro e w8 ⟨v8, rfl, n8⟩
      rw [HP2.out] at n8
      obtain ⟨A8, c8, rfl⟩ := n8.shape
      obtain ⟨F8, r8, _⟩ := n8.rv
      have m8 := n8.mod
      clear n8
      rw [NGT.out] at r8 ⊢
      have M8 := Lib.hid (M7.out.trans m8 (by simp))
      have A_8 := Lib.hid (A_7.out.mod m8 (by simp))
      have S_8 := Lib.hid (S_7.out.mod m8 (by simp))
      have V_8 := Lib.hid (V_7.out.mod m8 (by simp))
      have G_8 := Lib.hid (G.out.mod m8 (by simp))
      have VB := Lib.hid r8
      clear r8 m8
      clear G_8
      go_wp2_with fail
      refine (of_c A_8.out LL.out).mono ?_
      rintro e w9 ⟨lb9, rfl, ⟨R9, s9, f9⟩, m9⟩
      have M9 := Lib.hid (M8.out.trans m9 (by simp))
      have A_9 := Lib.hid (A_8.out.mod m9 (by simp))
      have S_9 := Lib.hid (S_8.out.mod m9 (by simp))
      have V_9 := Lib.hid (V_8.out.mod m9 (by simp))
      have VB_9 := Lib.hid (VB.out.mod m9 (by simp))
      have O := Lib.hid s9
      clear s9 m9 f9
      have MA : Mod [] w9 (w9.alloc (.cells #[.func (.func 27) #[] lb9, .func (.func 25) #[] lb2] 26)) := (Mod.refl _ _).alloc _
      have T' := O.out.mod MA (by simp)
      have U' := S_9.out.mod MA (by simp)
      have hlt' : ∀ k ∈ R9 ++ RFAR, k < (w9.alloc (.cells #[.func (.func 27) #[] lb9, .func (.func 25) #[] lb2] 26)).heap.size := by
        intro k hk
        rcases List.mem_append.1 hk with h | h
        · exact T'.1 k h
        · exact U'.1 k h
      have CC := Lib.hid (concat_c (w := (w9.alloc (.cells #[.func (.func 27) #[] lb9, .func (.func 25) #[] lb2] 26))) (v := .slice (some ⟨w9.heap.size, 0, none⟩) 2 2) (S := [(.func (.func 27) #[] lb9, l), (.func (.func 25) #[] lb2, FAR)]) (R := R9 ++ RFAR) (by exact Rv.litF w9 26 [_, _] 2 rfl (by omega))
        (by intro u hu; simp at hu; rcases hu with rfl | rfl <;> rfl) (by simp) hlt' (by
          intro p hp
          simp only [List.mem_cons, List.not_mem_nil, or_false] at hp
          rcases hp with rfl | rfl
          · exact (Src.func T').wide (fun k hk => List.mem_append_left _ hk) hlt'
          · exact (Src.func U').wide (fun k hk => List.mem_append_right _ hk) hlt'))
      have ECAT : Hid (catL [((.func (.func 27) #[] lb9 : Value), l), (.func (.func 25) #[] lb2, FAR)] = l ++ FAR) := by
        show _ = _
        unfold catL; simp
      have hMA := Lib.hid MA
      clear MA T' U' hlt'
      go_wp2_with fail
      refine CC.out.mono ?_
      rintro e w10 ⟨lb10, rfl, ⟨R10, s10, f10⟩, m10⟩
      rw [ECAT.out] at s10
      have m10' := hMA.out.trans m10 (by simp)
      clear O
      have M10 := Lib.hid (M9.out.trans m10' (by simp))
      have A_10 := Lib.hid (A_9.out.mod m10' (by simp))
      have S_10 := Lib.hid (S_9.out.mod m10' (by simp))
      have V_10 := Lib.hid (V_9.out.mod m10' (by simp))
      have VB_10 := Lib.hid (VB_9.out.mod m10' (by simp))
      have C := Lib.hid s10
      clear s10 m10 f10 m10' CC
      go_wp2_with fail
      refine (collect_c C.out _ HM.out (by rw [HP3.out]; exact LTC.out)).mono ?_
      rintro e w11 ⟨v11, rfl, n11⟩
      rw [HP3.out] at n11
      obtain ⟨A11, c11, rfl⟩ := n11.shape
      obtain ⟨F11, r11, _⟩ := n11.rv
      have m11 := n11.mod
      clear n11
      rw [NCT.out] at r11 ⊢
      have M11 := Lib.hid (M10.out.trans m11 (by simp))
      have A_11 := Lib.hid (A_10.out.mod m11 (by simp))
      have S_11 := Lib.hid (S_10.out.mod m11 (by simp))
      have V_11 := Lib.hid (V_10.out.mod m11 (by simp))
      have VB_11 := Lib.hid (VB_10.out.mod m11 (by simp))
      have C_11 := Lib.hid (C.out.mod m11 (by simp))
      have VC := Lib.hid r11
      clear r11 m11
      clear C_11
      go_wp2_with (at_builtin; refine wpList_append_slz _ rfl _ _ 23 rfl 3 i0 (.int .i64 0) 1 8 Try.underlying23 hi hz0 hz1 hz2 rfl (by decide) _ 0 [] [w11.heap.size] rfl (Sl.lit w11 3 1 0 #[] (by unfold maxLen; omega) rfl) a0 n1 cap (l.map ei) rfl (by rw [NL.out]; omega) (A_11.out.mod (S := []) (by (repeat (first | exact Mod.refl _ _ | apply Mod.drew | apply Mod.drewN | apply Mod.alloc | refine Mod.setCell ?_ _ _ (by first | simp | (simp; omega))))) (by simp)).src OL.out (by unfold maxLen; omega) (by omega) ?_; intro v12 w12 F' hs5' hm5' hf5'; obtain ⟨F5, hs5, m5, hf5⟩ := NewV.of_empty hs5' NL.out hm5' hf5'; rw [NL.out] at hs5; clear hs5' hm5' hf5')
      have X5 := Lib.hid hs5
      have G5 := Lib.hid hf5
      have M5 := Lib.hid m5
      clear hs5 hf5 m5
      refine (refRange_c I0.out I60.out I1.out 60 B6.out.1 w12).mono ?_
      rintro e w13 ⟨v13, rfl, n13⟩
      unfold RNew at n13
      rw [HR6.out] at n13
      obtain ⟨A13, c13, rfl⟩ := n13.shape
      obtain ⟨F6, r13, _⟩ := n13.rv
      have m13 := n13.mod
      clear n13
      rw [N6.out] at r13 ⊢
      have X6 := Lib.hid (X5.out.mod m13 (by simp))
      have M6 := Lib.hid m13
      have Q6 := Lib.hid r13
      clear r13 m13
      go_wp2_with (at_builtin; refine wpList_append_slz _ rfl _ _ 23 rfl 3 i0 (.int .i64 0) 1 8 Try.underlying23 hi hz0 hz1 hz2 rfl (by decide) _ n1 _ F5 rfl X6.out _ _ _ (R6.map ei) rfl (by rw [N6.out]) Q6.out.src O6.out (by unfold maxLen; omega) (by omega) ?_; intro v14 w14 F' hs hm hf; have n14 := NewV.app M5.out G5.out NL.out N6.out M6.out hs hm hf; rw [← List.map_append] at n14; obtain ⟨A14, c14, rfl⟩ := n14.shape; obtain ⟨F14, r14, _⟩ := n14.rv; have m14 := n14.mod; clear n14 hs hm hf; rw [N16.out] at r14 ⊢)
      have M14 := Lib.hid (M11.out.trans m14 (by simp))
      have A_14 := Lib.hid (A_11.out.mod m14 (by simp))
      have S_14 := Lib.hid (S_11.out.mod m14 (by simp))
      have V_14 := Lib.hid (V_11.out.mod m14 (by simp))
      have VB_14 := Lib.hid (VB_11.out.mod m14 (by simp))
      have VC_14 := Lib.hid (VC.out.mod m14 (by simp))
      have D := Lib.hid r14
      clear r14 m14 X5 X6 Q6 M5 M6 G5
      refine (refRange_c I0.out I200.out I1.out 200 B6.out.2 w14).mono ?_
      rintro e w15 ⟨v15, rfl, n15⟩
      unfold RNew at n15
      rw [HR2.out] at n15
      obtain ⟨A15, c15, rfl⟩ := n15.shape
      obtain ⟨F15, r15, _⟩ := n15.rv
      have m15 := n15.mod
      clear n15
      rw [N2.out] at r15 ⊢
      have M15 := Lib.hid (M14.out.trans m15 (by simp))
      have A_15 := Lib.hid (A_14.out.mod m15 (by simp))
      have S_15 := Lib.hid (S_14.out.mod m15 (by simp))
      have V_15 := Lib.hid (V_14.out.mod m15 (by simp))
      have VB_15 := Lib.hid (VB_14.out.mod m15 (by simp))
      have VC_15 := Lib.hid (VC_14.out.mod m15 (by simp))
      have D_15 := Lib.hid (D.out.mod m15 (by simp))
      have P2 := Lib.hid r15
      clear r15 m15
      go_wp2_with fail
      refine (refMerge_c P2.out A_15.out L2.out LL.out).mono ?_
      rintro e w16 ⟨v16, rfl, n16⟩
      obtain ⟨A16, c16, rfl⟩ := n16.shape
      obtain ⟨F16, r16, _⟩ := n16.rv
      have m16 := n16.mod
      clear n16
      rw [NG.out] at r16 ⊢
      have M16 := Lib.hid (M15.out.trans m16 (by simp))
      have A_16 := Lib.hid (A_15.out.mod m16 (by simp))
      have S_16 := Lib.hid (S_15.out.mod m16 (by simp))
      have V_16 := Lib.hid (V_15.out.mod m16 (by simp))
      have VB_16 := Lib.hid (VB_15.out.mod m16 (by simp))
      have VC_16 := Lib.hid (VC_15.out.mod m16 (by simp))
      have D_16 := Lib.hid (D_15.out.mod m16 (by simp))
      have P2_16 := Lib.hid (P2.out.mod m16 (by simp))
      have P := Lib.hid r16
      clear r16 m16
      go_wp2_with fail
      refine (refTake_c P.out LG.out _).mono ?_
      rintro e w17 ⟨v17, rfl, n17⟩
      obtain ⟨A17, c17, rfl⟩ := n17.shape
      obtain ⟨F17, r17, _⟩ := n17.rv
      have m17 := n17.mod
      clear n17
      rw [NGT.out] at r17 ⊢
      have M17 := Lib.hid (M16.out.trans m17 (by simp))
      have A_17 := Lib.hid (A_16.out.mod m17 (by simp))
      have S_17 := Lib.hid (S_16.out.mod m17 (by simp))
      have V_17 := Lib.hid (V_16.out.mod m17 (by simp))
      have VB_17 := Lib.hid (VB_16.out.mod m17 (by simp))
      have VC_17 := Lib.hid (VC_16.out.mod m17 (by simp))
      have D_17 := Lib.hid (D_16.out.mod m17 (by simp))
      have P2_17 := Lib.hid (P2_16.out.mod m17 (by simp))
      have P_17 := Lib.hid (P.out.mod m17 (by simp))
      have Q := Lib.hid r17
      clear r17 m17
      go_wp2_with fail
      refine (same_yes VB_17.out Q.out LTG.out).mono ?_
      rintro e w18 ⟨rfl, m18⟩
      have M18 := Lib.hid (M17.out.trans m18 (by simp))
      have A_18 := Lib.hid (A_17.out.mod m18 (by simp))
      have S_18 := Lib.hid (S_17.out.mod m18 (by simp))
      have V_18 := Lib.hid (V_17.out.mod m18 (by simp))
      have VB_18 := Lib.hid (VB_17.out.mod m18 (by simp))
      have VC_18 := Lib.hid (VC_17.out.mod m18 (by simp))
      have D_18 := Lib.hid (D_17.out.mod m18 (by simp))
      have P2_18 := Lib.hid (P2_17.out.mod m18 (by simp))
      have P_18 := Lib.hid (P_17.out.mod m18 (by simp))
      have Q_18 := Lib.hid (Q.out.mod m18 (by simp))
      clear m18
      clear VB_18
      clear Q_18
      clear P_18
      clear P2_18
      go_wp2_with fail
      refine (refTake_c D_18.out LC.out _).mono ?_
      rintro e w19 ⟨v19, rfl, n19⟩
      obtain ⟨A19, c19, rfl⟩ := n19.shape
      obtain ⟨F19, r19, _⟩ := n19.rv
      have m19 := n19.mod
      clear n19
      rw [NCT.out] at r19 ⊢
      have M19 := Lib.hid (M18.out.trans m19 (by simp))
      have A_19 := Lib.hid (A_18.out.mod m19 (by simp))
      have S_19 := Lib.hid (S_18.out.mod m19 (by simp))
      have V_19 := Lib.hid (V_18.out.mod m19 (by simp))
      have VC_19 := Lib.hid (VC_18.out.mod m19 (by simp))
      have D_19 := Lib.hid (D_18.out.mod m19 (by simp))
      have Q := Lib.hid r19
      clear r19 m19
      go_wp2_with fail
      refine (same_yes VC_19.out Q.out LTC.out).mono ?_
      rintro e w20 ⟨rfl, m20⟩
      have M20 := Lib.hid (M19.out.trans m20 (by simp))
      have A_20 := Lib.hid (A_19.out.mod m20 (by simp))
      have S_20 := Lib.hid (S_19.out.mod m20 (by simp))
      have V_20 := Lib.hid (V_19.out.mod m20 (by simp))
      have VC_20 := Lib.hid (VC_19.out.mod m20 (by simp))
      have D_20 := Lib.hid (D_19.out.mod m20 (by simp))
      have Q_20 := Lib.hid (Q.out.mod m20 (by simp))
      clear m20
      go_wp2
      go_ret
      exact ⟨rfl, M20.out⟩
end Go.Proofs.Ytchbgnfmmplinaa

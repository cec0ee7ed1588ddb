/- The law SeqMerges: the walk. -/
import Derived.Test.YtchbgnfmmplinaaT
set_option linter.unusedVariables false
set_option linter.unusedSimpArgs false
namespace Go.Proofs.Ytchbgnfmmplinaa
open Go.RowKit

set_option maxRecDepth 100000 in
set_option maxHeartbeats 8000000 in
theorem seqMerges_main (w : World) (a0 : Option Addr) (n1 cap : Nat) (a : List Int) (F : List Nat) (r : Rv w (.slice a0 n1 cap) (a.map ei) F) (hl1 : a.length = n1) (h1 : n1 ≤ 100)
    (b0 : Option Addr) (n2 cap2 : Nat) (b : List Int) (F2 : List Nat) (r2 : Rv w (.slice b0 n2 cap2) (b.map ei) F2) (hl2 : b.length = n2) (h2 : n2 ≤ 100) (k : Nat) (hk : k ≤ 255) :
    Calls Try.prog 5 #[.slice a0 n1 cap, .slice b0 n2 cap2, .int .u8 k] w fun e w' => e = .returned (.bool true) ∧ Mod [] w w' := by
  obtain ⟨i0, hi, hz0, hz1, hz2⟩ := info_parts Try.info3
  have A := Lib.hid r
  have B := Lib.hid r2
  have hgt1 : ¬ ((100 : Int) < n1) := by omega
  have hgt2 : ¬ ((100 : Int) < n2) := by omega
  have LA : Hid (a.length ≤ 100000) := by show _ ≤ _; omega
  have LB : Hid (b.length ≤ 100000) := by show _ ≤ _; omega
  have NA : Hid ((a.map ei).length = n1) := by show _ = _; rw [List.length_map, hl1]
  have NB : Hid ((b.map ei).length = n2) := by show _ = _; rw [List.length_map, hl2]
  have OA := Lib.hid (ei_one a)
  have OB := Lib.hid (ei_one b)
  have LG : Hid ((mgL a b).length ≤ 100000) := by show _ ≤ _; have := mgL_len a b; omega
  have LC : Hid ((a ++ b).length ≤ 100000) := by show _ ≤ _; rw [List.length_append]; omega
  have LTG : Hid ((tk (mgL a b) k).length ≤ 100000) := Nat.le_trans (tk_len _ _) LG.out
  have LTC : Hid ((tk (a ++ b) k).length ≤ 100000) := Nat.le_trans (tk_len _ _) LC.out
  have HK : Hid ((k : Int) ≤ 9223372036854775807) := by show _ ≤ _; omega
  have H3 : Hid ((300 : Int) ≤ 9223372036854775807) := by show _ ≤ _; omega
  have EG : Hid (tk (mgL a b) 300 = mgL a b) := tk_all (by have := mgL_len a b; omega)
  obtain ⟨ng, hng⟩ : ∃ q, ((mgL a b).map ei).length = q := ⟨_, rfl⟩
  obtain ⟨ngt, hngt⟩ : ∃ q, ((tk (mgL a b) k).map ei).length = q := ⟨_, rfl⟩
  obtain ⟨nct, hnct⟩ : ∃ q, ((tk (a ++ b) k).map ei).length = q := ⟨_, rfl⟩
  have NG := Lib.hid hng
  have NGT := Lib.hid hngt
  have NCT := Lib.hid hnct
  have NC : Hid (((a ++ b).map ei).length = n1 + n2) := by show _ = _; rw [List.length_map, List.length_append, hl1, hl2]
  have NF : Hid (∀ g lb, NoneTo (.func (.func g) #[] lb) g lb) := NoneTo.func
  clear r r2 hl1 hl2 hng hngt hnct
  go_enter Try.func5, Try.ntmps5
  go_wp2_with fail
  refine (alive_c w).mono ?_
  rintro e w1 ⟨rfl, m1⟩
  have M1 := Lib.hid m1
  have A_1 := Lib.hid (A.out.mod m1 (by simp))
  have B_1 := Lib.hid (B.out.mod m1 (by simp))
  clear m1
  go_wp2_with fail
  refine (of_c A_1.out LA.out).mono ?_
  rintro e w2 ⟨lb2, rfl, ⟨R2, s2, f2⟩, m2⟩
  have M2 := Lib.hid (M1.out.trans m2 (by simp))
  have A_2 := Lib.hid (A_1.out.mod m2 (by simp))
  have B_2 := Lib.hid (B_1.out.mod m2 (by simp))
  have S := Lib.hid s2
  clear s2 m2 f2
  go_wp2_with fail
  refine (merge_c (NF.out _ _) S.out B_2.out LB.out).mono ?_
  rintro e w3 ⟨lb3, rfl, ⟨R3, s3, f3⟩, m3⟩
  have M3 := Lib.hid (M2.out.trans m3 (by simp))
  have A_3 := Lib.hid (A_2.out.mod m3 (by simp))
  have B_3 := Lib.hid (B_2.out.mod m3 (by simp))
  have S_3 := Lib.hid (S.out.mod m3 (by simp))
  have G := Lib.hid s3
  clear s3 m3 f3
  clear S_3
  go_wp2_with fail
  refine (of_c A_3.out LA.out).mono ?_
  rintro e w4 ⟨lb4, rfl, ⟨R4, s4, f4⟩, m4⟩
  have M4 := Lib.hid (M3.out.trans m4 (by simp))
  have A_4 := Lib.hid (A_3.out.mod m4 (by simp))
  have B_4 := Lib.hid (B_3.out.mod m4 (by simp))
  have G_4 := Lib.hid (G.out.mod m4 (by simp))
  have S := Lib.hid s4
  clear s4 m4 f4
  go_wp2_with fail
  refine (of_c B_4.out LB.out).mono ?_
  rintro e w5 ⟨lb5, rfl, ⟨R5, s5, f5⟩, m5⟩
  have M5 := Lib.hid (M4.out.trans m5 (by simp))
  have A_5 := Lib.hid (A_4.out.mod m5 (by simp))
  have B_5 := Lib.hid (B_4.out.mod m5 (by simp))
  have G_5 := Lib.hid (G_4.out.mod m5 (by simp))
  have S_5 := Lib.hid (S.out.mod m5 (by simp))
  have U := Lib.hid s5
  clear s5 m5 f5
  have MA : Mod [] w5 (w5.alloc (.cells #[.func (.func 27) #[] lb4, .nilFunc, .func (.func 27) #[] lb5] 26)) := (Mod.refl _ _).alloc _
  have T' := S_5.out.mod MA (by simp)
  have U' := U.out.mod MA (by simp)
  have hlt' : ∀ k ∈ R4 ++ R5, k < (w5.alloc (.cells #[.func (.func 27) #[] lb4, .nilFunc, .func (.func 27) #[] lb5] 26)).heap.size := by
    intro k hk
    rcases List.mem_append.1 hk with h | h
    · exact T'.1 k h
    · exact U'.1 k h
  have CC := Lib.hid (concat_c (w := (w5.alloc (.cells #[.func (.func 27) #[] lb4, .nilFunc, .func (.func 27) #[] lb5] 26))) (v := .slice (some ⟨w5.heap.size, 0, none⟩) 3 3) (S := [(.func (.func 27) #[] lb4, a), (.nilFunc, []), (.func (.func 27) #[] lb5, b)]) (R := R4 ++ R5) (by exact Rv.litF w5 26 [_, _, _] 3 rfl (by omega))
    (by intro u hu; simp at hu; rcases hu with rfl | rfl | rfl <;> rfl) (by simp) hlt' (by
      intro p hp
      simp only [List.mem_cons, List.not_mem_nil, or_false] at hp
      rcases hp with rfl | rfl | rfl
      · exact (Src.func T').wide (fun k hk => List.mem_append_left _ hk) hlt'
      · exact (Src.nil _).wide (by simp) hlt'
      · exact (Src.func U').wide (fun k hk => List.mem_append_right _ hk) hlt'))
  have ECAT : Hid (catL [((.func (.func 27) #[] lb4 : Value), a), (.nilFunc, []), (.func (.func 27) #[] lb5, b)] = a ++ b) := by
    show _ = _
    unfold catL; simp
  have hMA := Lib.hid MA
  clear MA T' U' hlt'
  go_wp2_with fail
  refine CC.out.mono ?_
  rintro e w6 ⟨lb6, rfl, ⟨R6, s6, f6⟩, m6⟩
  rw [ECAT.out] at s6
  have m6' := hMA.out.trans m6 (by simp)
  clear S_5
  clear U
  have M6 := Lib.hid (M5.out.trans m6' (by simp))
  have A_6 := Lib.hid (A_5.out.mod m6' (by simp))
  have B_6 := Lib.hid (B_5.out.mod m6' (by simp))
  have G_6 := Lib.hid (G_5.out.mod m6' (by simp))
  have C := Lib.hid s6
  clear s6 m6 f6 m6' CC
  go_wp2_with (at_builtin; first
    | (refine wpList_append_slz _ rfl _ _ 23 rfl 3 i0 (.int .i64 0) 1 8 Try.underlying23 hi hz0 hz1 hz2 rfl (by decide) _ 0 [] [w6.heap.size] rfl (Sl.lit w6 3 1 0 #[] (by unfold maxLen; omega) rfl) a0 n1 cap (a.map ei) rfl (by rw [NA.out]; omega) (A_6.out.mod (S := []) (by (repeat (first | exact Mod.refl _ _ | apply Mod.drew | apply Mod.drewN | apply Mod.alloc | refine Mod.setCell ?_ _ _ (by first | simp | (simp; omega))))) (by simp)).src OA.out (by unfold maxLen; omega) (by omega) ?_; intro v5 w5 F' hs5' hm5' hf5'; obtain ⟨F5, hs5, m5, hf5⟩ := NewV.of_empty hs5' NA.out hm5' hf5'; rw [NA.out] at hs5)
    | (refine wpList_append_slz _ rfl _ _ 23 rfl 3 i0 (.int .i64 0) 1 8 Try.underlying23 hi hz0 hz1 hz2 rfl (by decide) _ n1 _ F5 rfl hs5 _ _ _ (b.map ei) rfl (by rw [NB.out]; omega) (B_6.out.mod m5 (by simp)).src OB.out (by unfold maxLen; omega) (by omega) ?_; intro v7 w7 F' hs hm hf; have n7 := NewV.app m5 hf5 NA.out NB.out (Mod.refl _ _) hs hm hf; rw [← List.map_append] at n7; obtain ⟨A7, c7, rfl⟩ := n7.shape; obtain ⟨F7, r7, _⟩ := n7.rv; have m7 := n7.mod; clear n7 hs hm hf; rw [NC.out] at r7 ⊢))
  have M7 := Lib.hid (M6.out.trans m7 (by simp))
  have A_7 := Lib.hid (A_6.out.mod m7 (by simp))
  have B_7 := Lib.hid (B_6.out.mod m7 (by simp))
  have G_7 := Lib.hid (G_6.out.mod m7 (by simp))
  have C_7 := Lib.hid (C.out.mod m7 (by simp))
  have D := Lib.hid r7
  clear r7 m7
  refine (collect_c G_7.out _ HK.out LTG.out).mono ?_
  rintro e w8 ⟨v8, rfl, n8⟩
  obtain ⟨A8, c8, rfl⟩ := n8.shape
  obtain ⟨F8, r8, _⟩ := n8.rv
  have m8 := n8.mod
  clear n8
  rw [NGT.out] at r8 ⊢
  have M8 := Lib.hid (M7.out.trans m8 (by simp))
  have A_8 := Lib.hid (A_7.out.mod m8 (by simp))
  have B_8 := Lib.hid (B_7.out.mod m8 (by simp))
  have G_8 := Lib.hid (G_7.out.mod m8 (by simp))
  have C_8 := Lib.hid (C_7.out.mod m8 (by simp))
  have D_8 := Lib.hid (D.out.mod m8 (by simp))
  have V := Lib.hid r8
  clear r8 m8
  go_wp2_with fail
  refine (refMerge_c A_8.out B_8.out LA.out LB.out).mono ?_
  rintro e w9 ⟨v9, rfl, n9⟩
  obtain ⟨A9, c9, rfl⟩ := n9.shape
  obtain ⟨F9, r9, _⟩ := n9.rv
  have m9 := n9.mod
  clear n9
  rw [NG.out] at r9 ⊢
  have M9 := Lib.hid (M8.out.trans m9 (by simp))
  have A_9 := Lib.hid (A_8.out.mod m9 (by simp))
  have B_9 := Lib.hid (B_8.out.mod m9 (by simp))
  have G_9 := Lib.hid (G_8.out.mod m9 (by simp))
  have C_9 := Lib.hid (C_8.out.mod m9 (by simp))
  have D_9 := Lib.hid (D_8.out.mod m9 (by simp))
  have V_9 := Lib.hid (V.out.mod m9 (by simp))
  have P := Lib.hid r9
  clear r9 m9
  go_wp2_with fail
  refine (refTake_c P.out LG.out k).mono ?_
  rintro e w10 ⟨v10, rfl, n10⟩
  obtain ⟨A10, c10, rfl⟩ := n10.shape
  obtain ⟨F10, r10, _⟩ := n10.rv
  have m10 := n10.mod
  clear n10
  rw [NGT.out] at r10 ⊢
  have M10 := Lib.hid (M9.out.trans m10 (by simp))
  have A_10 := Lib.hid (A_9.out.mod m10 (by simp))
  have B_10 := Lib.hid (B_9.out.mod m10 (by simp))
  have G_10 := Lib.hid (G_9.out.mod m10 (by simp))
  have C_10 := Lib.hid (C_9.out.mod m10 (by simp))
  have D_10 := Lib.hid (D_9.out.mod m10 (by simp))
  have V_10 := Lib.hid (V_9.out.mod m10 (by simp))
  have P_10 := Lib.hid (P.out.mod m10 (by simp))
  have Q := Lib.hid r10
  clear r10 m10
  go_wp2_with fail
  refine (same_yes V_10.out Q.out LTG.out).mono ?_
  rintro e w11 ⟨rfl, m11⟩
  have M11 := Lib.hid (M10.out.trans m11 (by simp))
  have A_11 := Lib.hid (A_10.out.mod m11 (by simp))
  have B_11 := Lib.hid (B_10.out.mod m11 (by simp))
  have G_11 := Lib.hid (G_10.out.mod m11 (by simp))
  have C_11 := Lib.hid (C_10.out.mod m11 (by simp))
  have D_11 := Lib.hid (D_10.out.mod m11 (by simp))
  have V_11 := Lib.hid (V_10.out.mod m11 (by simp))
  have P_11 := Lib.hid (P_10.out.mod m11 (by simp))
  have Q_11 := Lib.hid (Q.out.mod m11 (by simp))
  clear m11
  clear V_11
  clear Q_11
  clear P_11
  go_wp2_with fail
  refine (collect_c C_11.out _ HK.out LTC.out).mono ?_
  rintro e w12 ⟨v12, rfl, n12⟩
  obtain ⟨A12, c12, rfl⟩ := n12.shape
  obtain ⟨F12, r12, _⟩ := n12.rv
  have m12 := n12.mod
  clear n12
  rw [NCT.out] at r12 ⊢
  have M12 := Lib.hid (M11.out.trans m12 (by simp))
  have A_12 := Lib.hid (A_11.out.mod m12 (by simp))
  have B_12 := Lib.hid (B_11.out.mod m12 (by simp))
  have G_12 := Lib.hid (G_11.out.mod m12 (by simp))
  have C_12 := Lib.hid (C_11.out.mod m12 (by simp))
  have D_12 := Lib.hid (D_11.out.mod m12 (by simp))
  have V := Lib.hid r12
  clear r12 m12
  go_wp2_with fail
  refine (refTake_c D_12.out LC.out k).mono ?_
  rintro e w13 ⟨v13, rfl, n13⟩
  obtain ⟨A13, c13, rfl⟩ := n13.shape
  obtain ⟨F13, r13, _⟩ := n13.rv
  have m13 := n13.mod
  clear n13
  rw [NCT.out] at r13 ⊢
  have M13 := Lib.hid (M12.out.trans m13 (by simp))
  have A_13 := Lib.hid (A_12.out.mod m13 (by simp))
  have B_13 := Lib.hid (B_12.out.mod m13 (by simp))
  have G_13 := Lib.hid (G_12.out.mod m13 (by simp))
  have C_13 := Lib.hid (C_12.out.mod m13 (by simp))
  have D_13 := Lib.hid (D_12.out.mod m13 (by simp))
  have V_13 := Lib.hid (V.out.mod m13 (by simp))
  have Q := Lib.hid r13
  clear r13 m13
  go_wp2_with fail
  refine (same_yes V_13.out Q.out LTC.out).mono ?_
  rintro e w14 ⟨rfl, m14⟩
  have M14 := Lib.hid (M13.out.trans m14 (by simp))
  have A_14 := Lib.hid (A_13.out.mod m14 (by simp))
  have B_14 := Lib.hid (B_13.out.mod m14 (by simp))
  have G_14 := Lib.hid (G_13.out.mod m14 (by simp))
  have C_14 := Lib.hid (C_13.out.mod m14 (by simp))
  have D_14 := Lib.hid (D_13.out.mod m14 (by simp))
  have V_14 := Lib.hid (V_13.out.mod m14 (by simp))
  have Q_14 := Lib.hid (Q.out.mod m14 (by simp))
  clear m14
  clear V_14
  clear Q_14
  go_wp2_with fail
  refine (collect_c G_14.out _ H3.out (by rw [EG.out]; exact LG.out)).mono ?_
  rintro e w15 ⟨v15, rfl, n15⟩
  rw [EG.out] at n15
  obtain ⟨A15, c15, rfl⟩ := n15.shape
  obtain ⟨F15, r15, _⟩ := n15.rv
  have m15 := n15.mod
  clear n15
  rw [NG.out] at r15 ⊢
  have M15 := Lib.hid (M14.out.trans m15 (by simp))
  have A_15 := Lib.hid (A_14.out.mod m15 (by simp))
  have B_15 := Lib.hid (B_14.out.mod m15 (by simp))
  have G_15 := Lib.hid (G_14.out.mod m15 (by simp))
  have C_15 := Lib.hid (C_14.out.mod m15 (by simp))
  have D_15 := Lib.hid (D_14.out.mod m15 (by simp))
  have V := Lib.hid r15
  clear r15 m15
  go_wp2_with fail
  refine (refMerge_c A_15.out B_15.out LA.out LB.out).mono ?_
  rintro e w16 ⟨v16, rfl, n16⟩
  obtain ⟨A16, c16, rfl⟩ := n16.shape
  obtain ⟨F16, r16, _⟩ := n16.rv
  have m16 := n16.mod
  clear n16
  rw [NG.out] at r16 ⊢
  have M16 := Lib.hid (M15.out.trans m16 (by simp))
  have A_16 := Lib.hid (A_15.out.mod m16 (by simp))
  have B_16 := Lib.hid (B_15.out.mod m16 (by simp))
  have G_16 := Lib.hid (G_15.out.mod m16 (by simp))
  have C_16 := Lib.hid (C_15.out.mod m16 (by simp))
  have D_16 := Lib.hid (D_15.out.mod m16 (by simp))
  have V_16 := Lib.hid (V.out.mod m16 (by simp))
  have P := Lib.hid r16
  clear r16 m16
  go_wp2_with fail
  refine (same_yes V_16.out P.out LG.out).mono ?_
  rintro e w17 ⟨rfl, m17⟩
  have M17 := Lib.hid (M16.out.trans m17 (by simp))
  have A_17 := Lib.hid (A_16.out.mod m17 (by simp))
  have B_17 := Lib.hid (B_16.out.mod m17 (by simp))
  have G_17 := Lib.hid (G_16.out.mod m17 (by simp))
  have C_17 := Lib.hid (C_16.out.mod m17 (by simp))
  have D_17 := Lib.hid (D_16.out.mod m17 (by simp))
  have V_17 := Lib.hid (V_16.out.mod m17 (by simp))
  have P_17 := Lib.hid (P.out.mod m17 (by simp))
  clear m17
  go_wp2
  go_ret
  exact ⟨rfl, M17.out⟩

set_option maxRecDepth 100000 in
theorem seqMerges_walk (w : World) (a0 : Option Addr) (len cap : Nat) (z : Nat → Int) (hw : IntRow .i64 w a0 len cap z) (b0 : Option Addr) (len2 cap2 : Nat) (z2 : Nat → Int) (hw2 : IntRow .i64 w b0 len2 cap2 z2) (m : Int) (wm : (Lit.int .u8 m).wf = true) :
    Calls Try.prog 5 #[.slice a0 len cap, .slice b0 len2 cap2, .int .u8 m] w fun e w' => e = .returned (.bool true) ∧ Mod [] w w' := by
  obtain ⟨a, F, r, hl, _, _⟩ := Rv.of_row hw
  obtain ⟨b, F2, r2, hl2, _, _⟩ := Rv.of_row hw2
  obtain ⟨hm0, hm1⟩ := bounds_u8 wm
  obtain ⟨k, rfl⟩ : ∃ k : Nat, m = k := ⟨m.toNat, by omega⟩
  by_cases h : len ≤ 100
  · by_cases h2 : len2 ≤ 100
    · exact seqMerges_main w a0 len cap a F r hl h b0 len2 cap2 b F2 r2 hl2 h2 k (by omega)
    · have hgt : ¬ (100 : Int) < len := by omega
      have hgt2 : (100 : Int) < len2 := by omega
      clear hw r hl hw2 r2 hl2 wm
      go_enter Try.func5, Try.ntmps5
      go_wp2_with fail
      refine (alive_c w).mono ?_
      rintro e w1 ⟨rfl, m1⟩
      have M1 := Lib.hid m1
      clear m1
      go_wp2
      go_ret
      exact ⟨rfl, M1.out⟩
  · have hgt : (100 : Int) < len := by omega
    clear hw r hl hw2 r2 hl2 wm
    go_enter Try.func5, Try.ntmps5
    go_wp2_with fail
    refine (alive_c w).mono ?_
    rintro e w1 ⟨rfl, m1⟩
    have M1 := Lib.hid m1
    clear m1
    go_wp2
    go_ret
    exact ⟨rfl, M1.out⟩
end Go.Proofs.Ytchbgnfmmplinaa

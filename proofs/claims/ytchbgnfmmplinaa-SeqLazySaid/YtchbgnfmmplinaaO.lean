/- The law SeqParts: the walk. -/
import Derived.Test.YtchbgnfmmplinaaI
import Derived.Test.YtchbgnfmmplinaaN
set_option linter.unusedVariables false
set_option linter.unusedSimpArgs false
namespace Go.Proofs.Ytchbgnfmmplinaa
open Go.RowKit

/-- Of an argument. -/
theorem Rv.of_row {w : World} {a : Option Addr} {len cap : Nat} {z : Nat → Int} (h : IntRow .i64 w a len cap z) : ∃ (l : List Int) (F : List Nat), Rv w (.slice a len cap) (l.map ei) F ∧ l.length = len ∧ (∀ k ∈ F, k < w.heap.size) ∧ ∀ x ∈ l, I64 x := by
  have hl : (((List.range len).map z).map ei).length = len := by simp
  have hI : ∀ x ∈ (List.range len).map z, I64 x := by
    intro x hx
    obtain ⟨i, hi, rfl⟩ := List.mem_map.1 hx
    obtain ⟨b, off, _, _, _, hwf⟩ := h.2 i (by simpa using hi)
    exact bounds_i64 hwf
  rcases Nat.eq_zero_or_pos len with h0 | h0
  · subst h0
    exact ⟨[], [], ⟨a, cap, rfl, by simp, fun h => absurd h (by simp)⟩, rfl, by simp, by simp⟩
  · obtain ⟨b, off, ha, hb, _⟩ := h.2 0 h0
    refine ⟨(List.range len).map z, [b], ⟨a, cap, by rw [hl], by rw [hl]; exact h.1, fun _ => ⟨b, off, ha, by simp, fun i c hi => ?_⟩⟩, by simp, by simpa using hb, hI⟩
    have hil : i < len := by have := (List.getElem?_eq_some_iff.1 hi).1; rwa [hl] at this
    obtain ⟨b', off', ha', _, hc, hwf⟩ := h.2 i hil
    rw [ha] at ha'
    simp only [Option.some.injEq, Addr.mk.injEq, and_true] at ha'
    obtain ⟨rfl, rfl⟩ := ha'
    simp only [List.getElem?_map, List.getElem?_range hil, Option.map_some, Option.some.injEq] at hi
    rw [hc, ← hi]; rfl

theorem tk_all {L : List Int} {n : Int} (h : (L.length : Int) ≤ n) : tk L n = L := by
  unfold tk; rw [List.take_of_length_le (by omega)]
theorem tk_len (L : List Int) (n : Int) : (tk L n).length ≤ L.length := by unfold tk; rw [List.length_take]; omega
theorem sk_len (L : List Int) (n : Int) : (sk L n).length ≤ L.length := by unfold sk; rw [List.length_drop]; omega
theorem evL_len (L : List Int) (n : Int) : (evL L n).length ≤ L.length := by
  unfold evL; split
  · simp
  · exact ev_length

set_option maxRecDepth 100000 in
set_option maxHeartbeats 8000000 in
theorem seqParts_main (w : World) (a0 : Option Addr) (len cap : Nat) (l : List Int) (F : List Nat) (r : Rv w (.slice a0 len cap) (l.map ei) F) (hl : l.length = len) (h100 : len ≤ 100) (n m : Int) (hn : I64 n) (hm : I64 m) :
    Calls Try.prog 4 #[.slice a0 len cap, .int .i64 n, .int .i64 m] w fun e w' => e = .returned (.bool true) ∧ Mod [] w w' := by
  have A := Lib.hid r
  have hgt : ¬ ((100 : Int) < len) := by omega
  have LE : Hid (l.length ≤ 100000) := by show _ ≤ _; omega
  have LT : Hid ((tk l n).length ≤ 100000) := Nat.le_trans (tk_len l n) LE.out
  have LS : Hid ((sk l n).length ≤ 100000) := Nat.le_trans (sk_len l n) LE.out
  have LV : Hid ((evL l n).length ≤ 100000) := Nat.le_trans (evL_len l n) LE.out
  have LM : Hid ((tk l m).length ≤ 100000) := Nat.le_trans (tk_len l m) LE.out
  have ET : Hid (tk (tk l n) 200 = tk l n) := tk_all (by have := tk_len l n; omega)
  have ES : Hid (tk (sk l n) 200 = sk l n) := tk_all (by have := sk_len l n; omega)
  have EV : Hid (tk (evL l n) 200 = evL l n) := tk_all (by have := evL_len l n; omega)
  have HN := Lib.hid hn
  have HM := Lib.hid hm
  have H2 : Hid ((200 : Int) ≤ 9223372036854775807) := by show _ ≤ _; omega
  obtain ⟨nt, hnt⟩ : ∃ k, ((tk l n).map ei).length = k := ⟨_, rfl⟩
  obtain ⟨ns, hns⟩ : ∃ k, ((sk l n).map ei).length = k := ⟨_, rfl⟩
  obtain ⟨nv, hnv⟩ : ∃ k, ((evL l n).map ei).length = k := ⟨_, rfl⟩
  obtain ⟨nm, hnm⟩ : ∃ k, ((tk l m).map ei).length = k := ⟨_, rfl⟩
  have NT := Lib.hid hnt
  have NS := Lib.hid hns
  have NV := Lib.hid hnv
  have NM := Lib.hid hnm
  have NM' : Hid ((tk l m).length = nm) := by show _ = _; rw [← hnm, List.length_map]
  have hbe : ((nm : Int) == (nm : Int)) = true := by simp
  clear r hn hm hl h100 hnt hns hnv hnm
  go_enter Try.func4, Try.ntmps4
  go_wp2_with fail
  refine (alive_c w).mono ?_
  rintro e w1 ⟨rfl, m1⟩
  have M1 := Lib.hid m1
  have A_1 := Lib.hid (A.out.mod m1 (by simp))
  clear m1
  go_wp2_with fail
  refine (of_c A_1.out LE.out).mono ?_
  rintro e w2 ⟨lb2, rfl, ⟨R2, s2, f2⟩, m2⟩
  have M2 := Lib.hid (M1.out.trans m2 (by simp))
  have A_2 := Lib.hid (A_1.out.mod m2 (by simp))
  have S := Lib.hid s2
  clear s2 m2 f2
  go_wp2_with fail
  refine (take_c S.out n HN.out.2).mono ?_
  rintro e w3 ⟨lb3, rfl, ⟨R3, s3, f3⟩, m3⟩
  have M3 := Lib.hid (M2.out.trans m3 (by simp))
  have A_3 := Lib.hid (A_2.out.mod m3 (by simp))
  have S_3 := Lib.hid (S.out.mod m3 (by simp))
  have T := Lib.hid s3
  clear s3 m3 f3
  go_wp2_with fail
  refine (collect_c T.out _ H2.out (by rw [ET.out]; exact LT.out)).mono ?_
  rintro e w4 ⟨v4, rfl, n4⟩
  rw [ET.out] at n4
  obtain ⟨A4, c4, rfl⟩ := n4.shape
  obtain ⟨F4, r4, _⟩ := n4.rv
  have m4 := n4.mod
  clear n4
  rw [NT.out] at r4 ⊢
  have M4 := Lib.hid (M3.out.trans m4 (by simp))
  have A_4 := Lib.hid (A_3.out.mod m4 (by simp))
  have S_4 := Lib.hid (S_3.out.mod m4 (by simp))
  have T_4 := Lib.hid (T.out.mod m4 (by simp))
  have VT := Lib.hid r4
  clear r4 m4
  clear T_4
  go_wp2_with fail
  refine (skip_c S_4.out n HN.out).mono ?_
  rintro e w5 ⟨lb5, rfl, ⟨R5, s5, f5⟩, m5⟩
  have M5 := Lib.hid (M4.out.trans m5 (by simp))
  have A_5 := Lib.hid (A_4.out.mod m5 (by simp))
  have S_5 := Lib.hid (S_4.out.mod m5 (by simp))
  have VT_5 := Lib.hid (VT.out.mod m5 (by simp))
  have T := Lib.hid s5
  clear s5 m5 f5
  go_wp2_with fail
  refine (collect_c T.out _ H2.out (by rw [ES.out]; exact LS.out)).mono ?_
  rintro e w6 ⟨v6, rfl, n6⟩
  rw [ES.out] at n6
  obtain ⟨A6, c6, rfl⟩ := n6.shape
  obtain ⟨F6, r6, _⟩ := n6.rv
  have m6 := n6.mod
  clear n6
  rw [NS.out] at r6 ⊢
  have M6 := Lib.hid (M5.out.trans m6 (by simp))
  have A_6 := Lib.hid (A_5.out.mod m6 (by simp))
  have S_6 := Lib.hid (S_5.out.mod m6 (by simp))
  have VT_6 := Lib.hid (VT_5.out.mod m6 (by simp))
  have T_6 := Lib.hid (T.out.mod m6 (by simp))
  have VS := Lib.hid r6
  clear r6 m6
  clear T_6
  go_wp2_with fail
  refine (every_c S_6.out n HN.out).mono ?_
  rintro e w7 ⟨lb7, rfl, ⟨R7, s7, f7⟩, m7⟩
  have M7 := Lib.hid (M6.out.trans m7 (by simp))
  have A_7 := Lib.hid (A_6.out.mod m7 (by simp))
  have S_7 := Lib.hid (S_6.out.mod m7 (by simp))
  have VT_7 := Lib.hid (VT_6.out.mod m7 (by simp))
  have VS_7 := Lib.hid (VS.out.mod m7 (by simp))
  have T := Lib.hid s7
  clear s7 m7 f7
  go_wp2_with fail
  refine (collect_c T.out _ H2.out (by rw [EV.out]; exact LV.out)).mono ?_
  rintro e w8 ⟨v8, rfl, n8⟩
  rw [EV.out] at n8
  obtain ⟨A8, c8, rfl⟩ := n8.shape
  obtain ⟨F8, r8, _⟩ := n8.rv
  have m8 := n8.mod
  clear n8
  rw [NV.out] at r8 ⊢
  have M8 := Lib.hid (M7.out.trans m8 (by simp))
  have A_8 := Lib.hid (A_7.out.mod m8 (by simp))
  have S_8 := Lib.hid (S_7.out.mod m8 (by simp))
  have VT_8 := Lib.hid (VT_7.out.mod m8 (by simp))
  have VS_8 := Lib.hid (VS_7.out.mod m8 (by simp))
  have T_8 := Lib.hid (T.out.mod m8 (by simp))
  have VV := Lib.hid r8
  clear r8 m8
  clear T_8
  go_wp2_with fail
  refine (refTake_c A_8.out LE.out n).mono ?_
  rintro e w9 ⟨v9, rfl, n9⟩
  obtain ⟨A9, c9, rfl⟩ := n9.shape
  obtain ⟨F9, r9, _⟩ := n9.rv
  have m9 := n9.mod
  clear n9
  rw [NT.out] at r9 ⊢
  have M9 := Lib.hid (M8.out.trans m9 (by simp))
  have A_9 := Lib.hid (A_8.out.mod m9 (by simp))
  have S_9 := Lib.hid (S_8.out.mod m9 (by simp))
  have VT_9 := Lib.hid (VT_8.out.mod m9 (by simp))
  have VS_9 := Lib.hid (VS_8.out.mod m9 (by simp))
  have VV_9 := Lib.hid (VV.out.mod m9 (by simp))
  have Q := Lib.hid r9
  clear r9 m9
  go_wp2_with fail
  refine (same_yes VT_9.out Q.out LT.out).mono ?_
  rintro e w10 ⟨rfl, m10⟩
  have M10 := Lib.hid (M9.out.trans m10 (by simp))
  have A_10 := Lib.hid (A_9.out.mod m10 (by simp))
  have S_10 := Lib.hid (S_9.out.mod m10 (by simp))
  have VT_10 := Lib.hid (VT_9.out.mod m10 (by simp))
  have VS_10 := Lib.hid (VS_9.out.mod m10 (by simp))
  have VV_10 := Lib.hid (VV_9.out.mod m10 (by simp))
  have Q_10 := Lib.hid (Q.out.mod m10 (by simp))
  clear m10
  clear Q_10
  clear VT_10
  go_wp2_with fail
  refine (refSkip_c A_10.out LE.out n).mono ?_
  rintro e w11 ⟨v11, rfl, n11⟩
  obtain ⟨A11, c11, rfl⟩ := n11.shape
  obtain ⟨F11, r11, _⟩ := n11.rv
  have m11 := n11.mod
  clear n11
  rw [NS.out] at r11 ⊢
  have M11 := Lib.hid (M10.out.trans m11 (by simp))
  have A_11 := Lib.hid (A_10.out.mod m11 (by simp))
  have S_11 := Lib.hid (S_10.out.mod m11 (by simp))
  have VS_11 := Lib.hid (VS_10.out.mod m11 (by simp))
  have VV_11 := Lib.hid (VV_10.out.mod m11 (by simp))
  have Q := Lib.hid r11
  clear r11 m11
  go_wp2_with fail
  refine (same_yes VS_11.out Q.out LS.out).mono ?_
  rintro e w12 ⟨rfl, m12⟩
  have M12 := Lib.hid (M11.out.trans m12 (by simp))
  have A_12 := Lib.hid (A_11.out.mod m12 (by simp))
  have S_12 := Lib.hid (S_11.out.mod m12 (by simp))
  have VS_12 := Lib.hid (VS_11.out.mod m12 (by simp))
  have VV_12 := Lib.hid (VV_11.out.mod m12 (by simp))
  have Q_12 := Lib.hid (Q.out.mod m12 (by simp))
  clear m12
  clear Q_12
  clear VS_12
  go_wp2_with fail
  refine (refEvery_c A_12.out LE.out n).mono ?_
  rintro e w13 ⟨v13, rfl, n13⟩
  obtain ⟨A13, c13, rfl⟩ := n13.shape
  obtain ⟨F13, r13, _⟩ := n13.rv
  have m13 := n13.mod
  clear n13
  rw [NV.out] at r13 ⊢
  have M13 := Lib.hid (M12.out.trans m13 (by simp))
  have A_13 := Lib.hid (A_12.out.mod m13 (by simp))
  have S_13 := Lib.hid (S_12.out.mod m13 (by simp))
  have VV_13 := Lib.hid (VV_12.out.mod m13 (by simp))
  have Q := Lib.hid r13
  clear r13 m13
  go_wp2_with fail
  refine (same_yes VV_13.out Q.out LV.out).mono ?_
  rintro e w14 ⟨rfl, m14⟩
  have M14 := Lib.hid (M13.out.trans m14 (by simp))
  have A_14 := Lib.hid (A_13.out.mod m14 (by simp))
  have S_14 := Lib.hid (S_13.out.mod m14 (by simp))
  have VV_14 := Lib.hid (VV_13.out.mod m14 (by simp))
  have Q_14 := Lib.hid (Q.out.mod m14 (by simp))
  clear m14
  clear Q_14
  clear VV_14
  go_wp2_with fail
  refine (collect_c S_14.out m HM.out.2 LM.out).mono ?_
  rintro e w15 ⟨v15, rfl, n15⟩
  obtain ⟨A15, c15, rfl⟩ := n15.shape
  obtain ⟨F15, r15, _⟩ := n15.rv
  have m15 := n15.mod
  clear n15
  rw [NM.out] at r15 ⊢
  have M15 := Lib.hid (M14.out.trans m15 (by simp))
  have A_15 := Lib.hid (A_14.out.mod m15 (by simp))
  have S_15 := Lib.hid (S_14.out.mod m15 (by simp))
  have VM := Lib.hid r15
  clear r15 m15
  go_wp2_with fail
  refine (refTake_c A_15.out LE.out m).mono ?_
  rintro e w16 ⟨v16, rfl, n16⟩
  obtain ⟨A16, c16, rfl⟩ := n16.shape
  obtain ⟨F16, r16, _⟩ := n16.rv
  have m16 := n16.mod
  clear n16
  rw [NM.out] at r16 ⊢
  have M16 := Lib.hid (M15.out.trans m16 (by simp))
  have A_16 := Lib.hid (A_15.out.mod m16 (by simp))
  have S_16 := Lib.hid (S_15.out.mod m16 (by simp))
  have VM_16 := Lib.hid (VM.out.mod m16 (by simp))
  have Q := Lib.hid r16
  clear r16 m16
  go_wp2_with fail
  refine (same_yes VM_16.out Q.out LM.out).mono ?_
  rintro e w17 ⟨rfl, m17⟩
  have M17 := Lib.hid (M16.out.trans m17 (by simp))
  have A_17 := Lib.hid (A_16.out.mod m17 (by simp))
  have S_17 := Lib.hid (S_16.out.mod m17 (by simp))
  have VM_17 := Lib.hid (VM_16.out.mod m17 (by simp))
  have Q_17 := Lib.hid (Q.out.mod m17 (by simp))
  clear m17
  clear Q_17
  clear VM_17
  go_wp2_with fail
  refine (len_c S_17.out m HM.out.2 LM.out).mono ?_
  rintro e w18 ⟨rfl, m18⟩
  rw [NM'.out]
  have M18 := Lib.hid (M17.out.trans m18 (by simp))
  have A_18 := Lib.hid (A_17.out.mod m18 (by simp))
  have S_18 := Lib.hid (S_17.out.mod m18 (by simp))
  clear m18
  go_wp2_with fail
  refine (refTake_c A_18.out LE.out m).mono ?_
  rintro e w19 ⟨v19, rfl, n19⟩
  obtain ⟨A19, c19, rfl⟩ := n19.shape
  obtain ⟨F19, r19, _⟩ := n19.rv
  have m19 := n19.mod
  clear n19
  rw [NM.out] at r19 ⊢
  have M19 := Lib.hid (M18.out.trans m19 (by simp))
  have A_19 := Lib.hid (A_18.out.mod m19 (by simp))
  have S_19 := Lib.hid (S_18.out.mod m19 (by simp))
  have Q := Lib.hid r19
  clear r19 m19
  go_wp2
  go_ret
  exact ⟨rfl, M19.out⟩

set_option maxRecDepth 100000 in
theorem seqParts_walk (w : World) (a0 : Option Addr) (len cap : Nat) (z : Nat → Int) (hw : IntRow .i64 w a0 len cap z) (n : Int) (wn : (Lit.int .i64 n).wf = true) (m : Int) (wm : (Lit.int .i64 m).wf = true) :
    Calls Try.prog 4 #[.slice a0 len cap, .int .i64 n, .int .i64 m] w fun e w' => e = .returned (.bool true) ∧ Mod [] w w' := by
  obtain ⟨l, F, r, hl, _, _⟩ := Rv.of_row hw
  have hn : I64 n := bounds_i64 wn
  have hm : I64 m := bounds_i64 wm
  by_cases h : len ≤ 100
  · exact seqParts_main w a0 len cap l F r hl h n m hn hm
  · have hgt : (100 : Int) < len := by omega
    clear hw r hl wn wm hn hm
    go_enter Try.func4, Try.ntmps4
    go_wp2_with fail
    refine (alive_c w).mono ?_
    rintro e w1 ⟨rfl, m1⟩
    have M1 := Lib.hid m1
    clear m1
    go_wp2
    go_ret
    exact ⟨rfl, M1.out⟩
end Go.Proofs.Ytchbgnfmmplinaa

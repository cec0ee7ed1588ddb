/- Parse. -/
import Derived.Test.YtkldjllnnbablaaDoorSF
import Derived.Lib.ConvBytes
set_option linter.unusedVariables false
set_option linter.unusedSimpArgs false
namespace Go.Proofs.YtkldjllnnbablaaDoor
open Go.RowKit Go.Shelf

theorem dg_append (a b : List UInt8) : dg (a ++ b) = dg a ++ dg b := by simp [dg]
theorem rdv_append (a b : List UInt8) : rdv (a ++ b) = rdv a * 10 ^ b.length + rdv b := by
  unfold rdv
  rw [dg_append, List.reverse_append, vl_append, List.length_reverse, dg_len, Nat.mul_comm, Nat.add_comm]
theorem rdv_snoc (a : List UInt8) (c : UInt8) : rdv (a ++ [c]) = rdv a * 10 + (c.toNat - 48) := by
  rw [rdv_append]; simp [rdv, dg, vl]
theorem rdv_take_le (l : List UInt8) (k : Nat) : rdv (l.take k) ≤ rdv l := by
  conv => rhs; rw [← List.take_append_drop k l, rdv_append]
  have h : rdv (l.take k) * 1 ≤ rdv (l.take k) * 10 ^ (l.drop k).length := Nat.mul_le_mul_left _ (Nat.pow_pos (by omega))
  omega
theorem rdv_take_succ {l : List UInt8} {k : Nat} (h : k < l.length) : rdv (l.take (k + 1)) = rdv (l.take k) * 10 + (l[k].toNat - 48) := by
  rw [List.take_succ_eq_append_getElem h, rdv_snoc]

theorem writ_nought {l : List UInt8} (h1 : l ≠ [48]) (h2 : l.head? = some 48) : writ l = false := by
  unfold writ
  rw [decide_eq_false h1, decide_eq_false (not_not_intro h2)]
  simp
theorem writ_lone : writ [48] = true ∧ rdv [48] = 0 := ⟨by decide, by decide⟩
theorem writ_nil {l : List UInt8} (h : l.length = 0) : writ l = false := by
  rw [List.length_eq_zero_iff.1 h]; decide
theorem writ_yes {l : List UInt8} (h0 : ∀ c ∈ l, isDig c = true) (h1 : 0 < l.length) (h2 : l.head? ≠ some 48) : writ l = true := by
  rw [writ_all h0, decide_eq_true h1, decide_eq_true h2]
  simp
theorem list_eq_iff (s : ByteArray) (b : List UInt8) : (s.toList == b) = decide (s.data.toList = b) := by
  rw [ByteArray.toList_eq]
  by_cases q : s.data.toList = b
  · rw [decide_eq_true q, beq_iff_eq]; exact q
  · rw [decide_eq_false q, beq_eq_false_iff_ne]; exact q
theorem head_at (s : ByteArray) (h : 0 < s.size) : s.data.toList.head? = some s[0] := by
  rw [List.head?_eq_getElem?, List.getElem?_eq_getElem (by simpa using h)]; rfl

/-- Its bytes, copied. -/
theorem conv_str (s : ByteArray) (w : World) (g : Nat) (hg : g = w.heap.size) : ∃ (c : Nat) (w' : World), (convert 9 68 (.string s)).run Tryd.prog w = .ok (.slice (some ⟨g, 0, none⟩) s.size c) w' ∧ Mod [] w w' ∧ s.size ≤ c ∧
    (∀ k, (h : k < s.size) → w'.cell? ⟨g, k, none⟩ = some (.int .u8 s[k].toNat)) ∧ g < w'.heap.size := by
  subst hg
  refine ⟨_, _, Lib.run_convert_string_bytes w 9 68 5 s Tryd.underlying9 Tryd.underlying68 Tryd.underlying5, ?_, ?_, fun k h => ?_, ?_⟩
  · refine ⟨?_, ?_, ?_, by rw [Lib.bytesWorld_size]; omega, fun k hk _ => Lib.bytesWorld_at_old w 5 s k hk⟩
    all_goals simp [Lib.bytesWorld, World.freeze, World.alloc, World.drew, -World.alloc_eq, -World.drew_eq]
  · exact grownCap_ge w s.size 0 5
  · rw [Lib.bytesWorld_cell w 5 s k h, List.getD_eq_getElem?_getD, List.getElem?_eq_getElem (by simpa using h)]
    rfl
  · rw [Lib.bytesWorld_size]; omega

set_option maxRecDepth 100000 in
set_option maxHeartbeats 4000000 in
/-- Parse. -/
theorem parse_c (s : ByteArray) (hs : s.size ≤ 100000) (w : World) :
    Calls Tryd.prog 32 #[.string s] w fun e w' => Told w (writ s.data.toList && decide (s.size ≤ 1234) && decide (rdv s.data.toList < lim)) (rdv s.data.toList) e w' := by
  obtain ⟨n, hn⟩ : ∃ n, s.size = n := ⟨_, rfl⟩
  have HLEN : Hid (s.data.toList.length = n) := by show _ = _; rw [← hn]; rfl
  have HNR := Lib.hid hn
  obtain ⟨R, hR⟩ : ∃ R, (writ s.data.toList && decide (s.size ≤ 1234) && decide (rdv s.data.toList < lim)) = R := ⟨_, rfl⟩
  rw [hR]
  have HR := Lib.hid hR
  clear hR
  obtain ⟨b1, hb1⟩ : ∃ b, (s.toList == [48]) = b := ⟨_, rfl⟩
  have HB := Lib.hid ((list_eq_iff s [48]).symm.trans hb1)
  cases b1 with
  | true =>
    have HL := Lib.hid (of_decide_eq_true HB.out)
    go_enter Tryd.func32, Tryd.ntmps32
    go_wp2
    go_ret2
    have h1 : n = 1 := by rw [← HLEN.out, HL.out]; rfl
    have hr := HR.out
    rw [HL.out, writ_lone.1, writ_lone.2, HNR.out, h1] at hr
    rw [HL.out, writ_lone.2]
    refine .inl ⟨hr.symm.trans ?_, _, rfl, NNew.nil (Mod.refl _ _)⟩
    rw [decide_eq_true (show 0 < lim from Nat.pow_pos (by unfold B64; omega))]; decide
  | false =>
    have HL := Lib.hid (of_decide_eq_false HB.out)
    by_cases h0 : 0 < n
    · have hemp : s.toList.isEmpty = false := by
        rw [ByteArray.toList_eq, List.isEmpty_eq_false_iff, Ne, ← List.length_eq_zero_iff, HLEN.out]; omega
      have hne : ¬ s.toList = [] := by rw [← List.isEmpty_iff, hemp]; decide
      have hs0 : 0 < s.size := by omega
      have HH := Lib.hid (head_at s hs0)
      obtain ⟨x, hx⟩ : ∃ x, s[0].toNat = x := ⟨_, rfl⟩
      by_cases q : (x : Int) = 48
      · have NO : Hid ((writ s.data.toList && decide (s.size ≤ 1234) && decide (rdv s.data.toList < lim)) = false) := by
          show _ = _
          rw [writ_nought HL.out (by rw [HH.out]; congr 1; apply UInt8.toNat_inj.1; rw [hx]; show x = 48; omega), Bool.false_and, Bool.false_and]
        have hbq : ((x : Int) == 48) = true := by rw [q]; rfl
        go_enter Tryd.func32, Tryd.ntmps32
        go_wp2
        go_ret2
        exact .inr ⟨HR.out.symm.trans NO.out, rfl, Mod.refl _ _⟩
      · have hbq : ((x : Int) == 48) = false := by rw [beq_eq_false_iff_ne]; exact q
        have H48 : Hid (s.data.toList.head? ≠ some 48) := by
          show _ ≠ _
          rw [HH.out]
          intro he
          rw [Option.some.injEq] at he
          rw [he] at hx
          apply q
          rw [← hx]; rfl
        by_cases h4 : (1234 : Int) < n
        · have NO : Hid ((writ s.data.toList && decide (s.size ≤ 1234) && decide (rdv s.data.toList < lim)) = false) := by
            show _ = _
            rw [HNR.out, decide_eq_false (by omega), Bool.and_false, Bool.false_and]
          go_enter Tryd.func32, Tryd.ntmps32
          go_wp2
          go_ret2
          exact .inr ⟨HR.out.symm.trans NO.out, rfl, Mod.refl _ _⟩
        · obtain ⟨g, hg⟩ : ∃ g, w.heap.size = g := ⟨_, rfl⟩
          obtain ⟨c, w1, hconv, hm1, hcap, hcell, hlt⟩ := conv_str s w g hg.symm
          have MM := Lib.hid hm1
          have CELL := Lib.hid hcell
          have LT := Lib.hid hlt
          clear hm1 hcell hlt
          rw [hn] at hconv hcap
          go_enter Tryd.func32, Tryd.ntmps32
          go_wp2_with fail
          have ten : Hid (10 < lim) := Nat.lt_of_lt_of_le (show 10 < B64 ^ 1 by unfold B64; omega) (Nat.pow_le_pow_right (by unfold B64; omega) (by omega))
          go_loopw [26, 4] (fun i v wr => ∃ k : Nat, i = .int .i64 k ∧ k ≤ n ∧ Hid (NNew w (rdv (s.data.toList.take k)) wr v) ∧ Hid (∀ c ∈ s.data.toList.take k, isDig c = true) ∧ Hid (rdv (s.data.toList.take k) < lim) ∧ Hid (Mod [] w1 wr)) (fun i _ _ => n - (intOf i).toNat)
          case atStart => exact ⟨0, rfl, Nat.zero_le _, NNew.nil MM.out, by show ∀ c ∈ _, _; simp, by show _ < _; exact Nat.pow_pos (by unfold B64; omega), Mod.refl _ _⟩
          case round =>
            obtain ⟨k, rfl, hk, HN, HA, HV, HM⟩ := hrel
            by_cases hkn : k < n
            · have hks : k < s.size := by omega
              have hkl : k < s.data.toList.length := by rw [HLEN.out]; exact hkn
              have d1 := (HM.out.cell LT.out (by simp)).trans (CELL.out k hks)
              have SM : Hid (∀ x : Nat, s[k].toNat = x → (48 ≤ x ∧ x ≤ 57 → ∀ c ∈ s.data.toList.take (k + 1), isDig c = true) ∧ (¬ (48 ≤ x ∧ x ≤ 57) → writ s.data.toList = false) ∧ rdv (s.data.toList.take (k + 1)) = rdv (s.data.toList.take k) * 10 + (x - 48)) := fun x hx => by
                refine ⟨fun h c hc => ?_, fun h => writ_not (c := s.data.toList[k]) (List.getElem_mem _) ?_, ?_⟩
                · rw [List.take_succ_eq_append_getElem hkl] at hc
                  rcases List.mem_append.1 hc with q | q
                  · exact HA.out c q
                  · simp only [List.mem_singleton] at q
                    rw [q, isDig_iff]
                    exact hx ▸ h
                · rw [← Bool.not_eq_true, isDig_iff]
                  exact hx ▸ h
                · rw [rdv_take_succ hkl, ← hx]; rfl
              have hu8 := s[k].toNat_lt
              obtain ⟨y, hy⟩ : ∃ y, s[k].toNat = y := ⟨_, rfl⟩
              have SX := Lib.hid (SM.out y hy)
              rw [hy] at d1 hu8
              clear hy SM
              have hyb : (y : Int) < 256 := by omega
              by_cases h1 : (y : Int) < 48
              · have NO : Hid ((writ s.data.toList && decide (s.size ≤ 1234) && decide (rdv s.data.toList < lim)) = false) := by
                  show _ = _
                  rw [SX.out.2.1 (by omega), Bool.false_and, Bool.false_and]
                have HMM := Lib.hid (MM.out.trans HM.out (by simp))
                clear SX
                go_wp2
                go_ret2
                exact .inr ⟨HR.out.symm.trans NO.out, rfl, HMM.out⟩
              · by_cases h2 : (57 : Int) < y
                · have NO : Hid ((writ s.data.toList && decide (s.size ≤ 1234) && decide (rdv s.data.toList < lim)) = false) := by
                    show _ = _
                    rw [SX.out.2.1 (by omega), Bool.false_and, Bool.false_and]
                  have HMM := Lib.hid (MM.out.trans HM.out (by simp))
                  clear SX
                  go_wp2
                  go_ret2
                  exact .inr ⟨HR.out.symm.trans NO.out, rfl, HMM.out⟩
                · have HA2 := Lib.hid (SX.out.1 (by omega))
                  have SV := Lib.hid (SX.out.2.2.symm)
                  have SLE := Lib.hid (rdv_take_le s.data.toList (k + 1))
                  obtain ⟨z, hz⟩ : ∃ z, y - 48 = z := ⟨_, rfl⟩
                  rw [hz] at SV
                  have hzI : (y : Int) - 48 = z := by omega
                  have hz10 : z < 10 := by omega
                  have OFZ := Lib.hid (of_c z (by unfold B64; omega))
                  have OFT := Lib.hid (of_c 10 (by unfold B64; omega))
                  obtain ⟨lv, Fv, cv, nv, -⟩ := HN.out.nv
                  have NV := Lib.hid nv
                  have LV := Lib.hid (cv.fits64.2 HV.out)
                  have VV := Lib.hid cv.val
                  have MQ := Lib.hid HN.out.mod
                  have OVER : Hid (lim ≤ rdv (s.data.toList.take k) * 10 + z → (writ s.data.toList && decide (s.size ≤ 1234) && decide (rdv s.data.toList < lim)) = false) := fun h => by
                    rw [decide_eq_false (show ¬ rdv s.data.toList < lim by have := SLE.out; have := SV.out; omega), Bool.and_false]
                  obtain ⟨V, hV⟩ : ∃ V, rdv (s.data.toList.take k) = V := ⟨_, rfl⟩
                  rw [hV] at HV SV VV OVER HN
                  clear SX HA hz hV cv nv hz10 SLE
                  go_wp2_with fail
                  refine (OFT.out _).mono ?_
                  rintro e w2 ⟨v2, rfl, n2⟩
                  have M2 := Lib.hid n2.mod
                  obtain ⟨l2, F2, c2, r2, -⟩ := n2.nv
                  have MUL := Lib.hid (mul_c (NV.out.mod n2.mod (by simp)) r2 (Nat.le_trans LV.out (by omega)) (Nat.le_trans (c2.fits64.2 ten.out) (by omega)))
                  rw [VV.out, c2.val, decide_eq_true HV.out, decide_eq_true ten.out, Bool.true_and, Bool.true_and] at MUL
                  clear n2 c2 r2
                  go_wp2_with fail
                  refine MUL.out.mono ?_
                  rintro e w3 (⟨q3, v3, rfl, n3⟩ | ⟨q3, rfl, m3⟩)
                  · have M3 := Lib.hid (M2.out.trans n3.mod (by simp))
                    obtain ⟨l3, F3, c3, r3, -⟩ := n3.nv
                    have NV3 := Lib.hid r3
                    have C3 := Lib.hid c3
                    have L3 := Lib.hid (c3.fits64.2 (of_decide_eq_true q3))
                    clear n3 c3 r3 q3
                    go_wp2_with fail
                    refine (OFZ.out _).mono ?_
                    rintro e w4 ⟨v4, rfl, n4⟩
                    have M4 := Lib.hid (M3.out.trans n4.mod (by simp))
                    obtain ⟨l4, F4, c4, r4, -⟩ := n4.nv
                    have ADD := Lib.hid (add_c (NV3.out.mod n4.mod (by simp)) r4 (Nat.le_trans L3.out (by omega)) (Nat.le_trans (c4.fits64.2 (by have := ten.out; omega)) (by omega)))
                    rw [C3.out.val, c4.val] at ADD
                    clear n4 c4 r4
                    go_wp2_with fail
                    refine ADD.out.mono ?_
                    rintro e w5 (⟨q5, v5, rfl, n5⟩ | ⟨q5, rfl, m5⟩)
                    · have N5 := Lib.hid (n5.after ((MQ.out.trans M4.out (by simp))))
                      have M5 := Lib.hid (HM.out.trans (M4.out.trans n5.mod (by simp)) (by simp))
                      have Q5 := Lib.hid (of_decide_eq_true q5)
                      rw [SV.out] at N5 Q5
                      clear n5 q5
                      go_wp2_with fail
                      go_roundw
                      case rel => exact ⟨k + 1, by go_num, by omega, N5.out, HA2.out, Q5.out, M5.out⟩
                      case measure => simp [intOf]; omega
                    · have HMM := Lib.hid (MQ.out.trans (M4.out.trans m5 (by simp)) (by simp))
                      have NO := Lib.hid (OVER.out (by have := of_decide_eq_false q5; omega))
                      clear m5 q5
                      go_wp2
                      go_ret2
                      exact .inr ⟨HR.out.symm.trans NO.out, rfl, HMM.out⟩
                  · have HMM := Lib.hid (MQ.out.trans (M2.out.trans m3 (by simp)) (by simp))
                    have NO := Lib.hid (OVER.out (by have := of_decide_eq_false q3; omega))
                    clear m3 q3
                    go_wp2
                    go_ret2
                    exact .inr ⟨HR.out.symm.trans NO.out, rfl, HMM.out⟩
            · obtain rfl : k = n := by omega
              have ET : s.data.toList.take k = s.data.toList := List.take_of_length_le (by rw [HLEN.out]; exact Nat.le_refl _)
              rw [ET] at HA HV HN
              have YES : Hid ((writ s.data.toList && decide (s.size ≤ 1234) && decide (rdv s.data.toList < lim)) = true) := by
                show _ = _
                rw [writ_yes HA.out (by rw [HLEN.out]; exact h0) H48.out, decide_eq_true (show s.size ≤ 1234 by omega), decide_eq_true HV.out]; rfl
              clear ET HA HV
              go_wp2
              go_ret2
              exact .inl ⟨HR.out.symm.trans YES.out, _, rfl, HN.out⟩
    · have NO : Hid ((writ s.data.toList && decide (s.size ≤ 1234) && decide (rdv s.data.toList < lim)) = false) := by
        show _ = _
        rw [writ_nil (by rw [HLEN.out]; omega), Bool.false_and, Bool.false_and]
      have hemp : s.toList.isEmpty = true := by
        rw [ByteArray.toList_eq, List.isEmpty_iff, ← List.length_eq_zero_iff, HLEN.out]; omega
      have hne : s.toList = [] := by rw [← List.isEmpty_iff, hemp]
      go_enter Tryd.func32, Tryd.ntmps32
      go_wp2
      go_ret2
      exact .inr ⟨HR.out.symm.trans NO.out, rfl, Mod.refl _ _⟩
end Go.Proofs.YtkldjllnnbablaaDoor

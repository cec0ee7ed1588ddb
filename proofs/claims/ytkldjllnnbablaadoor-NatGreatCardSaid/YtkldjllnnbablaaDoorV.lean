/- SameWords, Is, the law's told. -/
import Derived.Test.YtkldjllnnbablaaDoorU
set_option linter.unusedVariables false
set_option linter.unusedSimpArgs false
namespace Go.Proofs.YtkldjllnnbablaaDoor
open Go.RowKit Go.Shelf

set_option maxRecDepth 100000 in
set_option maxHeartbeats 2000000 in
/-- SameWords. -/
theorem sameWords_c {w : World} {v1 v2 : Value} {l1 l2 F1 F2 : List Nat} (h1 : Nv w v1 l1 F1) (h2 : Nv w v2 l2 F2) (hl1 : l1.length ≤ 100000) (hl2 : l2.length ≤ 100000) :
    Calls Tryd.prog 20 #[v1, v2] w fun e w' => e = .returned (.bool (decide (l1 = l2))) ∧ Mod [] w w' := by
  obtain ⟨A1, cap1, rfl, hc1⟩ := h1.1.shape
  obtain ⟨A2, cap2, rfl, hc2⟩ := h2.1.shape
  have DA := Lib.hid h1
  have DB := Lib.hid h2
  clear h1 h2 hc1 hc2
  rw [List.length_map] at DA ⊢
  rw [List.length_map] at DB ⊢
  obtain ⟨n1, hna⟩ : ∃ n, l1.length = n := ⟨_, rfl⟩
  obtain ⟨n2, hnb⟩ : ∃ n, l2.length = n := ⟨_, rfl⟩
  have HN1 := Lib.hid hna
  have HN2 := Lib.hid hnb
  rw [hna, hnb]
  rw [hna] at hl1 DA
  rw [hnb] at hl2 DB
  clear hna hnb
  obtain ⟨r, hr⟩ : ∃ r, decide (l1 = l2) = r := ⟨_, rfl⟩
  have HR := Lib.hid hr
  rw [hr]
  clear hr
  by_cases hne : n1 = n2
  · subst hne
    have he : ((n1 : Int) != (n1 : Int)) = false := by simp
    go_enter Tryd.func20, Tryd.ntmps20
    go_wp2_with fail
    go_loopw [5] (fun i wr => ∃ k : Nat, i = .int .i64 k ∧ k ≤ n1 ∧ Hid (l1.take k = l2.take k) ∧ Hid (Mod [] w wr)) (fun i _ => n1 - (intOf i).toNat)
    case atStart => exact ⟨0, rfl, Nat.zero_le _, by show _ = _; simp, Mod.refl _ _⟩
    case round =>
      obtain ⟨k, rfl, hk, HD, HM⟩ := hrel
      by_cases hkn : (k : Int) < n1
      · have h1 : k < l1.length := by rw [HN1.out]; omega
        have h2 : k < l2.length := by rw [HN2.out]; omega
        obtain ⟨b1, o1, rfl, d1⟩ := (DA.out.1.mod HM.out (by simp)).at k (by rw [List.length_map]; exact h1)
        obtain ⟨b2, o2, rfl, d2⟩ := (DB.out.1.mod HM.out (by simp)).at k (by rw [List.length_map]; exact h2)
        rw [List.getElem_map] at d1 d2
        unfold e6 at d1 d2
        have NE : Hid (l1[k] ≠ l2[k] → r = false) := fun q => by
          rw [← HR.out, decide_eq_false]
          intro e
          subst e
          exact q rfl
        have EQ : Hid (l1[k] = l2[k] → l1.take (k + 1) = l2.take (k + 1)) := fun q => by
          rw [List.take_succ_eq_append_getElem h1, List.take_succ_eq_append_getElem h2, q, HD.out]
        generalize l1[k] = x at *
        generalize l2[k] = y at *
        clear h1 h2
        by_cases q1 : x = y
        · have HE := Lib.hid (EQ.out q1)
          have hneq : ((x : Int) != (y : Int)) = false := by simp; omega
          clear NE EQ q1
          go_wp2_with fail
          go_quiet (fail)
          go_wp2
          go_roundw
          case rel => exact ⟨k + 1, by go_num, by omega, HE, HM.out.drewN _⟩
          case measure => simp [intOf]; omega
        · have HF := Lib.hid (NE.out q1)
          have hneq : ((x : Int) != (y : Int)) = true := by simp; omega
          clear NE EQ q1
          go_wp2_with fail
          go_quiet (fail)
          go_wp2
          go_ret
          exact ⟨by rw [HF.out]; rfl, by repeat (first | exact HM.out | apply Mod.drewN)⟩
      · obtain rfl : k = n1 := by omega
        have H : Hid (r = true) := by
          have hd := HD.out
          rw [List.take_of_length_le (by rw [HN1.out]; exact Nat.le_refl _), List.take_of_length_le (by rw [HN2.out]; exact Nat.le_refl _)] at hd
          show _ = _
          rw [← HR.out, decide_eq_true hd]
        go_wp2
        go_ret
        exact ⟨by rw [H.out]; rfl, HM.out⟩
  · have he : ((n1 : Int) != (n2 : Int)) = true := by simp; omega
    have H : Hid (r = false) := by
      show _ = _
      rw [← HR.out, decide_eq_false]
      intro e
      subst e
      exact hne (HN1.out.symm.trans HN2.out)
    go_enter Tryd.func20, Tryd.ntmps20
    go_wp2
    go_ret
    exact ⟨by rw [H.out]; rfl, Mod.refl _ _⟩

set_option maxRecDepth 100000 in
set_option maxHeartbeats 2000000 in
/-- Is. -/
theorem is_c {w : World} {v1 v2 : Value} {l d F1 F2 : List Nat} {m n : Nat} (h1 : Nv w v1 l F1) (hc : Can B64 l m) (hl : l.length ≤ 64) (h2 : Dv w v2 d n F2) (hd : d.length ≤ 10000) :
    Calls Tryd.prog 22 #[v1, v2] w fun e w' => e = .returned (.bool (decide (m = n))) ∧ Mod [] w w' := by
  obtain ⟨A1, cap1, rfl, -⟩ := h1.1.shape
  have WC := Lib.hid (words_c h1 (by omega))
  have DC := Lib.hid (digits_c h1 (by omega))
  have H2 := Lib.hid h2
  have HC := Lib.hid hc
  have HD := Lib.hid hd
  have HML := Lib.hid (show m < B64 ^ 64 from hc.fits64.1 hl)
  rw [List.length_map] at WC DC ⊢
  rw [hc.val] at WC DC
  obtain ⟨n1, hn1⟩ : ∃ q, l.length = q := ⟨_, rfl⟩
  have HN1 := Lib.hid hn1
  rw [hn1] at WC DC ⊢
  clear h1 hc hl h2 hd hn1
  go_enter Tryd.func22, Tryd.ntmps22
  go_wp2_with fail
  refine WC.out.mono ?_
  rintro e w1 ⟨hw, k, hk, rfl, hck⟩
  subst hw
  obtain rfl : k = n1 := (take_can HC.out (by rw [HN1.out]; exact hk) hck).trans HN1.out
  clear hk hck WC
  go_wp2_with fail
  refine DC.out.mono ?_
  rintro e w2 ⟨v', rfl, hm, d2, F, hd2, -⟩
  have l2 := dig_len (m := 64) hd2.2 HML.out
  have SC := Lib.hid (same_c hd2 (H2.out.mod hm (by simp)) (by omega) (by have := HD.out; omega))
  have HM := Lib.hid hm
  obtain ⟨r, hr⟩ : ∃ r, decide (m = n) = r := ⟨_, rfl⟩
  rw [hr] at SC
  have HR := Lib.hid hr
  clear hd2 l2 hm hr DC
  go_wp2_with fail
  refine SC.out.mono ?_
  rintro e w3 ⟨rfl, hm⟩
  have HM3 := Lib.hid (HM.out.trans hm (by simp))
  clear hm
  go_wp2
  go_ret
  exact ⟨by rw [HR.out]; rfl, HM3.out⟩
end Go.Proofs.YtkldjllnnbablaaDoor

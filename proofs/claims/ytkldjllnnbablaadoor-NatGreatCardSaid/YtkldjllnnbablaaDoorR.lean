/- The reference's Less, Same, Words; long. -/
import Derived.Test.YtkldjllnnbablaaDoorQ
set_option linter.unusedVariables false
set_option linter.unusedSimpArgs false
namespace Go.Proofs.YtkldjllnnbablaaDoor
open Go.RowKit Go.Shelf

set_option maxRecDepth 100000 in
set_option maxHeartbeats 2000000 in
/-- Less. -/
theorem less_c {w : World} {v1 v2 : Value} {da db F1 F2 : List Nat} {a b : Nat} (h1 : Dv w v1 da a F1) (h2 : Dv w v2 db b F2) (hl1 : da.length ≤ 100000) (hl2 : db.length ≤ 100000) :
    Calls Tryd.prog 18 #[v1, v2] w fun e w' => e = .returned (.bool (decide (a < b))) ∧ Mod [] w w' := by
  obtain ⟨A1, cap1, rfl, hc1⟩ := h1.1.shape
  obtain ⟨A2, cap2, rfl, hc2⟩ := h2.1.shape
  have DA := Lib.hid h1
  have DB := Lib.hid h2
  clear h1 h2 hc1 hc2
  rw [List.length_map] at DA ⊢
  rw [List.length_map] at DB ⊢
  obtain ⟨n1, hna⟩ : ∃ n, da.length = n := ⟨_, rfl⟩
  obtain ⟨n2, hnb⟩ : ∃ n, db.length = n := ⟨_, rfl⟩
  have HN1 := Lib.hid hna
  have HN2 := Lib.hid hnb
  rw [hna, hnb]
  rw [hna] at hl1 DA
  rw [hnb] at hl2 DB
  clear hna hnb
  obtain ⟨r, hr⟩ : ∃ r, decide (a < b) = r := ⟨_, rfl⟩
  have HR := Lib.hid hr
  rw [hr]
  clear hr
  by_cases hne : n1 = n2
  · subst hne
    have he : ((n1 : Int) != (n1 : Int)) = false := by simp
    go_enter Tryd.func18, Tryd.ntmps18
    go_wp2_with fail
    go_loopw [5] (fun i wr => ∃ k : Nat, i = .int .i64 ((k : Int) - 1) ∧ k ≤ n1 ∧ Hid (da.drop k = db.drop k) ∧ Hid (Mod [] w wr)) (fun i _ => (intOf i + 1).toNat)
    case atStart => exact ⟨n1, by go_num, Nat.le_refl _, by show _ = _; rw [List.drop_of_length_le (by rw [HN1.out]; exact Nat.le_refl _), List.drop_of_length_le (by rw [HN2.out]; exact Nat.le_refl _)], Mod.refl _ _⟩
    case round =>
      obtain ⟨k, hv, hk, HD, HM⟩ := hrel
      rcases k with _ | j
      · obtain rfl := hv
        have H : Hid (r = false) := by
          have hd := HD.out
          rw [List.drop_zero, List.drop_zero] at hd
          show _ = _
          rw [← HR.out, ← DA.out.2.val, ← DB.out.2.val, hd]
          simp
        go_wp2
        go_ret
        exact ⟨by rw [H.out]; rfl, HM.out⟩
      · have hv2 := hv.trans (show Value.int .i64 (((j + 1 : Nat) : Int) - 1) = .int .i64 (j : Int) by congr 1; omega)
        clear hv
        subst hv2
        have h1 : j < da.length := by rw [HN1.out]; omega
        have h2 : j < db.length := by rw [HN2.out]; omega
        obtain ⟨b1, o1, rfl, d1⟩ := (DA.out.1.mod HM.out (by simp)).at j (by rw [List.length_map]; exact h1)
        obtain ⟨b2, o2, rfl, d2⟩ := (DB.out.1.mod HM.out (by simp)).at j (by rw [List.length_map]; exact h2)
        rw [List.getElem_map] at d1 d2
        unfold ei at d1 d2
        have LT : Hid (da[j] < db[j] → r = true) := fun q => by
          have := part_at DA.out.2.lt (by rw [HN1.out, HN2.out]) h1 HD.out q
          rw [DA.out.2.val, DB.out.2.val] at this
          rw [← HR.out, decide_eq_true this]
        have GT : Hid (db[j] < da[j] → r = false) := fun q => by
          have := part_at DB.out.2.lt (by rw [HN1.out, HN2.out]) h2 HD.out.symm q
          rw [DA.out.2.val, DB.out.2.val] at this
          rw [← HR.out, decide_eq_false (by omega)]
        have EQ : Hid (da[j] = db[j] → da.drop j = db.drop j) := fun q => by
          rw [List.drop_eq_getElem_cons h1, List.drop_eq_getElem_cons h2, q, HD.out]
        generalize da[j] = x at *
        generalize db[j] = y at *
        clear h1 h2
        by_cases q1 : (x : Int) < y
        · have HF := Lib.hid (LT.out (by omega))
          have hneq : ((x : Int) != (y : Int)) = true := by simp; omega
          clear LT GT EQ
          go_wp2_with fail
          go_quiet (fail)
          go_wp2
          go_quiet (fail)
          go_wp2
          go_ret
          exact ⟨by rw [HF.out]; rfl, by repeat (first | exact HM.out | apply Mod.drewN)⟩
        · by_cases q2 : (y : Int) < x
          · have HF := Lib.hid (GT.out (by omega))
            have hneq : ((x : Int) != (y : Int)) = true := by simp; omega
            clear LT GT EQ
            go_wp2_with fail
            go_quiet (fail)
            go_wp2
            go_quiet (fail)
            go_wp2
            go_ret
            exact ⟨by rw [HF.out]; show Ending.returned (Value.bool (decide (x < y))) = _; rw [decide_eq_false (by omega)], by repeat (first | exact HM.out | apply Mod.drewN)⟩
          · have HE := Lib.hid (EQ.out (by omega))
            have hneq : ((x : Int) != (y : Int)) = false := by simp; omega
            clear LT GT EQ
            go_wp2_with fail
            go_quiet (fail)
            go_wp2
            go_roundw
            case rel => exact ⟨j, by go_num, by omega, HE, HM.out.drewN _⟩
            case measure => simp [intOf]
  · have he : ((n1 : Int) != (n2 : Int)) = true := by simp; omega
    by_cases hlt : (n1 : Int) < n2
    · have H : Hid (r = true) := by
        have := DA.out.2.shorter (by omega) DB.out.2 (by rw [HN1.out, HN2.out]; omega)
        show _ = _
        rw [← HR.out, decide_eq_true this]
      go_enter Tryd.func18, Tryd.ntmps18
      go_wp2
      go_ret
      exact ⟨by rw [H.out]; rfl, Mod.refl _ _⟩
    · have H : Hid (r = false) := by
        have := DB.out.2.shorter (by omega) DA.out.2 (by rw [HN1.out, HN2.out]; omega)
        show _ = _
        rw [← HR.out, decide_eq_false (by omega)]
      go_enter Tryd.func18, Tryd.ntmps18
      go_wp2
      go_ret
      exact ⟨by rw [H.out]; rfl, Mod.refl _ _⟩

set_option maxHeartbeats 1000000 in
/-- Same. -/
theorem same_c {w : World} {v1 v2 : Value} {da db F1 F2 : List Nat} {a b : Nat} (h1 : Dv w v1 da a F1) (h2 : Dv w v2 db b F2) (hl1 : da.length ≤ 100000) (hl2 : db.length ≤ 100000) :
    Calls Tryd.prog 17 #[v1, v2] w fun e w' => e = .returned (.bool (decide (a = b))) ∧ Mod [] w w' := by
  have CA := Lib.hid (less_c h1 h2 hl1 hl2)
  have CB := Lib.hid (fun w' (m : Mod [] w w') => less_c (h2.mod m (by simp)) (h1.mod m (by simp)) hl2 hl1)
  clear h1 h2 hl1 hl2
  obtain ⟨r, hr⟩ : ∃ r, decide (a = b) = r := ⟨_, rfl⟩
  rw [hr]
  by_cases q : a < b
  · have H : Hid (r = false) := by show _ = _; rw [← hr, decide_eq_false (by omega)]
    rw [decide_eq_true q] at CA
    clear hr q
    go_enter Tryd.func17, Tryd.ntmps17
    go_wp2_with fail
    refine CA.out.mono ?_
    rintro e w1 ⟨rfl, hm⟩
    have HM := Lib.hid hm
    clear hm
    go_wp2
    go_ret
    exact ⟨by rw [H.out]; rfl, HM.out⟩
  · rw [decide_eq_false q] at CA
    by_cases q2 : b < a
    · have H : Hid (r = false) := by show _ = _; rw [← hr, decide_eq_false (by omega)]
      rw [decide_eq_true q2] at CB
      clear hr q q2
      go_enter Tryd.func17, Tryd.ntmps17
      go_wp2_with fail
      refine CA.out.mono ?_
      rintro e w1 ⟨rfl, hm⟩
      have HM := Lib.hid hm
      clear hm
      go_wp2_with fail
      refine (CB.out _ HM.out).mono ?_
      rintro e w2 ⟨rfl, hm⟩
      have HM2 := Lib.hid hm
      clear hm
      go_wp2
      go_ret
      exact ⟨by rw [H.out]; rfl, HM.out.trans HM2.out (by simp)⟩
    · have H : Hid (r = true) := by show _ = _; rw [← hr, decide_eq_true (by omega)]
      rw [decide_eq_false q2] at CB
      clear hr q q2
      go_enter Tryd.func17, Tryd.ntmps17
      go_wp2_with fail
      refine CA.out.mono ?_
      rintro e w1 ⟨rfl, hm⟩
      have HM := Lib.hid hm
      clear hm
      go_wp2_with fail
      refine (CB.out _ HM.out).mono ?_
      rintro e w2 ⟨rfl, hm⟩
      have HM2 := Lib.hid hm
      clear hm
      go_wp2
      go_ret
      exact ⟨by rw [H.out]; rfl, HM.out.trans HM2.out (by simp)⟩

set_option maxHeartbeats 1000000 in
/-- Words. -/
theorem words_c {w : World} {v : Value} {l F : List Nat} (h : Nv w v l F) (hl : l.length ≤ 100000) :
    Calls Tryd.prog 16 #[v] w fun e w' => w' = w ∧ ∃ k : Nat, k ≤ l.length ∧ e = .returned (.int .i64 k) ∧ Can B64 (l.take k) (vl B64 l) := by
  obtain ⟨A, cap, rfl, hc⟩ := h.1.shape
  have H := Lib.hid h
  clear h
  rw [List.length_map] at H hc ⊢
  obtain ⟨n, hn⟩ : ∃ n, l.length = n := ⟨_, rfl⟩
  rw [hn] at H hc hl ⊢
  have HN := Lib.hid hn
  clear hn
  go_enter Tryd.func16, Tryd.ntmps16
  go_wp2_with fail
  go_loopw [3] (fun i wr => ∃ k : Nat, i = .int .i64 k ∧ k ≤ n ∧ Hid (vl B64 (l.take k) = vl B64 l) ∧ wr = w) (fun i _ => (intOf i).toNat)
  case atStart => exact ⟨n, rfl, Nat.le_refl _, by show _ = _; rw [List.take_of_length_le (by rw [HN.out]; exact Nat.le_refl _)], rfl⟩
  case round =>
    obtain ⟨k, rfl, hk, HV, rfl⟩ := hrel
    have fin : Hid (k = 0 ∨ (∃ h : k - 1 < l.length, l[k - 1] ≠ 0) → Can B64 (l.take k) (vl B64 l)) := fun hz => Can.norm H.out.2 (by rw [HN.out]; exact hk) HV.out hz
    by_cases h0 : 0 < k
    · obtain ⟨j, rfl⟩ : ∃ j, k = j + 1 := ⟨k - 1, by omega⟩
      have hj : j < l.length := by rw [HN.out]; omega
      obtain ⟨b1, o1, rfl, d1⟩ := H.out.1.at j (by rw [List.length_map]; exact hj)
      rw [List.getElem_map] at d1
      unfold e6 at d1
      by_cases hz : l[j] = 0
      · rw [hz] at d1
        have HV2 : Hid (vl B64 (l.take j) = vl B64 l) := norm_step hj HV.out hz
        clear hz
        go_wp2_with fail
        go_roundw
        case rel => exact ⟨j, by go_num, by omega, HV2, by first | rfl | trivial⟩
        case measure => simp [intOf]
      · have hzb : (((l[j] : Nat) : Int) == 0) = false := by rw [beq_eq_false_iff_ne]; omega
        have FIN := Lib.hid (fin.out (.inr ⟨hj, hz⟩))
        have HKN : Hid (j + 1 ≤ n) := by show _ ≤ _; omega
        clear fin hz
        generalize (l[j] : Int) = x at *
        go_wp2
        go_ret
        exact ⟨rfl, j + 1, HKN.out, by go_num, FIN.out⟩
    · obtain rfl : k = 0 := by omega
      have FIN := Lib.hid (fin.out (.inl rfl))
      clear fin
      go_wp2
      go_ret
      exact ⟨rfl, 0, Nat.zero_le _, by go_num, FIN.out⟩

theorem long_c (A : Option Addr) (n cap : Nat) (w : World) : Calls Tryd.prog 11 #[.slice A n cap] w fun e w' => e = .returned (.bool (decide (8 < n))) ∧ w = w' := by
  by_cases q : 8 < n
  · have q' : (8 : Int) < n := by omega
    have HQ := Lib.hid (decide_eq_true q)
    go_enter Tryd.func11, Tryd.ntmps11
    go_wp2
    go_ret
    exact ⟨by first | rfl | (rw [HQ.out]; rfl), rfl⟩
  · have q' : ¬ (8 : Int) < n := by omega
    have HQ := Lib.hid (decide_eq_false q)
    go_enter Tryd.func11, Tryd.ntmps11
    go_wp2
    go_ret
    exact ⟨by first | rfl | (rw [HQ.out]; rfl), rfl⟩
end Go.Proofs.YtkldjllnnbablaaDoor

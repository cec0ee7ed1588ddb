/- The reference's Add. -/
import Derived.Test.YtkldjllnnbablaaDoorN
set_option linter.unusedVariables false
set_option linter.unusedSimpArgs false
namespace Go.Proofs.YtkldjllnnbablaaDoor
open Go.RowKit Go.Shelf

theorem getD_lt10 {l : List Nat} (h : ∀ x ∈ l, x < 10) (k : Nat) : l.getD k 0 < 10 := by
  rw [List.getD_eq_getElem?_getD]
  by_cases q : k < l.length
  · rw [List.getElem?_eq_getElem q]; exact h _ (List.getElem_mem _)
  · rw [List.getElem?_eq_none (by omega)]; simp
theorem add_step_b (b : Nat) (o : List Nat) (k x y c va vb : Nat) (ho : o.length = k) (h : vl b o + b ^ k * c = va + vb) :
    vl b (o ++ [(x + y + c) % b]) + b ^ (k + 1) * ((x + y + c) / b) = (va + b ^ k * x) + (vb + b ^ k * y) := by
  rw [vl_snoc, ho, Nat.pow_succ, Nat.mul_assoc, Nat.add_assoc, ← Nat.mul_add, Nat.mod_add_div, Nat.mul_add, Nat.mul_add]
  omega
structure RInv (da db : List Nat) (k c : Nat) (o : List Nat) : Prop where
  la : ∀ x ∈ da, x < 10
  lb : ∀ x ∈ db, x < 10
  lt : ∀ x ∈ o, x < 10
  len : o.length = k
  carry : c ≤ 1
  val : vl 10 o + 10 ^ k * c = vl 10 (da.take k) + vl 10 (db.take k)
theorem RInv.step {da db : List Nat} {k c : Nat} {o : List Nat} (h : RInv da db k c o) : RInv da db (k + 1) ((da.getD k 0 + db.getD k 0 + c) / 10) (o ++ [(da.getD k 0 + db.getD k 0 + c) % 10]) := by
  have h1 := getD_lt10 h.la k
  have h2 := getD_lt10 h.lb k
  have h3 := h.carry
  refine ⟨h.la, h.lb, fun y hy => ?_, by simp [h.len], by omega, ?_⟩
  · rcases List.mem_append.1 hy with q | q
    · exact h.lt y q
    · simp at q; omega
  · rw [vl_take_getD, vl_take_getD]
    exact add_step_b 10 o k _ _ c _ _ h.len h.val

set_option maxRecDepth 100000 in
set_option maxHeartbeats 8000000 in
/-- Add of digits. -/
theorem refAdd_c {w : World} {v1 v2 : Value} {da db F1 F2 : List Nat} {a b : Nat} (h1 : Dv w v1 da a F1) (h2 : Dv w v2 db b F2) (hl1 : da.length ≤ 10000) (hl2 : db.length ≤ 10000) :
    Calls Tryd.prog 13 #[v1, v2] w fun e w' => ∃ v', e = .returned v' ∧ DNew w (a + b) w' v' := by
  obtain ⟨i0, hi, hz0, hz1, hz2⟩ := info_parts Tryd.info3
  obtain ⟨A1, cap1, rfl, hc1⟩ := h1.1.shape
  obtain ⟨A2, cap2, rfl, hc2⟩ := h2.1.shape
  have DA := Lib.hid h1
  have DB := Lib.hid h2
  clear h1 h2 hc1 hc2
  rw [List.length_map] at DA ⊢
  rw [List.length_map] at DB ⊢
  obtain ⟨na, hna⟩ : ∃ n, da.length = n := ⟨_, rfl⟩
  obtain ⟨nb, hnb⟩ : ∃ n, db.length = n := ⟨_, rfl⟩
  have HNA := Lib.hid hna
  have HNB := Lib.hid hnb
  rw [hna, hnb]
  rw [hna] at hl1
  rw [hnb] at hl2
  clear hna hnb
  obtain ⟨M, hM⟩ : ∃ M, M = max na nb := ⟨_, rfl⟩
  have hMa : na ≤ M := by omega
  have hMb : nb ≤ M := by omega
  have hMM : M ≤ 10000 := by omega
  have hMc : M = na ∨ M = nb := by omega
  clear hM
  rw [show (Value.slice A1 na cap1) = .slice A1 na cap1 from rfl]
  go_enter Tryd.func13, Tryd.ntmps13
  go_wp2_with fail
  go_loopw [5, 7, 6] (fun v5 i v6 wr => ∃ (k c : Nat) (o : List Nat), i = .int .i64 k ∧ v6 = .int .i64 c ∧ ((k ≤ M ∨ c = 0) ∧ k ≤ M + 1) ∧ Hid (RInv da db k c o) ∧ Hid (NewV 3 w (o.map ei) wr v5)) (fun _ i _ _ => M + 1 - (intOf i).toNat)
  case atStart => exact ⟨0, 0, [], rfl, rfl, ⟨.inr rfl, by omega⟩, ⟨DA.out.2.lt, DB.out.2.lt, by simp, rfl, by omega, by simp [vl]⟩, NewV.nil 3 (Mod.refl _ _)⟩
  case round =>
    obtain ⟨k, c, o, rfl, rfl, hk, HB, HN⟩ := hrel
    have HN5 := HN
    have hok := HB.out.len
    obtain ⟨Fo, so, mo, fo⟩ := HN.out
    obtain ⟨Ao, capo, rfl, hcapo⟩ := so.shape
    have e0 : (o.map ei).length = k := (List.length_map _).trans hok
    rw [e0] at so hcapo HN ⊢
    have SO := Lib.hid so
    have MO := Lib.hid mo
    have FO := Lib.hid fo
    have LO := Lib.hid e0
    clear so mo fo hcapo e0
    have hcc := HB.out.carry
    by_cases qa : (k : Int) < na
    · have hkM : k ≤ M := by omega
      have ST := Lib.hid HB.out.step
      obtain ⟨x, hx⟩ : ∃ x, da.getD k 0 = x := ⟨_, rfl⟩
      obtain ⟨y, hy⟩ : ∃ y, db.getD k 0 = y := ⟨_, rfl⟩
      have hxl : x < 10 := by rw [← hx]; exact getD_lt10 DA.out.2.lt k
      have hyl : y < 10 := by rw [← hy]; exact getD_lt10 DB.out.2.lt k
      have NXT : Hid ((k + 1 ≤ M ∨ (x + y + c) / 10 = 0) ∧ k + 1 ≤ M + 1) := by
        rcases Nat.lt_or_ge k M with q | q
        · exact ⟨.inl q, by omega⟩
        · have e1 : x = 0 := by rw [← hx, List.getD_eq_getElem?_getD, List.getElem?_eq_none (by rw [HNA.out]; omega)]; rfl
          have e2 : y = 0 := by rw [← hy, List.getD_eq_getElem?_getD, List.getElem?_eq_none (by rw [HNB.out]; omega)]; rfl
          exact ⟨.inr (by omega), by omega⟩
      have CA := Lib.hid (at_c (DA.out.1.mod MO.out (by simp)) k)
      have CB := Lib.hid (at_c (DB.out.1.mod MO.out (by simp)) k)
      rw [hx] at CA ST
      rw [hy] at CB ST
      rw [HNA.out] at CA
      rw [HNB.out] at CB
      obtain ⟨s, hs⟩ : ∃ s, (x + y + c) % 10 = s := ⟨_, rfl⟩
      obtain ⟨t, ht⟩ : ∃ t, (x + y + c) / 10 = t := ⟨_, rfl⟩
      have hsI : ((x : Int) + (y : Int) + (c : Int)) % 10 = s := by omega
      have htI : ((x : Int) + (y : Int) + (c : Int)) / 10 = t := by omega
      rw [hs, ht] at ST
      rw [ht] at NXT
      clear hx hy hs ht HN HN5 HB hok
      go_wp2_with fail
      refine CA.out.mono ?_
      rintro e w' ⟨rfl, hw⟩
      subst hw
      go_wp2_with fail
      refine CB.out.mono ?_
      rintro e w' ⟨rfl, hw⟩
      subst hw
      go_wp2_with (at_builtin; refine wpList_append_sl _ rfl _ _ 28 rfl 3 i0 (.int .i64 0) 1 8 Tryd.underlying28 hi hz0 hz1 hz2 rfl (by decide) _ k (o.map ei) Fo rfl (SO.out.mod (S := []) (by (repeat (first | exact Mod.refl _ _ | apply Mod.drew | apply Mod.drewN | apply Mod.alloc | refine Mod.setCell ?_ _ _ (by first | simp | (simp; omega))))) (by simp)) ⟨_, 0, none⟩ 1 1 [ei s] (by decide) rfl rfl (by intro j u hu; exact list_new_at _ _ _ _ (by simp) j u hu) (by intro u hu; simp at hu; subst hu; rfl) (by unfold maxLen; omega) (by omega) ?_; intro v5 w5 F5 hs5 hm5 hf5; have N5 := Lib.hid (NewV.app (l := o.map ei) (l2 := [ei s]) MO.out FO.out LO.out rfl (by (repeat (first | exact Mod.refl _ _ | apply Mod.drew | apply Mod.drewN | apply Mod.alloc | refine Mod.setCell ?_ _ _ (by first | simp | (simp; omega))))) hs5 hm5 hf5); obtain ⟨a5, cap5, rfl, _⟩ := hs5.shape; clear hs5 hm5 hf5)
      refine ⟨⟨k + 1, t, o ++ [s], by go_num, by rw [htI], NXT.out, ST.out, ?_⟩, by simp [intOf]; omega⟩
      show NewV _ _ _ _ _
      rw [List.map_append]
      exact N5.out
    · by_cases qb : (k : Int) < nb
      · have hkM : k ≤ M := by omega
        have ST := Lib.hid HB.out.step
        obtain ⟨x, hx⟩ : ∃ x, da.getD k 0 = x := ⟨_, rfl⟩
        obtain ⟨y, hy⟩ : ∃ y, db.getD k 0 = y := ⟨_, rfl⟩
        have hxl : x < 10 := by rw [← hx]; exact getD_lt10 DA.out.2.lt k
        have hyl : y < 10 := by rw [← hy]; exact getD_lt10 DB.out.2.lt k
        have NXT : Hid ((k + 1 ≤ M ∨ (x + y + c) / 10 = 0) ∧ k + 1 ≤ M + 1) := by
          rcases Nat.lt_or_ge k M with q | q
          · exact ⟨.inl q, by omega⟩
          · have e1 : x = 0 := by rw [← hx, List.getD_eq_getElem?_getD, List.getElem?_eq_none (by rw [HNA.out]; omega)]; rfl
            have e2 : y = 0 := by rw [← hy, List.getD_eq_getElem?_getD, List.getElem?_eq_none (by rw [HNB.out]; omega)]; rfl
            exact ⟨.inr (by omega), by omega⟩
        have CA := Lib.hid (at_c (DA.out.1.mod MO.out (by simp)) k)
        have CB := Lib.hid (at_c (DB.out.1.mod MO.out (by simp)) k)
        rw [hx] at CA ST
        rw [hy] at CB ST
        rw [HNA.out] at CA
        rw [HNB.out] at CB
        obtain ⟨s, hs⟩ : ∃ s, (x + y + c) % 10 = s := ⟨_, rfl⟩
        obtain ⟨t, ht⟩ : ∃ t, (x + y + c) / 10 = t := ⟨_, rfl⟩
        have hsI : ((x : Int) + (y : Int) + (c : Int)) % 10 = s := by omega
        have htI : ((x : Int) + (y : Int) + (c : Int)) / 10 = t := by omega
        rw [hs, ht] at ST
        rw [ht] at NXT
        clear hx hy hs ht HN HN5 HB hok
        go_wp2_with fail
        refine CA.out.mono ?_
        rintro e w' ⟨rfl, hw⟩
        subst hw
        go_wp2_with fail
        refine CB.out.mono ?_
        rintro e w' ⟨rfl, hw⟩
        subst hw
        go_wp2_with (at_builtin; refine wpList_append_sl _ rfl _ _ 28 rfl 3 i0 (.int .i64 0) 1 8 Tryd.underlying28 hi hz0 hz1 hz2 rfl (by decide) _ k (o.map ei) Fo rfl (SO.out.mod (S := []) (by (repeat (first | exact Mod.refl _ _ | apply Mod.drew | apply Mod.drewN | apply Mod.alloc | refine Mod.setCell ?_ _ _ (by first | simp | (simp; omega))))) (by simp)) ⟨_, 0, none⟩ 1 1 [ei s] (by decide) rfl rfl (by intro j u hu; exact list_new_at _ _ _ _ (by simp) j u hu) (by intro u hu; simp at hu; subst hu; rfl) (by unfold maxLen; omega) (by omega) ?_; intro v5 w5 F5 hs5 hm5 hf5; have N5 := Lib.hid (NewV.app (l := o.map ei) (l2 := [ei s]) MO.out FO.out LO.out rfl (by (repeat (first | exact Mod.refl _ _ | apply Mod.drew | apply Mod.drewN | apply Mod.alloc | refine Mod.setCell ?_ _ _ (by first | simp | (simp; omega))))) hs5 hm5 hf5); obtain ⟨a5, cap5, rfl, _⟩ := hs5.shape; clear hs5 hm5 hf5)
        refine ⟨⟨k + 1, t, o ++ [s], by go_num, by rw [htI], NXT.out, ST.out, ?_⟩, by simp [intOf]; omega⟩
        show NewV _ _ _ _ _
        rw [List.map_append]
        exact N5.out
      · by_cases qc : (c : Int) > 0
        · have hkM : k ≤ M := by omega
          have ST := Lib.hid HB.out.step
          obtain ⟨x, hx⟩ : ∃ x, da.getD k 0 = x := ⟨_, rfl⟩
          obtain ⟨y, hy⟩ : ∃ y, db.getD k 0 = y := ⟨_, rfl⟩
          have hxl : x < 10 := by rw [← hx]; exact getD_lt10 DA.out.2.lt k
          have hyl : y < 10 := by rw [← hy]; exact getD_lt10 DB.out.2.lt k
          have NXT : Hid ((k + 1 ≤ M ∨ (x + y + c) / 10 = 0) ∧ k + 1 ≤ M + 1) := by
            rcases Nat.lt_or_ge k M with q | q
            · exact ⟨.inl q, by omega⟩
            · have e1 : x = 0 := by rw [← hx, List.getD_eq_getElem?_getD, List.getElem?_eq_none (by rw [HNA.out]; omega)]; rfl
              have e2 : y = 0 := by rw [← hy, List.getD_eq_getElem?_getD, List.getElem?_eq_none (by rw [HNB.out]; omega)]; rfl
              exact ⟨.inr (by omega), by omega⟩
          have CA := Lib.hid (at_c (DA.out.1.mod MO.out (by simp)) k)
          have CB := Lib.hid (at_c (DB.out.1.mod MO.out (by simp)) k)
          rw [hx] at CA ST
          rw [hy] at CB ST
          rw [HNA.out] at CA
          rw [HNB.out] at CB
          obtain ⟨s, hs⟩ : ∃ s, (x + y + c) % 10 = s := ⟨_, rfl⟩
          obtain ⟨t, ht⟩ : ∃ t, (x + y + c) / 10 = t := ⟨_, rfl⟩
          have hsI : ((x : Int) + (y : Int) + (c : Int)) % 10 = s := by omega
          have htI : ((x : Int) + (y : Int) + (c : Int)) / 10 = t := by omega
          rw [hs, ht] at ST
          rw [ht] at NXT
          clear hx hy hs ht HN HN5 HB hok
          go_wp2_with fail
          refine CA.out.mono ?_
          rintro e w' ⟨rfl, hw⟩
          subst hw
          go_wp2_with fail
          refine CB.out.mono ?_
          rintro e w' ⟨rfl, hw⟩
          subst hw
          go_wp2_with (at_builtin; refine wpList_append_sl _ rfl _ _ 28 rfl 3 i0 (.int .i64 0) 1 8 Tryd.underlying28 hi hz0 hz1 hz2 rfl (by decide) _ k (o.map ei) Fo rfl (SO.out.mod (S := []) (by (repeat (first | exact Mod.refl _ _ | apply Mod.drew | apply Mod.drewN | apply Mod.alloc | refine Mod.setCell ?_ _ _ (by first | simp | (simp; omega))))) (by simp)) ⟨_, 0, none⟩ 1 1 [ei s] (by decide) rfl rfl (by intro j u hu; exact list_new_at _ _ _ _ (by simp) j u hu) (by intro u hu; simp at hu; subst hu; rfl) (by unfold maxLen; omega) (by omega) ?_; intro v5 w5 F5 hs5 hm5 hf5; have N5 := Lib.hid (NewV.app (l := o.map ei) (l2 := [ei s]) MO.out FO.out LO.out rfl (by (repeat (first | exact Mod.refl _ _ | apply Mod.drew | apply Mod.drewN | apply Mod.alloc | refine Mod.setCell ?_ _ _ (by first | simp | (simp; omega))))) hs5 hm5 hf5); obtain ⟨a5, cap5, rfl, _⟩ := hs5.shape; clear hs5 hm5 hf5)
          refine ⟨⟨k + 1, t, o ++ [s], by go_num, by rw [htI], NXT.out, ST.out, ?_⟩, by simp [intOf]; omega⟩
          show NewV _ _ _ _ _
          rw [List.map_append]
          exact N5.out
        · obtain rfl : c = 0 := by omega
          have hv : vl 10 o = a + b := by
            have h1 := HB.out.val
            rw [Nat.mul_zero, Nat.add_zero, List.take_of_length_le (by rw [HNA.out]; omega), List.take_of_length_le (by rw [HNB.out]; omega), DA.out.2.val, DB.out.2.val] at h1
            exact h1
          have TC := Lib.hid (trim_c (Rv.of_sl SO.out LO.out.symm) HB.out.lt (by rw [hok]; omega))
          rw [hv] at TC
          clear HN HN5 HB hok hv
          go_wp2_with fail
          refine TC.out.mono ?_
          rintro e w' ⟨hw, v', d, rfl, hd⟩
          subst hw
          have HD := Lib.hid hd
          clear hd
          go_wp2
          go_ret
          exact ⟨_, rfl, MO.out, d, Fo, HD.out, FO.out⟩
end Go.Proofs.YtkldjllnnbablaaDoor

/- The reference's Sub; the law's told. -/
import Derived.Test.YtkldjllnnbablaaDoorV
set_option linter.unusedVariables false
set_option linter.unusedSimpArgs false
namespace Go.Proofs.YtkldjllnnbablaaDoor
open Go.RowKit Go.Shelf

/-- What Sub's loop keeps. -/
structure XInv (da db : List Nat) (k c : Nat) (o : List Nat) : Prop where
  lt : ∀ x ∈ o, x < 10
  len : o.length = k
  carry : c ≤ 1
  val : vl 10 o + vl 10 (db.take k) = vl 10 (da.take k) + 10 ^ k * c
theorem XInv.step {da db : List Nat} {k c s t : Nat} {o : List Nat} (h : XInv da db k c o) (hs : s + db.getD k 0 + c = da.getD k 0 + 10 * t) (hs1 : s < 10) (ht : t ≤ 1) : XInv da db (k + 1) t (o ++ [s]) := by
  refine ⟨fun y hy => ?_, by simp [h.len], ht, ?_⟩
  · rcases List.mem_append.1 hy with q | q
    · exact h.lt y q
    · simp at q; omega
  · have hv := h.val
    have h2 : 10 ^ k * (s + db.getD k 0 + c) = 10 ^ k * (da.getD k 0 + 10 * t) := by rw [hs]
    rw [Nat.mul_add, Nat.mul_add, Nat.mul_add, ← Nat.mul_assoc] at h2
    rw [vl_take_getD, vl_take_getD, vl_snoc, h.len, Nat.pow_succ]
    omega
theorem XInv.done {da db : List Nat} {c a b : Nat} {o : List Nat} (h : XInv da db da.length c o) (hA : Can 10 da a) (hB : Can 10 db b) (hle : b ≤ a) : vl 10 o = a - b := by
  have hlen : db.length ≤ da.length := (hB.fits (by omega) _).2 (Nat.lt_of_le_of_lt hle hA.upper)
  have h1 := h.val
  have h2 := vl_lt h.lt
  rw [List.take_of_length_le (Nat.le_refl _), List.take_of_length_le hlen, hA.val, hB.val] at h1
  rw [h.len] at h2
  have h3 := h.carry
  rcases Nat.lt_or_ge c 1 with q | q
  · obtain rfl : c = 0 := by omega
    omega
  · obtain rfl : c = 1 := by omega
    omega

set_option maxRecDepth 100000 in
set_option maxHeartbeats 8000000 in
/-- Sub of digits. -/
theorem refSub_c {w : World} {v1 v2 : Value} {da db F1 F2 : List Nat} {a b : Nat} (h1 : Dv w v1 da a F1) (h2 : Dv w v2 db b F2) (hl1 : da.length ≤ 10000) (hl2 : db.length ≤ 10000) (hle : b ≤ a) :
    Calls Tryd.prog 27 #[v1, v2] w fun e w' => ∃ v', e = .returned v' ∧ DNew w (a - b) w' v' := by
  obtain ⟨i0, hi, hz0, hz1, hz2⟩ := info_parts Tryd.info3
  obtain ⟨A1, cap1, rfl, hc1⟩ := h1.1.shape
  obtain ⟨A2, cap2, rfl, hc2⟩ := h2.1.shape
  have DA := Lib.hid h1
  have DB := Lib.hid h2
  have HLE := Lib.hid hle
  clear h1 h2 hc1 hc2 hle
  rw [List.length_map] at DA ⊢
  rw [List.length_map] at DB ⊢
  obtain ⟨na, hna⟩ : ∃ n, da.length = n := ⟨_, rfl⟩
  obtain ⟨nb, hnb⟩ : ∃ n, db.length = n := ⟨_, rfl⟩
  have HNA := Lib.hid hna
  have HNB := Lib.hid hnb
  rw [hna, hnb]
  rw [hna] at hl1 DA
  rw [hnb] at hl2 DB
  clear hna hnb
  go_enter Tryd.func27, Tryd.ntmps27
  go_wp2_with fail
  go_loopw [5, 7, 6] (fun v5 i v6 wr => ∃ (k c : Nat) (o : List Nat), i = .int .i64 k ∧ v6 = .int .i64 c ∧ k ≤ na ∧ Hid (XInv da db k c o) ∧ Hid (NewV 3 w (o.map ei) wr v5)) (fun _ i _ _ => na - (intOf i).toNat)
  case atStart => exact ⟨0, 0, [], rfl, rfl, Nat.zero_le _, ⟨by simp, rfl, by omega, by simp [vl]⟩, NewV.nil 3 (Mod.refl _ _)⟩
  case round =>
    obtain ⟨k, c, o, rfl, rfl, hk, HB, HN⟩ := hrel
    have HN5 := HN
    have hok := HB.out.len
    obtain ⟨Fo, so, mo, fo⟩ := HN.out
    obtain ⟨Ao, capo, rfl, hcapo⟩ := so.shape
    have e0 : (o.map ei).length = k := (List.length_map _).trans hok
    rw [e0] at so hcapo HN ⊢
    have SO := Lib.hid so
    have MO := Lib.hid mo
    have FO := Lib.hid fo
    have LO := Lib.hid e0
    clear so mo fo hcapo e0
    have hcc := HB.out.carry
    by_cases qa : (k : Int) < na
    · obtain ⟨b1, o1, rfl, d1⟩ := (DA.out.1.mod MO.out (by simp)).at k (by rw [List.length_map, HNA.out]; omega)
      have hxA : da.getD k 0 = da[k]'(by rw [HNA.out]; omega) := by rw [List.getD_eq_getElem?_getD, List.getElem?_eq_getElem]; rfl
      rw [List.getElem_map, ← hxA] at d1
      unfold ei at d1
      have hxl := getD_lt10 DA.out.2.lt k
      have hyl := getD_lt10 DB.out.2.lt k
      have CB := Lib.hid (fun w' (m : Mod [] w w') => at_c (DB.out.1.mod m (by simp)) k)
      have HMOD := Lib.hid (fun w' (m : Mod [] _ w') => MO.out.trans (S' := []) m (by simp))
      have ST0 := Lib.hid (fun s t => HB.out.step (s := s) (t := t))
      generalize da.getD k 0 = x at *
      generalize db.getD k 0 = y at *
      clear hxA
      by_cases hneg : (x : Int) - y - c < 0
      · obtain ⟨s, hs⟩ : ∃ s, x + 10 - y - c = s := ⟨_, rfl⟩
        have hsI : (x : Int) - y - c + 10 = s := by omega
        have ST := Lib.hid (ST0.out s 1 (by omega) (by omega) (by omega))
        clear hs ST0
        clear HN HN5 HB hok
        go_wp2_with fail
        go_region_with (go_at_call 39; refine (CB.out _ (by exact HMOD.out _ (by (repeat (first | exact Mod.refl _ _ | apply Mod.drew | apply Mod.drewN | apply Mod.alloc | refine Mod.setCell ?_ _ _ (by first | simp | (simp; omega))))))).mono ?_; rintro e w' ⟨rfl, rfl⟩)
        all_goals
          go_wp2_with (at_builtin; refine wpList_append_sl _ rfl _ _ 28 rfl 3 i0 (.int .i64 0) 1 8 Tryd.underlying28 hi hz0 hz1 hz2 rfl (by decide) _ k (o.map ei) Fo rfl (SO.out.mod (S := []) (by (repeat (first | exact Mod.refl _ _ | apply Mod.drew | apply Mod.drewN | apply Mod.alloc | refine Mod.setCell ?_ _ _ (by first | simp | (simp; omega))))) (by simp)) ⟨_, 0, none⟩ 1 1 [ei s] (by decide) rfl rfl (by intro j u hu; exact list_new_at _ _ _ _ (by simp) j u hu) (by intro u hu; simp at hu; subst hu; rfl) (by unfold maxLen; omega) (by omega) ?_; intro v5 w5 F5 hs5 hm5 hf5; have N5 := Lib.hid (NewV.app (l := o.map ei) (l2 := [ei s]) MO.out FO.out LO.out rfl (by (repeat (first | exact Mod.refl _ _ | apply Mod.drew | apply Mod.drewN | apply Mod.alloc | refine Mod.setCell ?_ _ _ (by first | simp | (simp; omega))))) hs5 hm5 hf5); obtain ⟨a5, cap5, rfl, _⟩ := hs5.shape; clear hs5 hm5 hf5)
          refine ⟨⟨k + 1, _, o ++ [s], by go_num, rfl, by omega, ST.out, ?_⟩, by simp [intOf]; omega⟩
          show NewV _ _ _ _ _
          rw [List.map_append]
          exact N5.out
      · obtain ⟨s, hs⟩ : ∃ s, x - y - c = s := ⟨_, rfl⟩
        have hsI : (x : Int) - y - c = s := by omega
        have hnn : ¬ (s : Int) < 0 := by omega
        have ST := Lib.hid (ST0.out s 0 (by omega) (by omega) (by omega))
        clear hs ST0
        clear HN HN5 HB hok
        go_wp2_with fail
        go_region_with (go_at_call 39; refine (CB.out _ (by exact HMOD.out _ (by (repeat (first | exact Mod.refl _ _ | apply Mod.drew | apply Mod.drewN | apply Mod.alloc | refine Mod.setCell ?_ _ _ (by first | simp | (simp; omega))))))).mono ?_; rintro e w' ⟨rfl, rfl⟩)
        all_goals
          go_wp2_with (at_builtin; refine wpList_append_sl _ rfl _ _ 28 rfl 3 i0 (.int .i64 0) 1 8 Tryd.underlying28 hi hz0 hz1 hz2 rfl (by decide) _ k (o.map ei) Fo rfl (SO.out.mod (S := []) (by (repeat (first | exact Mod.refl _ _ | apply Mod.drew | apply Mod.drewN | apply Mod.alloc | refine Mod.setCell ?_ _ _ (by first | simp | (simp; omega))))) (by simp)) ⟨_, 0, none⟩ 1 1 [ei s] (by decide) rfl rfl (by intro j u hu; exact list_new_at _ _ _ _ (by simp) j u hu) (by intro u hu; simp at hu; subst hu; rfl) (by unfold maxLen; omega) (by omega) ?_; intro v5 w5 F5 hs5 hm5 hf5; have N5 := Lib.hid (NewV.app (l := o.map ei) (l2 := [ei s]) MO.out FO.out LO.out rfl (by (repeat (first | exact Mod.refl _ _ | apply Mod.drew | apply Mod.drewN | apply Mod.alloc | refine Mod.setCell ?_ _ _ (by first | simp | (simp; omega))))) hs5 hm5 hf5); obtain ⟨a5, cap5, rfl, _⟩ := hs5.shape; clear hs5 hm5 hf5)
          refine ⟨⟨k + 1, _, o ++ [s], by go_num, rfl, by omega, ST.out, ?_⟩, by simp [intOf]; omega⟩
          show NewV _ _ _ _ _
          rw [List.map_append]
          exact N5.out
    · obtain rfl : k = na := by omega
      have hv := XInv.done (by rw [HNA.out]; exact HB.out) DA.out.2 DB.out.2 HLE.out
      have TC := Lib.hid (trim_c (Rv.of_sl SO.out LO.out.symm) HB.out.lt (by rw [hok]; omega))
      rw [hv] at TC
      clear HN HN5 HB hok hv
      go_wp2_with fail
      refine TC.out.mono ?_
      rintro e w' ⟨hw, v', d, rfl, hd⟩
      subst hw
      have HD := Lib.hid hd
      clear hd
      go_wp2
      go_ret
      exact ⟨_, rfl, MO.out, d, Fo, HD.out, FO.out⟩
end Go.Proofs.YtkldjllnnbablaaDoor

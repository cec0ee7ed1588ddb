/- The reference's digits: what reads as digits; at, trim, Double. -/
import Derived.Test.YtkldjllnnbablaaDoorL
set_option linter.unusedVariables false
set_option linter.unusedSimpArgs false
namespace Go.Proofs.YtkldjllnnbablaaDoor
open Go.RowKit Go.Shelf

def ei (x : Nat) : Value := .int .i64 (x : Int)
theorem ei_one (l : List Nat) : ∀ u ∈ l.map ei, u.oneCell' = true := by
  intro u hu
  obtain ⟨x, _, rfl⟩ := List.mem_map.1 hu
  rfl
theorem Tryd.info3 : (Tryd.prog.info? 3).map (fun i => (i.zero, i.size, i.bytes)) = some (some (.int .i64 0), 1, 8) := by kernel_rfl

/-- v reads as the digits d of n. -/
def Dv (w : World) (v : Value) (d : List Nat) (n : Nat) (F : List Nat) : Prop := Rv w v (d.map ei) F ∧ Can 10 d n
theorem Dv.mod {S : List Nat} {w w' : World} {v : Value} {d F : List Nat} {n : Nat} (h : Dv w v d n F) (m : Mod S w w') (hd : ∀ k ∈ F, k ∉ S) : Dv w' v d n F := ⟨h.1.mod m hd, h.2⟩
/-- v' reads as n's digits, in blocks that w had not. -/
def DNew (w : World) (n : Nat) (w' : World) (v' : Value) : Prop := Mod [] w w' ∧ ∃ d F, Dv w' v' d n F ∧ ∀ k ∈ F, w.heap.size ≤ k
theorem DNew.later {w w1 w2 : World} {n : Nat} {v : Value} (h : DNew w n w1 v) (m : Mod [] w1 w2) : DNew w n w2 v := by
  obtain ⟨hm, d, F, hd, hf⟩ := h
  exact ⟨hm.trans m (by simp), d, F, hd.mod m (by simp), hf⟩
theorem DNew.after {w0 w w' : World} {n : Nat} {v' : Value} (h : DNew w n w' v') (m : Mod [] w0 w) : DNew w0 n w' v' := by
  obtain ⟨hm, d, F, hd, hf⟩ := h
  exact ⟨m.trans hm (by simp), d, F, hd, fun k hk => Nat.le_trans m.size (hf k hk)⟩
theorem DNew.of_new {w w' : World} {n : Nat} {v' : Value} {d : List Nat} (h : NewV 3 w (d.map ei) w' v') (hc : Can 10 d n) : DNew w n w' v' := by
  obtain ⟨F, hr, hf⟩ := h.rv
  exact ⟨h.mod, d, F, ⟨hr, hc⟩, hf⟩
/-- Digits of a number that is great enough for their count. -/
theorem Can.of_lower {b : Nat} {l : List Nat} (h : ∀ x ∈ l, x < b) (hl : l ≠ [] → b ^ (l.length - 1) ≤ vl b l) : Can b l (vl b l) := by
  refine ⟨h, rfl, fun x hx hx0 => ?_⟩
  subst hx0
  rcases List.eq_nil_or_concat l with rfl | ⟨p, y, rfl⟩
  · simp at hx
  · rw [List.concat_eq_append] at *
    simp at hx
    subst hx
    have h1 := hl (by simp)
    have h2 := vl_lt (l := p) (fun x hx => h x (by simp [hx]))
    rw [vl_snoc] at h1
    simp at h1
    omega

theorem at_c {w : World} {v : Value} {d F : List Nat} (h : Rv w v (d.map ei) F) (i : Nat) : Calls Tryd.prog 39 #[v, .int .i64 i] w fun e w' => e = .returned (.int .i64 (d.getD i 0 : Nat)) ∧ w' = w := by
  obtain ⟨A, cap, rfl, hc⟩ := h.shape
  have H := Lib.hid h
  rw [List.length_map] at H hc ⊢
  obtain ⟨n, hn⟩ : ∃ n, d.length = n := ⟨_, rfl⟩
  rw [hn] at H hc ⊢
  by_cases q : (i : Int) < n
  · have e : d.getD i 0 = d[i]'(by omega) := by rw [List.getD_eq_getElem?_getD, List.getElem?_eq_getElem (by omega)]; rfl
    obtain ⟨b1, o1, rfl, d1⟩ := H.out.at i (by rw [List.length_map]; omega)
    rw [List.getElem_map, ← e] at d1
    unfold ei at d1
    generalize d.getD i 0 = x at *
    clear h e hn
    go_enter Tryd.func39, Tryd.ntmps39
    go_wp2
    go_ret
    exact ⟨rfl, rfl⟩
  · have e : d.getD i 0 = 0 := by rw [List.getD_eq_getElem?_getD, List.getElem?_eq_none (by omega)]; rfl
    rw [e]
    clear h hn e
    go_enter Tryd.func39, Tryd.ntmps39
    go_wp2
    go_ret
    exact ⟨rfl, rfl⟩

set_option maxHeartbeats 1000000 in
/-- trim. -/
theorem trim_c {w : World} {v : Value} {l F : List Nat} (h : Rv w v (l.map ei) F) (hlt : ∀ x ∈ l, x < 10) (hl : l.length ≤ 100000) :
    Calls Tryd.prog 40 #[v] w fun e w' => w' = w ∧ ∃ v' d, e = .returned v' ∧ Dv w v' d (vl 10 l) F := by
  obtain ⟨A, cap, rfl, hc⟩ := h.shape
  have H := Lib.hid h
  have HL := Lib.hid hlt
  clear h hlt
  rw [List.length_map] at H hc ⊢
  obtain ⟨n, hn⟩ : ∃ n, l.length = n := ⟨_, rfl⟩
  rw [hn] at H hc hl ⊢
  have HN := Lib.hid hn
  clear hn
  go_enter Tryd.func40, Tryd.ntmps40
  go_wp2_with fail
  go_loopw [3] (fun i wr => ∃ k : Nat, i = .int .i64 k ∧ k ≤ n ∧ Hid (vl 10 (l.take k) = vl 10 l) ∧ wr = w) (fun i _ => (intOf i).toNat)
  case atStart => exact ⟨n, rfl, Nat.le_refl _, by show _ = _; rw [List.take_of_length_le (by rw [HN.out]; exact Nat.le_refl _)], rfl⟩
  case round =>
    obtain ⟨k, rfl, hk, HV, rfl⟩ := hrel
    have fin : Hid (k = 0 ∨ (∃ h : k - 1 < l.length, l[k - 1] ≠ 0) → Dv wr (.slice A k cap) (l.take k) (vl 10 l) F) := fun hz => by
      have hc2 := Can.norm HL.out (by rw [HN.out]; exact hk) HV.out hz
      have hr := H.out.take k hk
      rw [← List.map_take] at hr
      exact ⟨hr, hc2⟩
    by_cases h0 : 0 < k
    · obtain ⟨j, rfl⟩ : ∃ j, k = j + 1 := ⟨k - 1, by omega⟩
      have hj : j < l.length := by rw [HN.out]; omega
      obtain ⟨b1, o1, rfl, d1⟩ := H.out.at j (by rw [List.length_map]; exact hj)
      rw [List.getElem_map] at d1
      unfold ei at d1
      by_cases hz : l[j] = 0
      · rw [hz] at d1
        have HV2 : Hid (vl 10 (l.take j) = vl 10 l) := norm_step hj HV.out hz
        clear hz
        go_wp2_with fail
        go_roundw
        case rel => exact ⟨j, by go_num, by omega, HV2, by first | rfl | trivial⟩
        case measure => simp [intOf]
      · have hzb : (((l[j] : Nat) : Int) == 0) = false := by rw [beq_eq_false_iff_ne]; omega
        have FIN := Lib.hid (fin.out (.inr ⟨hj, hz⟩))
        clear fin hz
        generalize (l[j] : Int) = x at *
        go_wp2
        go_ret
        exact ⟨rfl, _, _, rfl, FIN.out⟩
    · obtain rfl : k = 0 := by omega
      have FIN := Lib.hid (fin.out (.inl rfl))
      clear fin
      go_wp2
      go_ret
      exact ⟨rfl, _, _, rfl, FIN.out⟩

/-- What Double's loop keeps. -/
structure BInv (d : List Nat) (c0 k c : Nat) (o : List Nat) : Prop where
  lt : ∀ x ∈ o, x < 10
  len : o.length = k
  carry : c ≤ 1
  val : vl 10 o + 10 ^ k * c = 2 * vl 10 (d.take k) + c0
theorem BInv.step {d o : List Nat} {c0 k c : Nat} (h : BInv d c0 k c o) (hlt : ∀ x ∈ d, x < 10) (hk : k < d.length) : BInv d c0 (k + 1) ((2 * d.getD k 0 + c) / 10) (o ++ [(2 * d.getD k 0 + c) % 10]) := by
  have hx : d.getD k 0 < 10 := by rw [List.getD_eq_getElem?_getD, List.getElem?_eq_getElem hk]; exact hlt _ (List.getElem_mem _)
  have hc := h.carry
  refine ⟨fun y hy => ?_, by simp [h.len], by omega, ?_⟩
  · rcases List.mem_append.1 hy with q | q
    · exact h.lt y q
    · simp at q; omega
  · have hv := h.val
    rw [vl_take_getD, vl_snoc, h.len, Nat.pow_succ]
    have e : 10 ^ k * ((2 * d.getD k 0 + c) % 10 + 10 * ((2 * d.getD k 0 + c) / 10)) = 10 ^ k * (2 * d.getD k 0 + c) := by rw [Nat.mod_add_div]
    rw [Nat.mul_add, Nat.mul_add, ← Nat.mul_assoc, Nat.mul_left_comm] at e
    rw [Nat.mul_add]
    omega
theorem BInv.done {d o : List Nat} {c0 n c : Nat} (h : BInv d c0 d.length c o) (hd : Can 10 d n) : (c = 0 → Can 10 o (2 * n + c0)) ∧ (c ≠ 0 → Can 10 (o ++ [c]) (2 * n + c0)) := by
  have hv := h.val
  rw [List.take_of_length_le (Nat.le_refl _), hd.val] at hv
  have hc := h.carry
  constructor
  · intro q
    subst q
    rw [← hv, Nat.mul_zero, Nat.add_zero]
    refine Can.of_lower h.lt fun hne => ?_
    have h1 := hd.lower (by intro e; rw [e] at h; exact hne (List.length_eq_zero_iff.1 h.len))
    rw [h.len]
    omega
  · intro q
    obtain rfl : c = 1 := by omega
    rw [← hv]
    have e : vl 10 o + 10 ^ d.length * 1 = vl 10 (o ++ [1]) := by rw [vl_snoc, h.len]
    rw [e]
    refine ⟨fun y hy => ?_, rfl, fun y hy => by simp at hy; omega⟩
    rcases List.mem_append.1 hy with q2 | q2
    · exact h.lt y q2
    · simp at q2; omega

set_option maxRecDepth 100000 in
set_option maxHeartbeats 4000000 in
/-- Double. -/
theorem double_c {w : World} {v : Value} {d F : List Nat} {n : Nat} (h : Dv w v d n F) (hl : d.length ≤ 100000) (c0 : Nat) (hc0 : c0 ≤ 1) :
    Calls Tryd.prog 30 #[v, .int .i64 c0] w fun e w' => ∃ v', e = .returned v' ∧ DNew w (2 * n + c0) w' v' := by
  obtain ⟨i0, hi, hz0, hz1, hz2⟩ := info_parts Tryd.info3
  obtain ⟨A, cap, rfl, hc⟩ := h.1.shape
  have H := Lib.hid h
  clear h
  rw [List.length_map] at H hc ⊢
  obtain ⟨len, hn⟩ : ∃ n, d.length = n := ⟨_, rfl⟩
  rw [hn] at H hc hl ⊢
  have HLEN := Lib.hid hn
  clear hn
  go_enter Tryd.func30, Tryd.ntmps30
  go_wp2_with fail
  go_loopw [5, 6, 1] (fun v5 i v1 wr => ∃ (k c : Nat) (o : List Nat), i = .int .i64 k ∧ v1 = .int .i64 c ∧ k ≤ len ∧ Hid (BInv d c0 k c o) ∧ Hid (NewV 3 w (o.map ei) wr v5)) (fun _ i _ _ => len - (intOf i).toNat)
  case atStart => exact ⟨0, c0, [], rfl, rfl, Nat.zero_le _, ⟨by simp, rfl, hc0, by simp [vl]⟩, NewV.nil 3 (Mod.refl _ _)⟩
  case round =>
    obtain ⟨k, c, o, rfl, rfl, hk, HB, HN5⟩ := hrel
    have HN := HN5
    have hok := HB.out.len
    obtain ⟨Fo, so, mo, fo⟩ := HN.out
    obtain ⟨Ao, capo, rfl, hcapo⟩ := so.shape
    have e0 : (o.map ei).length = k := (List.length_map _).trans hok
    rw [e0] at so hcapo HN ⊢
    have SO := Lib.hid so
    have MO := Lib.hid mo
    have FO := Lib.hid fo
    have LO := Lib.hid e0
    clear so mo fo hcapo e0
    have hcc := HB.out.carry
    by_cases hkl : k < len
    · obtain ⟨b1, o1, rfl, d1⟩ := (H.out.1.mod MO.out (by simp)).at k (by rw [List.length_map, HLEN.out]; exact hkl)
      have hxA : d.getD k 0 = d[k]'(by rw [HLEN.out]; exact hkl) := by rw [List.getD_eq_getElem?_getD, List.getElem?_eq_getElem]; rfl
      rw [List.getElem_map, ← hxA] at d1
      unfold ei at d1
      have hx10 : d.getD k 0 < 10 := by rw [hxA]; exact H.out.2.lt _ (List.getElem_mem _)
      have ST := Lib.hid (HB.out.step H.out.2.lt (by rw [HLEN.out]; exact hkl))
      generalize d.getD k 0 = x at *
      obtain ⟨s, hs⟩ : ∃ s, (2 * x + c) % 10 = s := ⟨_, rfl⟩
      obtain ⟨t, ht⟩ : ∃ t, (2 * x + c) / 10 = t := ⟨_, rfl⟩
      have hsI : (2 * (x : Int) + c) % 10 = s := by omega
      have htI : (2 * (x : Int) + c) / 10 = t := by omega
      rw [hs, ht] at ST
      clear hxA hs ht HN HN5 HB hok
      go_wp2_with (at_builtin; refine wpList_append_sl _ rfl _ _ 28 rfl 3 i0 (.int .i64 0) 1 8 Tryd.underlying28 hi hz0 hz1 hz2 rfl (by decide) _ k (o.map ei) Fo rfl (SO.out.mod (S := []) (by (repeat (first | exact Mod.refl _ _ | apply Mod.drew | apply Mod.drewN | apply Mod.alloc | refine Mod.setCell ?_ _ _ (by first | simp | (simp; omega))))) (by simp)) ⟨_, 0, none⟩ 1 1 [ei s] (by decide) rfl rfl (by intro j u hu; exact list_new_at _ _ _ _ (by simp) j u hu) (by intro u hu; simp at hu; subst hu; rfl) (by unfold maxLen; omega) (by omega) ?_; intro v5 w5 F5 hs5 hm5 hf5; have N5 := Lib.hid (NewV.app (l := o.map ei) (l2 := [ei s]) MO.out FO.out LO.out rfl (by (repeat (first | exact Mod.refl _ _ | apply Mod.drew | apply Mod.drewN | apply Mod.alloc | refine Mod.setCell ?_ _ _ (by first | simp | (simp; omega))))) hs5 hm5 hf5); obtain ⟨a5, cap5, rfl, _⟩ := hs5.shape; clear hs5 hm5 hf5)
      refine ⟨⟨k + 1, t, o ++ [s], by go_num, by rw [htI], by omega, ST.out, ?_⟩, by simp [intOf]; omega⟩
      show NewV _ _ _ _ _
      rw [List.map_append]
      exact N5.out
    · obtain rfl : k = len := by omega
      have HD := Lib.hid (BInv.done (by rw [HLEN.out]; exact HB.out) H.out.2)
      by_cases hc1 : c = 0
      · have R := Lib.hid (DNew.of_new HN.out (HD.out.1 hc1))
        have hcz : ¬ (c : Int) > 0 := by omega
        clear hc1 HN HN5 HB HD hok
        go_wp2
        go_ret
        exact ⟨_, rfl, R.out⟩
      · have K2 := Lib.hid (HD.out.2 hc1)
        have hcz : (c : Int) > 0 := by omega
        clear hc1 HN HN5 HB HD hok
        go_wp2_with (at_builtin; refine wpList_append_sl _ rfl _ _ 28 rfl 3 i0 (.int .i64 0) 1 8 Tryd.underlying28 hi hz0 hz1 hz2 rfl (by decide) _ k (o.map ei) Fo rfl (SO.out.mod (S := []) (by (repeat (first | exact Mod.refl _ _ | apply Mod.drew | apply Mod.drewN | apply Mod.alloc | refine Mod.setCell ?_ _ _ (by first | simp | (simp; omega))))) (by simp)) ⟨_, 0, none⟩ 1 1 [ei c] (by decide) rfl rfl (by intro j u hu; exact list_new_at _ _ _ _ (by simp) j u hu) (by intro u hu; simp at hu; subst hu; rfl) (by unfold maxLen; omega) (by omega) ?_; intro v5 w5 F5 hs5 hm5 hf5; have N5 := Lib.hid (NewV.app (l := o.map ei) (l2 := [ei c]) MO.out FO.out LO.out rfl (by (repeat (first | exact Mod.refl _ _ | apply Mod.drew | apply Mod.drewN | apply Mod.alloc | refine Mod.setCell ?_ _ _ (by first | simp | (simp; omega))))) hs5 hm5 hf5); obtain ⟨a5, cap5, rfl, _⟩ := hs5.shape; clear hs5 hm5 hf5)
        go_ret
        exact ⟨_, rfl, DNew.of_new (by rw [List.map_append]; exact N5.out) K2.out⟩
end Go.Proofs.YtkldjllnnbablaaDoor

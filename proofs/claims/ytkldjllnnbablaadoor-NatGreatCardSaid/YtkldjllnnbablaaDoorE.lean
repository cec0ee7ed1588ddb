/- Sub. -/
import Derived.Test.YtkldjllnnbablaaDoorD
set_option linter.unusedVariables false
set_option linter.unusedSimpArgs false
namespace Go.Proofs.YtkldjllnnbablaaDoor
open Go.RowKit Go.Shelf

theorem getD_lt {l : List Nat} (h : ∀ x ∈ l, x < B64) (k : Nat) : l.getD k 0 < B64 := by
  rw [List.getD_eq_getElem?_getD]
  by_cases q : k < l.length
  · rw [List.getElem?_eq_getElem q]; exact h _ (List.getElem_mem _)
  · rw [List.getElem?_eq_none (by omega)]; unfold B64; simp

theorem sub_step (o : List Nat) (k x y c s t va vb : Nat) (ho : o.length = k) (h : vl B64 o + vb = va + B64 ^ k * c) (hs : s + y + c = x + B64 * t) :
    vl B64 (o ++ [s]) + (vb + B64 ^ k * y) = (va + B64 ^ k * x) + B64 ^ (k + 1) * t := by
  have h2 : B64 ^ k * (s + y + c) = B64 ^ k * (x + B64 * t) := by rw [hs]
  rw [Nat.mul_add, Nat.mul_add, Nat.mul_add, ← Nat.mul_assoc] at h2
  rw [vl_snoc, ho, Nat.pow_succ]
  omega
/-- What a difference's loop keeps. -/
structure SInv (w1 : World) (v : Value) (F : List Nat) (mA mB : List Nat) (wr : World) (k c : Nat) (o : List Nat) : Prop where
  lt : ∀ x ∈ o, x < B64
  len : o.length = k
  carry : c ≤ 1
  val : vl B64 o + vl B64 (mB.take k) = vl B64 (mA.take k) + B64 ^ k * c
  sl : Sl wr 23 1 v mA.length ((o ++ mA.drop k).map e6) F
  mod : Mod F w1 wr
theorem SInv.step {w1 wr : World} {g cap k c n : Nat} {F mA mB o : List Nat} (h : SInv w1 (.slice (some ⟨g, 0, none⟩) n cap) F mA mB wr k c o) (hn : mA.length = n) (hk : k < n) (hA : ∀ x ∈ mA, x < B64) (hB : ∀ x ∈ mB, x < B64) :
    SInv w1 (.slice (some ⟨g, 0, none⟩) n cap) F mA mB (wr.setCell ⟨g, k, none⟩ (e6 ((mA.getD k 0 + B64 - mB.getD k 0 - c) % B64))) (k + 1) (if mA.getD k 0 < mB.getD k 0 + c then 1 else 0) (o ++ [(mA.getD k 0 + B64 - mB.getD k 0 - c) % B64]) := by
  subst hn
  have h1 := getD_lt hA k
  have h2 := getD_lt hB k
  have h3 := h.carry
  have hF := h.sl.block
  have hlt : ∀ x, x % B64 < B64 := fun x => Nat.mod_lt _ (by unfold B64; omega)
  refine ⟨fun y hy => ?_, by simp [h.len], by split <;> omega, ?_, ?_, h.mod.setCell _ _ (fun _ => by rw [hF]; simp)⟩
  · rcases List.mem_append.1 hy with q | q
    · exact h.lt y q
    · simp at q; rw [q]; exact hlt _
  · rw [vl_take_getD, vl_take_getD]
    refine sub_step o k _ _ c _ _ _ _ h.len h.val ?_
    unfold B64 at *
    split <;> omega
  · have h4 := h.sl.set k (e6 ((mA.getD k 0 + B64 - mB.getD k 0 - c) % B64))
    have e : (o ++ mA.drop k).set k ((mA.getD k 0 + B64 - mB.getD k 0 - c) % B64) = (o ++ [(mA.getD k 0 + B64 - mB.getD k 0 - c) % B64]) ++ mA.drop (k + 1) := by
      rw [List.set_append_right _ _ (by rw [h.len]; exact Nat.le_refl _), h.len, Nat.sub_self, List.drop_eq_getElem_cons hk, List.set_cons_zero]
      simp
    rw [← List.map_set, e] at h4
    exact h4
theorem SInv.at {w1 wr : World} {g cap k c n : Nat} {F mA mB o : List Nat} (h : SInv w1 (.slice (some ⟨g, 0, none⟩) n cap) F mA mB wr k c o) (hn : mA.length = n) (hk : k < n) : wr.cell? ⟨g, k, none⟩ = some (.int .u64 (mA.getD k 0 : Nat)) ∧ wr.frozen? ⟨g, k, none⟩ = false := by
  subst hn
  have h1 := h.sl.at k (by omega)
  refine ⟨?_, h1.2.1⟩
  rw [h1.1, List.getElem?_map, List.getElem?_append_right (by rw [h.len]; exact Nat.le_refl _), h.len, Nat.sub_self, List.getElem?_drop, List.getD_eq_getElem?_getD, Nat.add_zero, List.getElem?_eq_getElem hk]
  rfl
/-- At its end. -/
theorem SInv.done {w1 wr : World} {v : Value} {c va vb : Nat} {F mA mB o : List Nat} (h : SInv w1 v F mA mB wr mA.length c o) (kA : Can B64 mA va) (kB : Can B64 mB vb) (hle : vb ≤ va) : vl B64 o = va - vb ∧ Rv wr v (o.map e6) F := by
  have hlen : mB.length ≤ mA.length := (kB.fits one_lt_B _).2 (Nat.lt_of_le_of_lt hle kA.upper)
  have h1 := h.val
  have h2 := vl_lt h.lt
  rw [List.take_of_length_le (Nat.le_refl _), List.take_of_length_le hlen, kA.val, kB.val] at h1
  rw [h.len] at h2
  have h3 := h.carry
  have h4 := h.sl
  rw [List.drop_of_length_le (Nat.le_refl _), List.append_nil] at h4
  refine ⟨?_, Rv.of_sl h4 (by rw [List.length_map, h.len])⟩
  rcases Nat.lt_or_ge c 1 with q | q
  · have : c = 0 := by omega
    subst this
    omega
  · have : c = 1 := by omega
    subst this
    omega

set_option maxRecDepth 100000 in
set_option maxHeartbeats 4000000 in
/-- Sub. -/
theorem sub_c {w : World} {v1 v2 : Value} {l1 l2 F1 F2 : List Nat} (h1 : Nv w v1 l1 F1) (h2 : Nv w v2 l2 F2) (hl1 : l1.length ≤ 100000) (hl2 : l2.length ≤ 100000) :
    Calls Tryd.prog 25 #[v1, v2] w fun e w' => Told w (decide (vl B64 l1 < lim) && decide (vl B64 l2 ≤ vl B64 l1)) (vl B64 l1 - vl B64 l2) e w' := by
  have CB := Lib.hid (both_c h1 h2 hl1 hl2)
  have RA := Lib.hid run_Sub64
  generalize vl B64 l1 = va at *
  generalize vl B64 l2 = vb at *
  clear h1 h2 hl1 hl2
  go_enter Tryd.func25, Tryd.ntmps25
  go_wp2_with fail
  refine CB.out.mono ?_
  rintro e w1 ⟨A1, A2, c1, c2, m1, m2, rfl, k1, k2, n1, -, F1', s1, f1, F2', r2, f2⟩
  have MM := Lib.hid n1.mod
  have K1 := Lib.hid k1
  have K2 := Lib.hid k2
  have S1 := Lib.hid s1
  have R2 := Lib.hid r2
  have FF1 := Lib.hid f1
  have FF2 := Lib.hid f2
  clear CB n1 k1 k2 s1 r2 f1 f2
  obtain ⟨ok, hok⟩ : ∃ q, (decide (va < lim) && decide (vb < lim)) = q := ⟨_, rfl⟩
  have OK := Lib.hid hok
  rw [hok]
  clear hok
  cases ok with
  | false =>
    have NO : Hid ((decide (va < lim) && decide (vb ≤ va)) = false) := by
      have h := OK.out
      rw [Bool.and_eq_false_iff, decide_eq_false_iff_not, decide_eq_false_iff_not] at h
      show _ = _
      rw [Bool.and_eq_false_iff, decide_eq_false_iff_not, decide_eq_false_iff_not]
      omega
    go_wp2
    go_ret2
    exact .inr ⟨NO.out, rfl, MM.out⟩
  | true =>
    have B1 : Hid (m1.length ≤ 64) := by
      have h := OK.out
      rw [Bool.and_eq_true, decide_eq_true_iff, decide_eq_true_iff] at h
      exact K1.out.fits64.2 h.1
    have B2 : Hid (m2.length ≤ 64) := by
      have h := OK.out
      rw [Bool.and_eq_true, decide_eq_true_iff, decide_eq_true_iff] at h
      exact K2.out.fits64.2 h.2
    have VL : Hid (decide (va < lim) = true) := by
      have h := OK.out
      rw [Bool.and_eq_true] at h
      exact h.1
    have CC := Lib.hid (cmp_c (w := w1) ⟨Rv.of_sl S1.out (List.length_map _).symm, K1.out.lt⟩ ⟨R2.out, K2.out.lt⟩ (by have := B1.out; omega) (by have := B2.out; omega))
    rw [K1.out.val, K2.out.val] at CC
    clear OK
    obtain ⟨n1, hn1⟩ : ∃ q, m1.length = q := ⟨_, rfl⟩
    obtain ⟨n2, hn2⟩ : ∃ q, m2.length = q := ⟨_, rfl⟩
    rw [hn1] at B1
    rw [hn2] at B2
    have b1 := B1.out
    have b2 := B2.out
    rw [hn1] at S1
    rw [hn2] at R2
    rw [hn1, hn2] at CC ⊢
    have HN1 := Lib.hid hn1
    have HN2 := Lib.hid hn2
    clear hn1 hn2 B1 B2
    by_cases hs : va < vb
    · have hneg : Hid (cmpN va vb = -1) := by show _ = _; unfold cmpN; rw [if_pos hs]
      have NO : Hid ((decide (va < lim) && decide (vb ≤ va)) = false) := by
        show _ = _
        rw [Bool.and_eq_false_iff, decide_eq_false_iff_not, decide_eq_false_iff_not]
        omega
      rw [hneg.out] at CC
      go_wp2_with fail
      refine CC.out.mono ?_
      rintro e w2 ⟨rfl, hm⟩
      have HM := Lib.hid hm
      clear hm CC
      go_wp2
      go_ret2
      exact .inr ⟨NO.out, rfl, MM.out.trans HM.out (by simp)⟩
    · have hle : Hid (vb ≤ va) := Nat.le_of_not_lt hs
      have VV : Hid ((decide (va < lim) && decide (vb ≤ va)) = decide (va - vb < lim)) := by
        have h := VL.out
        rw [decide_eq_true_iff] at h
        show _ = _
        rw [VL.out, decide_eq_true hle.out, decide_eq_true (by omega)]; rfl
      have hpos : Hid (decide (cmpN va vb < 0) = false) := by show _ = _; rw [cmpN_neg, decide_eq_false hs]
      obtain ⟨cv, hcv⟩ : ∃ q, cmpN va vb = q := ⟨_, rfl⟩
      rw [hcv] at CC hpos
      have hcn : ¬ cv < 0 := by simpa using hpos.out
      clear hcv hs hpos
      have fin : Hid (∀ (wq w3 wr : World) (o : List Nat) (c : Nat), Mod [] w1 w3 → SInv w3 (.slice A1 n1 c1) F1' m1 m2 wr n1 c o →
          Calls Tryd.prog 44 #[.slice A1 n1 c1] wr fun e w' => Told w (decide (va < lim) && decide (vb ≤ va)) (va - vb) e w') := fun wq w3 wr o c hm hi => by
        have hi2 := hi
        rw [← HN1.out] at hi2
        have hv := hi2.done K1.out K2.out hle.out
        have hl := hi.len
        rw [HN1.out] at hv
        have h3 := told_c ⟨hv.2, hi.lt⟩ (by omega)
        rw [hv.1] at h3
        rw [VV.out]
        have h4 : Mod F1' w1 wr := (hm.mono (S' := F1') (by simp)).trans' hi.mod
        exact h3.mono fun e w' h => h.after (MM.out.trans h4 (fun i hi hx => by have := FF1.out i hx; omega))
      go_wp2_with fail
      refine CC.out.mono ?_
      rintro e w2 ⟨rfl, hm⟩
      have HM := Lib.hid hm
      clear hm CC
      go_wp2_with fail
      go_loopw [27, 7] (fun i v7 wr => ∃ (k c : Nat) (o : List Nat), i = .int .i64 k ∧ v7 = .int .u64 c ∧ k ≤ n1 ∧ Hid (SInv w2 (.slice A1 n1 c1) F1' m1 m2 wr k c o)) (fun i _ _ => n1 - (intOf i).toNat)
      case atStart =>
        refine ⟨0, 0, [], rfl, rfl, Nat.zero_le _, ⟨by simp, rfl, by omega, by simp [vl], ?_, Mod.refl _ _⟩⟩
        rw [HN1.out]
        exact S1.out.mod HM.out (by simp)
      case round =>
        obtain ⟨k, c, o, rfl, rfl, hk, HI⟩ := hrel
        have hc := HI.out.carry
        have HR2 := Lib.hid (R2.out.mod ((HM.out.mono (S' := F1') (by simp)).trans' HI.out.mod) (fun k hk => (FF2.out k hk).2))
        by_cases hkA : k < n1
        · obtain ⟨g, rfl⟩ : ∃ g, A1 = some ⟨g, 0, none⟩ := by
            obtain ⟨g, cap, e, _⟩ := S1.out.pos (by omega)
            simp at e
            exact ⟨g, e.1⟩
          have hx := HI.out.at HN1.out hkA
          have x0 := hx.1
          have x1 := hx.2
          have st := Lib.hid (HI.out.step HN1.out hkA K1.out.lt K2.out.lt)
          have hlx := Lib.hid (getD_lt K1.out.lt k)
          obtain ⟨x, hxx⟩ : ∃ x, m1.getD k 0 = x := ⟨_, rfl⟩
          rw [hxx] at x0 st
          have RB := RA
          clear hx hxx HI RA
          by_cases hkB : k < n2
          · obtain ⟨b2, o2, rfl, d2⟩ := HR2.out.at k (by rw [List.length_map, HN2.out]; exact hkB)
            have hyB : m2.getD k 0 = m2[k]'(by rw [HN2.out]; exact hkB) := by rw [List.getD_eq_getElem?_getD, List.getElem?_eq_getElem]; rfl
            rw [List.getElem_map, ← hyB] at d2
            unfold e6 at d2
            obtain ⟨y, hyy⟩ : ∃ y, m2.getD k 0 = y := ⟨_, rfl⟩
            rw [hyy] at d2 st
            clear hyy hyB
            have ra := RB.out x y c hc
            obtain ⟨s, hs⟩ : ∃ s, (x + 18446744073709551616 - y - c) % 18446744073709551616 = s := ⟨_, rfl⟩
            obtain ⟨t, ht⟩ : ∃ t, (if x < y + c then 1 else 0 : Nat) = t := ⟨_, rfl⟩
            unfold B64 at st
            rw [hs, ht] at st ra
            clear hs ht RB
            go_wp2_with fail
            go_roundw
            case rel => exact ⟨k + 1, t, o ++ [s], by go_num, rfl, by omega, st.out⟩
            case measure => simp [intOf]; omega
          · have HY : Hid (m2.getD k 0 = 0) := by show _ = _; rw [List.getD_eq_getElem?_getD, List.getElem?_eq_none (by rw [HN2.out]; omega)]; rfl
            have ra := RB.out x 0 c hc
            rw [HY.out] at st
            obtain ⟨s, hs⟩ : ∃ s, (x + 18446744073709551616 - 0 - c) % 18446744073709551616 = s := ⟨_, rfl⟩
            obtain ⟨t, ht⟩ : ∃ t, (if x < 0 + c then 1 else 0 : Nat) = t := ⟨_, rfl⟩
            unfold B64 at st
            rw [hs, ht] at st ra
            clear hs ht RB
            replace ra : ∀ w, (callFunc 45 #[.int .u64 x, .int .u64 0, .int .u64 c]).run Tryd.prog w = .ok (.value (.tuple #[.int .u64 (s : Int), .int .u64 (t : Int)])) w := ra
            go_wp2_with fail
            go_roundw
            case rel => exact ⟨k + 1, t, o ++ [s], by go_num, rfl, by omega, st.out⟩
            case measure => simp [intOf]; omega
        · obtain rfl : k = n1 := by omega
          have FIN := Lib.hid (fin.out w w2 wr o c HM.out HI.out)
          clear fin HI RA
          go_wp2_with fail
          refine FIN.out.mono ?_
          rintro e w4 (⟨ht, v', rfl, hn⟩ | ⟨ht, rfl, hm⟩)
          · have HT := Lib.hid ht
            have HN := Lib.hid hn
            clear ht hn
            go_wp2
            go_ret2
            exact .inl ⟨HT.out, _, rfl, HN.out⟩
          · have HT := Lib.hid ht
            have HM := Lib.hid hm
            clear ht hm
            go_wp2
            go_ret2
            exact .inr ⟨HT.out, rfl, HM.out⟩
end Go.Proofs.YtkldjllnnbablaaDoor

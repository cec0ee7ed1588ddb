/- Of, Cmp. -/
import Derived.Test.YtkldjllnnbablaaDoorC
import Derived.BigQuiet
set_option linter.unusedVariables false
set_option linter.unusedSimpArgs false
namespace Go.Proofs.YtkldjllnnbablaaDoor
open Go.RowKit Go.Shelf

/-- How two numbers stand. -/
def cmpN (a b : Nat) : Int := if a < b then -1 else if b < a then 1 else 0
theorem cmpN_neg (a b : Nat) : decide (cmpN a b < 0) = decide (a < b) := by
  unfold cmpN
  split
  · rename_i h; simp [h]
  · rename_i h
    split
    · simp [h]
    · simp [h]

theorem Can.le {b n : Nat} {m l : List Nat} (hb : 1 < b) (h : Can b m n) (hl : ∀ x ∈ l, x < b) (e : vl b l = n) : m.length ≤ l.length := (h.fits hb _).2 (by rw [← e]; exact vl_lt hl)

set_option maxHeartbeats 1000000 in
theorem of_c (n : Nat) (hn : n < B64) (w : World) : Calls Tryd.prog 23 #[.int .u64 n] w fun e w' => ∃ v', e = .returned v' ∧ NNew w n w' v' := by
  have hv : vl B64 [n] = n := by simp [vl]
  have hs := Sl.lit w 23 1 1 #[.int .u64 n] (by unfold maxLen; omega) rfl
  have C1 := Lib.hid (norm_c (w := w.alloc (.cells #[.int .u64 n] 23)) (v := .slice (some ⟨w.heap.size, 0, none⟩) 1 1) (l := [n]) ⟨Rv.of_sl (l := [n].map e6) hs rfl, by simp; exact hn⟩ (by simp))
  rw [hv] at C1
  clear hv hs hn
  go_enter Tryd.func23, Tryd.ntmps23
  go_wp2_with fail
  refine C1.out.mono ?_
  rintro e w' ⟨v', rfl, hnn⟩
  have HNN := Lib.hid hnn
  clear hnn
  go_wp2
  go_ret
  exact ⟨_, rfl, HNN.out.after ((Mod.refl _ _).alloc _)⟩

set_option maxRecDepth 100000 in
set_option maxHeartbeats 2000000 in
/-- Cmp. -/
theorem cmp_c {w : World} {v1 v2 : Value} {l1 l2 F1 F2 : List Nat} (h1 : Nv w v1 l1 F1) (h2 : Nv w v2 l2 F2) (hl1 : l1.length ≤ 100000) (hl2 : l2.length ≤ 100000) :
    Calls Tryd.prog 19 #[v1, v2] w fun e w' => e = .returned (.int .i64 (cmpN (vl B64 l1) (vl B64 l2))) ∧ Mod [] w w' := by
  have C1 := Lib.hid (norm_c h1 hl1)
  have C2 := Lib.hid (fun (w' : World) (m : Mod [] w w') => norm_c (h2.mod m (by simp)) hl2)
  have LE : Hid (∀ m, Can B64 m (vl B64 l1) → m.length ≤ 100000) := fun m hm => Nat.le_trans (hm.le one_lt_B h1.2 rfl) hl1
  generalize vl B64 l1 = va at *
  generalize vl B64 l2 = vb at *
  clear h1 h2 hl1 hl2
  go_enter Tryd.func19, Tryd.ntmps19
  go_wp2_with fail
  refine C1.out.mono ?_
  rintro e w1 ⟨u1, rfl, m1, k1, n1⟩
  have N1 := Lib.hid n1
  have K1 := Lib.hid k1
  clear n1 k1 C1
  go_wp2_with fail
  refine (C2.out w1 N1.out.mod).mono ?_
  rintro e w2 ⟨u2, rfl, m2, k2, n2⟩
  have K2 := Lib.hid k2
  have M0 := Lib.hid n2.mod
  have MM := Lib.hid (N1.out.mod.trans n2.mod (by simp))
  obtain ⟨F2', r2, -⟩ := n2.rv
  obtain ⟨F1', r1, -⟩ := (N1.out.later M0.out).rv
  obtain ⟨A1, c1, rfl, -⟩ := r1.shape
  obtain ⟨A2, c2, rfl, -⟩ := r2.shape
  have E1 : (m1.map e6).length = m1.length := List.length_map _
  have E2 : (m2.map e6).length = m2.length := List.length_map _
  rw [E1] at r1 ⊢
  rw [E2] at r2 ⊢
  have R1 := Lib.hid r1
  have R2 := Lib.hid r2
  clear r1 r2 E1 E2 n2 k2 M0 N1 C2
  obtain ⟨n1, hn1⟩ : ∃ q, m1.length = q := ⟨_, rfl⟩
  obtain ⟨n2, hn2⟩ : ∃ q, m2.length = q := ⟨_, rfl⟩
  rw [hn1] at R1 ⊢
  rw [hn2] at R2 ⊢
  have HN1 := Lib.hid hn1
  have HN2 := Lib.hid hn2
  clear hn1 hn2
  by_cases hne : n1 = n2
  · subst hne
    have he : ((n1 : Int) != (n1 : Int)) = false := by simp
    have hb1 : n1 ≤ 100000 := by rw [← HN1.out]; exact LE.out _ K1.out
    go_wp2_with fail
    go_loopw [5] (fun i wr => ∃ k : Nat, i = .int .i64 ((k : Int) - 1) ∧ k ≤ n1 ∧ Hid (m1.drop k = m2.drop k) ∧ Hid (Mod [] w2 wr)) (fun i _ => (intOf i + 1).toNat)
    case atStart => exact ⟨n1, by go_num, Nat.le_refl _, by show _ = _; rw [List.drop_of_length_le (by rw [HN1.out]; exact Nat.le_refl _), List.drop_of_length_le (by rw [HN2.out]; exact Nat.le_refl _)], Mod.refl _ _⟩
    case round =>
      obtain ⟨k, hv, hk, HD, HM⟩ := hrel
      rcases k with _ | j
      · obtain rfl := hv
        have H : Hid (cmpN va vb = 0) := by
          have hd := HD.out
          rw [List.drop_zero, List.drop_zero] at hd
          show _ = _
          rw [← K1.out.val, ← K2.out.val, hd]
          unfold cmpN
          simp
        go_wp2
        go_ret
        exact ⟨by rw [H.out]; rfl, MM.out.trans HM.out (by simp)⟩
      · have hv2 := hv.trans (show Value.int .i64 (((j + 1 : Nat) : Int) - 1) = .int .i64 (j : Int) by congr 1; omega)
        clear hv
        subst hv2
        have h1 : j < m1.length := by rw [HN1.out]; omega
        have h2 : j < m2.length := by rw [HN2.out]; omega
        obtain ⟨b1, o1, rfl, d1⟩ := (R1.out.mod HM.out (by simp)).at j (by rw [List.length_map]; exact h1)
        obtain ⟨b2, o2, rfl, d2⟩ := (R2.out.mod HM.out (by simp)).at j (by rw [List.length_map]; exact h2)
        rw [List.getElem_map] at d1 d2
        unfold e6 at d1 d2
        have LT : Hid (m1[j] < m2[j] → cmpN va vb = -1) := fun q => by
          have := part_at K1.out.lt (by rw [HN1.out, HN2.out]) h1 HD.out q
          rw [K1.out.val, K2.out.val] at this
          unfold cmpN
          rw [if_pos this]
        have GT : Hid (m2[j] < m1[j] → cmpN va vb = 1) := fun q => by
          have := part_at K2.out.lt (by rw [HN1.out, HN2.out]) h2 HD.out.symm q
          rw [K1.out.val, K2.out.val] at this
          unfold cmpN
          rw [if_neg (by omega), if_pos this]
        have EQ : Hid (m1[j] = m2[j] → m1.drop j = m2.drop j) := fun q => by
          rw [List.drop_eq_getElem_cons h1, List.drop_eq_getElem_cons h2, q, HD.out]
        generalize m1[j] = x at *
        generalize m2[j] = y at *
        clear h1 h2
        by_cases q1 : (x : Int) < y
        · have HF := Lib.hid (LT.out (by omega))
          clear LT GT EQ
          go_wp2_with fail
          go_quiet (fail)
          go_wp2
          go_ret
          exact ⟨by rw [HF.out]; rfl, MM.out.trans (HM.out.drewN _) (by simp)⟩
        · by_cases q2 : (y : Int) < x
          · have HF := Lib.hid (GT.out (by omega))
            clear LT GT EQ
            go_wp2_with fail
            go_quiet (fail)
            go_wp2
            go_quiet (fail)
            go_wp2
            go_ret
            exact ⟨by rw [HF.out]; rfl, MM.out.trans ((HM.out.drewN _).drewN _) (by simp)⟩
          · have HE := Lib.hid (EQ.out (by omega))
            clear LT GT EQ
            go_wp2_with fail
            go_quiet (fail)
            go_wp2
            go_quiet (fail)
            go_wp2
            go_roundw
            case rel => exact ⟨j, by go_num, by omega, HE, HM.out.drewN _⟩
            case measure => simp [intOf]
  · by_cases hlt : (n1 : Int) < n2
    · have H : Hid (cmpN va vb = -1) := by
        have := K1.out.shorter one_lt_B K2.out (by rw [HN1.out, HN2.out]; omega)
        show _ = _
        unfold cmpN
        rw [if_pos this]
      have he : ((n1 : Int) != (n2 : Int)) = true := by simp; omega
      go_wp2
      go_ret
      exact ⟨by rw [H.out]; rfl, MM.out⟩
    · have H : Hid (cmpN va vb = 1) := by
        have := K2.out.shorter one_lt_B K1.out (by rw [HN1.out, HN2.out]; omega)
        show _ = _
        unfold cmpN
        rw [if_neg (by omega), if_pos this]
      have he : ((n1 : Int) != (n2 : Int)) = true := by simp; omega
      go_wp2
      go_ret
      exact ⟨by rw [H.out]; rfl, MM.out⟩
end Go.Proofs.YtkldjllnnbablaaDoor

/- Merge, called; the reference Merge. -/
import Derived.Test.YtchbgnfmmplinaaQ
import Derived.Test.YtchbgnfmmplinaaO
import Derived.Deep.QuietTactic
import Derived.BigQuiet
set_option linter.unusedVariables false
set_option linter.unusedSimpArgs false
namespace Go.Proofs.Ytchbgnfmmplinaa
open Go.RowKit Go.Shelf

set_option maxHeartbeats 1000000 in
/-- Merge, called. -/
theorem merge_c {sv : Value} {g : Nat} {lb : Array Value} (hsv : NoneTo sv g lb) {R : List Nat} {L : List Int} {w : World} (hs : Seq Try.prog g lb ei R L w) {v : Value} {l : List Int} {F : List Nat} (h : Rv w v (l.map ei) F) (hl : l.length ≤ 100000) :
    Calls Try.prog 22 #[sv, v] w fun e w' => ∃ lb', e = .returned (.func (.func 32) #[] lb') ∧ (∃ R', Seq Try.prog 32 lb' ei R' (mgL L l) w' ∧ ∀ k ∈ R', k ∈ R ∨ w.heap.size ≤ k) ∧ Mod [] w w' := by
  obtain ⟨A, cap, rfl, hc⟩ := h.shape
  have CC := Lib.hid (clone_c (h.mod (w' := (w.alloc (.cells #[sv] 26)).alloc (.cells #[.slice A (l.map ei).length cap] 23)) (S := []) (((Mod.refl _ _).alloc _).alloc _) (by simp)) (ei_one l) (by simpa using hl))
  have HS := Lib.hid hs
  have HSV := Lib.hid hsv
  have h1 := hsv.1
  clear h hc hs hsv
  generalize (l.map ei).length = n at *
  go_enter Try.func22, Try.ntmps22
  go_wp2_with fail
  refine CC.out.mono ?_
  rintro e w2 ⟨v2, rfl, n2⟩
  have hb : Blk w2 (w.heap.size + 1) #[.slice A n cap] 23 := (Blk.new' _ _ _ _ (by simp)).mod n2.mod (by simp)
  have ha : Blk w2 w.heap.size #[sv] 26 := ((Blk.new _ _ _).alloc _).mod n2.mod (by simp)
  have cb := hb.cell 0
  have fb := hb.froz 0
  simp at cb
  obtain ⟨A2, c2, rfl⟩ := n2.shape
  have hm2 : Hid (Mod [] w w2) := (((Mod.refl [] w).alloc (.cells #[sv] 26)).alloc (.cells #[.slice A n cap] 23)).trans n2.mod (by simp)
  obtain ⟨F2, hs2, _, hf2⟩ := n2
  have HB := Lib.hid hb
  have HA := Lib.hid ha
  have HS2 := Lib.hid hs2
  have HF2 : Hid (∀ k ∈ F2, w.heap.size + 1 < k) := fun k hk => by have := hf2 k hk; simp at this; omega
  clear hb ha hs2 hf2 CC
  generalize (l.map ei).length = n2 at *
  go_wp2
  go_ret
  have M : Mod [w.heap.size + 1] w2 (w2.setCell ⟨w.heap.size + 1, 0, none⟩ (.slice A2 n2 c2)) := (Mod.refl _ _).setCell _ _ (by simp)
  have hs3 := HS2.out.mod M (by intro k hk; have := HF2.out k hk; simp; omega)
  have hmm := hm2.out.trans M (by simp; omega)
  refine ⟨_, rfl, ⟨_, mergeI HSV.out (HS.out.mod hmm (by simp)) (vb := .slice A2 n2 c2) (b := l) (by simpa using HB.out.set 0 _) (HA.out.other _ _ (by simp)) (Rv.of_sl hs3 ?_) hs3.lt hl, fun k hk => ?_⟩, hmm⟩
  · have := hs3.1; simpa using this.symm
  · simp only [List.mem_cons, List.mem_append] at hk
    rcases hk with rfl | rfl | hk | hk
    · exact .inr (by omega)
    · exact .inr (Nat.le_refl _)
    · have := HF2.out k hk; exact .inr (by omega)
    · exact .inl hk

theorem ms_acc (L : List Int) : ∀ s : List Int × List Int, (L.foldl mstep s).1 ++ (L.foldl mstep s).2 = s.1 ++ mgL L s.2 := by
  induction L with
  | nil => intro s; simp [mgL, ms]
  | cons x L ih =>
    intro s
    rw [List.foldl_cons, ih]
    have h : mgL (x :: L) s.2 = (mstep ([], s.2) x).1 ++ mgL L (mstep ([], s.2) x).2 := ih (mstep ([], s.2) x)
    rw [h]; simp [mstep]
theorem mgL_nil (b : List Int) : mgL [] b = b := by simp [mgL, ms]
theorem mgL_cons (x : Int) (L r : List Int) : mgL (x :: L) r = r.takeWhile (· < x) ++ x :: mgL L (rest1 x r) := by
  conv => lhs; unfold mgL ms
  rw [List.foldl_cons, ms_acc]
  simp [mstep]
theorem mgL_nil_r (L : List Int) : mgL L [] = L := by
  induction L with
  | nil => exact mgL_nil []
  | cons x L ih => rw [mgL_cons]; simp [rest1, ih]
theorem mgL_lt {x y : Int} (L r : List Int) (h : x < y) : mgL (x :: L) (y :: r) = x :: mgL L (y :: r) := by
  have h1 : ¬ y < x := by omega
  have h2 : y ≠ x := by omega
  rw [mgL_cons]
  simp [rest1, h1, h2]
theorem mgL_gt {x y : Int} (L r : List Int) (h : y < x) : mgL (x :: L) (y :: r) = y :: mgL (x :: L) r := by
  rw [mgL_cons, mgL_cons]
  simp [rest1, h]
theorem mgL_eq (x : Int) (L r : List Int) : mgL (x :: L) (x :: r) = x :: mgL L r := by
  rw [mgL_cons]
  simp [rest1]
theorem mgL_len (L : List Int) : ∀ r, (mgL L r).length ≤ L.length + r.length := by
  induction L with
  | nil => intro r; simp [mgL_nil]
  | cons x L ih =>
    intro r
    rw [mgL_cons, List.length_append, List.length_cons, List.length_cons]
    have h1 := ih (rest1 x r)
    have h2 : (r.takeWhile (· < x)).length + (rest1 x r).length ≤ r.length := by
      have h3 := congrArg List.length (List.takeWhile_append_dropWhile (p := fun y => decide (y < x)) (l := r))
      rw [List.length_append] at h3
      unfold rest1
      split
      · rw [List.length_tail]; omega
      · omega
    omega

/-- A source cut at its head. -/
theorem Rv.dropsrc {w : World} {A : Option Addr} {n cap : Nat} {l : List Value} {F : List Nat} (h : Rv w (.slice A n cap) l F) (k : Nat) (hk : k ≤ n) (A' : Option Addr) (n' : Nat) (hn : n' = n - k) (hA : k < n → A' = A.map (·.add k)) :
    0 < n' → ∃ a, A' = some a ∧ ∀ j u, (l.drop k)[j]? = some u → w.cell? (a.add j) = some u := by
  subst hn
  exact (h.drop k hk A' hA).src

set_option maxRecDepth 100000 in
set_option maxHeartbeats 4000000 in
theorem refMerge_c {w : World} {v1 v2 : Value} {a b : List Int} {F1 F2 : List Nat} (h1 : Rv w v1 (a.map ei) F1) (h2 : Rv w v2 (b.map ei) F2) (hl1 : a.length ≤ 100000) (hl2 : b.length ≤ 100000) :
    Calls Try.prog 24 #[v1, v2] w fun e w' => ∃ v', e = .returned v' ∧ NewV 3 w ((mgL a b).map ei) w' v' := by
  obtain ⟨i0, hi, hz0, hz1, hz2⟩ := info_parts Try.info3
  obtain ⟨A1, c1, rfl, hc1⟩ := h1.shape
  obtain ⟨A2, c2, rfl, hc2⟩ := h2.shape
  have H1 := Lib.hid h1
  have H2 := Lib.hid h2
  clear h1 h2
  rw [List.length_map] at *
  rw [List.length_map] at *
  generalize hn1 : a.length = n1 at *
  generalize hn2 : b.length = n2 at *
  have N1 := Lib.hid hn1
  have N2 := Lib.hid hn2
  clear hn1 hn2
  go_enter Try.func24, Try.ntmps24
  go_wp2_with fail
  go_loopw [5, 6, 7] (fun o s1 s2 wr => ∃ (i k : Nat) (out : List Int), s1 = .int .i64 i ∧ s2 = .int .i64 k ∧ i ≤ n1 ∧ k ≤ n2 ∧ out.length ≤ i + k ∧ Hid (mgL a b = out ++ mgL (a.drop i) (b.drop k)) ∧ NewV 3 w (out.map ei) wr o) (fun _ s1 s2 _ => (n1 - (intOf s1).toNat) + (n2 - (intOf s2).toNat))
  case atStart => exact ⟨0, 0, [], rfl, rfl, Nat.zero_le _, Nat.zero_le _, Nat.zero_le _, rfl, by simpa using NewV.nil 3 (Mod.refl _ _)⟩
  case round =>
    obtain ⟨i, k, out, rfl, rfl, hin, hkn, hol, hinv, nv⟩ := hrel
    obtain ⟨A, cap, rfl⟩ := nv.shape
    generalize hm0 : (out.map ei).length = m at *
    have hm5 : m ≤ i + k := by rw [← hm0, List.length_map]; exact hol
    have hlk := Lib.hid hm0
    have HOL := Lib.hid hol
    have NV := Lib.hid nv
    clear hm0 nv hol
    obtain ⟨F, hs1, hm1, hf1⟩ := NV.out
    rw [hlk.out] at hs1
    have S1 := Lib.hid hs1
    have M1 := Lib.hid hm1
    have G1 := Lib.hid hf1
    clear hs1 hm1 hf1
    by_cases hilt : i < n1
    · by_cases hklt : k < n2
      · obtain ⟨p1, q1, rfl, d1⟩ := (H1.out.mod NV.out.mod (by simp)).at i (by rw [List.length_map, N1.out]; exact hilt)
        obtain ⟨p2, q2, rfl, d2⟩ := (H2.out.mod NV.out.mod (by simp)).at k (by rw [List.length_map, N2.out]; exact hklt)
        rw [List.getElem_map] at d1 d2
        have g1 : Hid (a.drop i = a[i]'(by rw [N1.out]; exact hilt) :: a.drop (i + 1)) := List.drop_eq_getElem_cons _
        have g2 : Hid (b.drop k = b[k]'(by rw [N2.out]; exact hklt) :: b.drop (k + 1)) := List.drop_eq_getElem_cons _
        unfold ei at d1 d2
        generalize (a[i]'(by rw [N1.out]; exact hilt)) = x at *
        generalize (b[k]'(by rw [N2.out]; exact hklt)) = y at *
        have hsn : Hid (∀ (z : Int) (v' : Value) (w2 w3 : World) (F' : List Nat), Mod [] wr w2 → Sl w3 3 1 v' (m + 1) ((out.map ei) ++ [.int .i64 z]) F' → Mod F w2 w3 → (∀ q ∈ F', q ∈ F ∨ w2.heap.size ≤ q) → NewV 3 w ((out ++ [z]).map ei) w3 v') := fun z v' w2 w3 F' m0 q1 q2 q3 => by
          rw [List.map_append]
          exact NewV.app M1.out G1.out hlk.out (by simp) m0 q1 q2 q3
        rcases Int.lt_trichotomy x y with hxy | rfl | hxy
        · have hle : x ≤ y := by omega
          have hnle : ¬ y ≤ x := by omega
          have HI : Hid (mgL a b = (out ++ [x]) ++ mgL (a.drop (i + 1)) (b.drop k)) := by
            show _ = _
            rw [hinv.out, g1.out, g2.out, mgL_lt _ _ hxy, ← g2.out]; simp
          clear hxy
          go_wp2
          go_quiet (fail)
          go_wp2_with (at_builtin; refine wpList_append_sl _ rfl _ _ 23 rfl 3 i0 (.int .i64 0) 1 8 Try.underlying23 hi hz0 hz1 hz2 rfl (by decide) _ m (out.map ei) F rfl (Sl.mod S1.out (S := []) (by (repeat (first | exact Mod.refl _ _ | apply Mod.drew | apply Mod.drewN | apply Mod.alloc | refine Mod.setCell ?_ _ _ (by first | simp | (simp; omega))))) (by simp)) ⟨_, 0, none⟩ 1 1 [.int .i64 x] (by decide) rfl rfl (by intro j u hu; exact list_new_at _ _ _ _ (by simp) j u hu) (by intro u hu; simp at hu; rcases hu with rfl; rfl) (by unfold maxLen; omega) (by omega) ?_; intro v' w3 F' hs3 hm3 hf3)
          have NN := hsn.out x v' _ w3 F' (by (repeat (first | exact Mod.refl _ _ | apply Mod.drew | apply Mod.drewN | apply Mod.alloc | refine Mod.setCell ?_ _ _ (by first | simp | (simp; omega))))) hs3 hm3 hf3
          go_roundw
          case rel => exact ⟨i + 1, k, out ++ [x], rfl, rfl, hilt, hkn, by rw [List.length_append]; have := HOL.out; simp; omega, HI, NN⟩
          case measure => simp only [intOf]; omega
        · have hle : x ≤ x := Int.le_refl _
          have HI : Hid (mgL a b = (out ++ [x]) ++ mgL (a.drop (i + 1)) (b.drop (k + 1))) := by
            show _ = _
            rw [hinv.out, g1.out, g2.out, mgL_eq]; simp
          go_wp2
          go_quiet (fail)
          go_wp2_with (at_builtin; refine wpList_append_sl _ rfl _ _ 23 rfl 3 i0 (.int .i64 0) 1 8 Try.underlying23 hi hz0 hz1 hz2 rfl (by decide) _ m (out.map ei) F rfl (Sl.mod S1.out (S := []) (by (repeat (first | exact Mod.refl _ _ | apply Mod.drew | apply Mod.drewN | apply Mod.alloc | refine Mod.setCell ?_ _ _ (by first | simp | (simp; omega))))) (by simp)) ⟨_, 0, none⟩ 1 1 [.int .i64 x] (by decide) rfl rfl (by intro j u hu; exact list_new_at _ _ _ _ (by simp) j u hu) (by intro u hu; simp at hu; rcases hu with rfl; rfl) (by unfold maxLen; omega) (by omega) ?_; intro v' w3 F' hs3 hm3 hf3)
          have NN := hsn.out x v' _ w3 F' (by (repeat (first | exact Mod.refl _ _ | apply Mod.drew | apply Mod.drewN | apply Mod.alloc | refine Mod.setCell ?_ _ _ (by first | simp | (simp; omega))))) hs3 hm3 hf3
          go_roundw
          case rel => exact ⟨i + 1, k + 1, out ++ [x], rfl, rfl, hilt, hklt, by rw [List.length_append]; have := HOL.out; simp; omega, HI, NN⟩
          case measure => simp only [intOf]; omega
        · have hle : y ≤ x := by omega
          have hnle : ¬ x ≤ y := by omega
          have HI : Hid (mgL a b = (out ++ [y]) ++ mgL (a.drop i) (b.drop (k + 1))) := by
            show _ = _
            rw [hinv.out, g1.out, g2.out, mgL_gt _ _ hxy]; simp
          clear hxy
          go_wp2
          go_quiet (fail)
          go_wp2_with (at_builtin; refine wpList_append_sl _ rfl _ _ 23 rfl 3 i0 (.int .i64 0) 1 8 Try.underlying23 hi hz0 hz1 hz2 rfl (by decide) _ m (out.map ei) F rfl (Sl.mod S1.out (S := []) (by (repeat (first | exact Mod.refl _ _ | apply Mod.drew | apply Mod.drewN | apply Mod.alloc | refine Mod.setCell ?_ _ _ (by first | simp | (simp; omega))))) (by simp)) ⟨_, 0, none⟩ 1 1 [.int .i64 y] (by decide) rfl rfl (by intro j u hu; exact list_new_at _ _ _ _ (by simp) j u hu) (by intro u hu; simp at hu; rcases hu with rfl; rfl) (by unfold maxLen; omega) (by omega) ?_; intro v' w3 F' hs3 hm3 hf3)
          have NN := hsn.out y v' _ w3 F' (by (repeat (first | exact Mod.refl _ _ | apply Mod.drew | apply Mod.drewN | apply Mod.alloc | refine Mod.setCell ?_ _ _ (by first | simp | (simp; omega))))) hs3 hm3 hf3
          go_roundw
          case rel => exact ⟨i, k + 1, out ++ [y], rfl, rfl, hin, hklt, by rw [List.length_append]; have := HOL.out; simp; omega, HI, NN⟩
          case measure => simp only [intOf]; omega
      · obtain rfl : k = n2 := by omega
        have HE : Hid (mgL (a.drop i) (b.drop k) = a.drop i ++ b.drop k) := by
          show _ = _
          rw [List.drop_of_length_le (l := b) (by rw [N2.out]; exact Nat.le_refl _), mgL_nil_r]; simp
        have T : Hid ((out.map ei ++ (a.map ei).drop i) ++ (b.map ei).drop k = (mgL a b).map ei) := by
          show _ = _
          rw [hinv.out, HE.out, List.map_append, List.map_append, List.append_assoc, List.map_drop, List.map_drop]
        have L1 : Hid (((a.map ei).drop i).length = n1 - i) := by show _ = _; rw [List.length_drop, List.length_map, N1.out]
        have L2 : Hid (((b.map ei).drop k).length = k - k) := by show _ = _; rw [List.length_drop, List.length_map, N2.out]
        have O1 : Hid (∀ u ∈ (a.map ei).drop i, u.oneCell' = true) := fun u hu => ei_one _ u (List.mem_of_mem_drop hu)
        have O2 : Hid (∀ u ∈ (b.map ei).drop k, u.oneCell' = true) := fun u hu => ei_one _ u (List.mem_of_mem_drop hu)
        obtain ⟨q, hq⟩ : ∃ q, (out.map ei ++ (a.map ei).drop i).length = q := ⟨_, rfl⟩
        have HQ := Lib.hid hq
        have hq2 : q ≤ m + (n1 - i) := by rw [← hq, List.length_append, hlk.out, L1.out]; exact Nat.le_refl _
        have HA := Lib.hid (H1.out.mod NV.out.mod (by simp))
        have HB := Lib.hid (H2.out.mod NV.out.mod (by simp))
        have HM := Lib.hid NV.out.mod
        clear hq
        go_wp2_with (at_builtin; first
          | (refine wpList_append_slz _ rfl _ _ 23 rfl 3 i0 (.int .i64 0) 1 8 Try.underlying23 hi hz0 hz1 hz2 rfl (by decide) _ m (out.map ei) F rfl S1.out _ _ _ ((a.map ei).drop i) rfl (L1.out.trans (by omega)) (HA.out.dropsrc i (by omega) _ _ (by omega) (fun h => by first | omega | rfl | (rw [if_neg (by omega)]))) O1.out (by unfold maxLen; omega) (by omega) ?_; intro v3 w3 F3 hs3 hm3 hf3; obtain ⟨F4, hs4, hm4, hf4⟩ := NewV.app M1.out G1.out hlk.out (L1.out.trans (by omega)) (Mod.refl _ _) hs3 hm3 hf3; rw [HQ.out] at hs4; have HB2 := Lib.hid (H2.out.mod hm4 (by simp)))
          | (refine wpList_append_slz _ rfl _ _ 23 rfl 3 i0 (.int .i64 0) 1 8 Try.underlying23 hi hz0 hz1 hz2 rfl (by decide) _ q _ _ rfl (by assumption) _ _ _ ((b.map ei).drop k) rfl (L2.out.trans (by omega)) (Rv.dropsrc (Hid.out (by assumption)) k (by omega) _ _ (by omega) (fun h => by first | omega | rfl | (rw [if_neg (by omega)]))) O2.out (by unfold maxLen; omega) (by omega) ?_; intro v5 w5 F5 hs5 hm5 hf5; have FIN := NewV.app hm4 hf4 HQ.out (L2.out.trans (by omega)) (Mod.refl _ _) hs5 hm5 hf5; rw [T.out] at FIN; have HFIN := Lib.hid FIN; clear FIN hs5))
        all_goals (go_ret; exact ⟨_, rfl, HFIN.out⟩)
    · obtain rfl : i = n1 := by omega
      have HE : Hid (mgL (a.drop i) (b.drop k) = a.drop i ++ b.drop k) := by
        show _ = _
        rw [List.drop_of_length_le (l := a) (by rw [N1.out]; exact Nat.le_refl _), mgL_nil]; simp
      have T : Hid ((out.map ei ++ (a.map ei).drop i) ++ (b.map ei).drop k = (mgL a b).map ei) := by
        show _ = _
        rw [hinv.out, HE.out, List.map_append, List.map_append, List.append_assoc, List.map_drop, List.map_drop]
      have L1 : Hid (((a.map ei).drop i).length = i - i) := by show _ = _; rw [List.length_drop, List.length_map, N1.out]
      have L2 : Hid (((b.map ei).drop k).length = n2 - k) := by show _ = _; rw [List.length_drop, List.length_map, N2.out]
      have O1 : Hid (∀ u ∈ (a.map ei).drop i, u.oneCell' = true) := fun u hu => ei_one _ u (List.mem_of_mem_drop hu)
      have O2 : Hid (∀ u ∈ (b.map ei).drop k, u.oneCell' = true) := fun u hu => ei_one _ u (List.mem_of_mem_drop hu)
      obtain ⟨q, hq⟩ : ∃ q, (out.map ei ++ (a.map ei).drop i).length = q := ⟨_, rfl⟩
      have HQ := Lib.hid hq
      have hq2 : q ≤ m + (i - i) := by rw [← hq, List.length_append, hlk.out, L1.out]; exact Nat.le_refl _
      have HA := Lib.hid (H1.out.mod NV.out.mod (by simp))
      have HB := Lib.hid (H2.out.mod NV.out.mod (by simp))
      have HM := Lib.hid NV.out.mod
      clear hq
      go_wp2_with (at_builtin; first
        | (refine wpList_append_slz _ rfl _ _ 23 rfl 3 i0 (.int .i64 0) 1 8 Try.underlying23 hi hz0 hz1 hz2 rfl (by decide) _ m (out.map ei) F rfl S1.out _ _ _ ((a.map ei).drop i) rfl (L1.out.trans (by omega)) (HA.out.dropsrc i (by omega) _ _ (by omega) (fun h => by first | omega | rfl | (rw [if_neg (by omega)]))) O1.out (by unfold maxLen; omega) (by omega) ?_; intro v3 w3 F3 hs3 hm3 hf3; obtain ⟨F4, hs4, hm4, hf4⟩ := NewV.app M1.out G1.out hlk.out (L1.out.trans (by omega)) (Mod.refl _ _) hs3 hm3 hf3; rw [HQ.out] at hs4; have HB2 := Lib.hid (H2.out.mod hm4 (by simp)))
        | (refine wpList_append_slz _ rfl _ _ 23 rfl 3 i0 (.int .i64 0) 1 8 Try.underlying23 hi hz0 hz1 hz2 rfl (by decide) _ q _ _ rfl (by assumption) _ _ _ ((b.map ei).drop k) rfl (L2.out.trans (by omega)) (Rv.dropsrc (Hid.out (by assumption)) k (by omega) _ _ (by omega) (fun h => by first | omega | rfl | (rw [if_neg (by omega)]))) O2.out (by unfold maxLen; omega) (by omega) ?_; intro v5 w5 F5 hs5 hm5 hf5; have FIN := NewV.app hm4 hf4 HQ.out (L2.out.trans (by omega)) (Mod.refl _ _) hs5 hm5 hf5; rw [T.out] at FIN; have HFIN := Lib.hid FIN; clear FIN hs5))
      all_goals (go_ret; exact ⟨_, rfl, HFIN.out⟩)
end Go.Proofs.Ytchbgnfmmplinaa

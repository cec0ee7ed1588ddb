/- The reference Every. -/
import Derived.Test.YtchbgnfmmplinaaM
set_option linter.unusedVariables false
set_option linter.unusedSimpArgs false
namespace Go.Proofs.Ytchbgnfmmplinaa
open Go.RowKit Go.Shelf

theorem ev_length {L : List Int} {n : Nat} : (ev L n).length ≤ L.length := by
  unfold ev
  rw [List.length_map]
  exact Nat.le_trans (List.length_filter_le _ _) (by rw [List.length_zipIdx]; exact Nat.le_refl _)

set_option maxRecDepth 100000 in
set_option maxHeartbeats 400000 in
theorem refEvery_none {w : World} {v : Value} {l : List Int} {F : List Nat} (h : Rv w v (l.map ei) F) (hl : l.length ≤ 100000) (n : Int) (hn : n < 1) :
    Calls Try.prog 21 #[v, .int .i64 n] w fun e w' => ∃ v', e = .returned v' ∧ NewV 3 w ([] : List Value) w' v' := by
  obtain ⟨A1, c1, rfl, hc1⟩ := h.shape
  clear h
  rw [List.length_map] at *
  generalize hn1 : l.length = n1 at *
  clear hn1
  have hn2 : ¬ 1 ≤ n := by omega
  by_cases h0 : (0 : Int) < n1
  · go_enter Try.func21, Try.ntmps21
    go_wp2_with fail
    go_loopw [5, 6] (fun o s wr => o = .slice none 0 0 ∧ s = .int .i64 0 ∧ wr = w) (fun _ s _ => 0)
    case atStart => exact ⟨rfl, rfl, rfl⟩
    case round =>
      obtain ⟨rfl, rfl, rfl⟩ := hrel
      go_wp2
      go_ret
      exact ⟨_, rfl, NewV.nil 3 (Mod.refl _ _)⟩
  · go_enter Try.func21, Try.ntmps21
    go_wp2_with fail
    go_loopw [5, 6] (fun o s wr => o = .slice none 0 0 ∧ s = .int .i64 0 ∧ wr = w) (fun _ s _ => 0)
    case atStart => exact ⟨rfl, rfl, rfl⟩
    case round =>
      obtain ⟨rfl, rfl, rfl⟩ := hrel
      go_wp2
      go_ret
      exact ⟨_, rfl, NewV.nil 3 (Mod.refl _ _)⟩

set_option maxRecDepth 100000 in
set_option maxHeartbeats 400000 in
theorem refEvery_pos {w : World} {v : Value} {l : List Int} {F : List Nat} (h : Rv w v (l.map ei) F) (hl : l.length ≤ 100000) (n : Nat) (hn : 0 < n) :
    Calls Try.prog 21 #[v, .int .i64 n] w fun e w' => ∃ v', e = .returned v' ∧ NewV 3 w ((ev l n).map ei) w' v' := by
  obtain ⟨i0, hi, hz0, hz1, hz2⟩ := info_parts Try.info3
  obtain ⟨A1, c1, rfl, hc1⟩ := h.shape
  have H := Lib.hid h
  clear h
  rw [List.length_map] at *
  generalize hn1 : l.length = n1 at *
  have N1 := Lib.hid hn1
  clear hn1
  have hn0 : (1 : Int) ≤ n := by omega
  have hn3 : ¬ ((n : Int) = 0) := by omega
  go_enter Try.func21, Try.ntmps21
  go_wp2_with fail
  go_loopw [5, 6] (fun o s wr => ∃ k : Nat, s = .int .i64 k ∧ k ≤ n1 ∧ True ∧ NewV 3 w ((ev (l.take k) n).map ei) wr o) (fun _ s _ => n1 - (intOf s).toNat)
  case atStart => exact ⟨0, rfl, Nat.zero_le _, trivial, by simpa [ev] using NewV.nil 3 (Mod.refl _ _)⟩
  case round =>
    obtain ⟨k, rfl, hk, hkn, nv⟩ := hrel
    obtain ⟨A, cap, rfl⟩ := nv.shape
    have hm5 : ((ev (l.take k) n).map ei).length ≤ n1 := by rw [List.length_map]; exact Nat.le_trans ev_length (by rw [List.length_take, N1.out]; omega)
    generalize hm0 : ((ev (l.take k) n).map ei).length = m at *
    have hlk := Lib.hid hm0
    clear hm0
    have NV := Lib.hid nv
    clear nv
    by_cases hlt : k < n1
    · have hlen : Hid ((l.take k).length = k) := by show _ = _; rw [List.length_take, N1.out]; omega
      have TK : Hid (l.take k ++ [l[k]'(by rw [N1.out]; exact hlt)] = l.take (k + 1)) := by show _ = _; rw [List.take_succ_eq_append_getElem]
      by_cases hkn2 : k % n = 0
      · obtain ⟨b1, o1, rfl, d1⟩ := (H.out.mod NV.out.mod (by simp)).at k (by rw [List.length_map, N1.out]; exact hlt)
        rw [List.getElem_map] at d1
        have EV : Hid (ev (l.take k) n ++ [l[k]'(by rw [N1.out]; exact hlt)] = ev (l.take (k + 1)) n) := by show _ = _; rw [← TK.out, ev_hit _ (by rw [hlen.out]; exact hkn2)]
        have hb0 : ((((k % n : Nat) : Int)) == 0) = true := by rw [beq_iff_eq]; omega
        clear TK
        unfold ei at d1
        generalize (l[k]'(by rw [N1.out]; exact hlt)) = x at *
        obtain ⟨F1, hs1, hm1, hf1⟩ := NV.out
        rw [hlk.out] at hs1
        have S1 := Lib.hid hs1
        have M1 := Lib.hid hm1
        have G1 := Lib.hid hf1
        clear hs1 hm1 hf1 hkn2
        have hsn : Hid (∀ (v' : Value) (w2 w3 : World) (F' : List Nat), Mod [] wr w2 → Sl w3 3 1 v' (m + 1) (((ev (l.take k) n).map ei) ++ [.int .i64 x]) F' → Mod F1 w2 w3 → (∀ q ∈ F', q ∈ F1 ∨ w2.heap.size ≤ q) → NewV 3 w ((ev (l.take (k + 1)) n).map ei) w3 v') := fun v' w2 w3 F' m0 q1 q2 q3 => by
          rw [← EV.out, List.map_append]
          exact NewV.app M1.out G1.out hlk.out (by simp) m0 q1 q2 q3
        go_wp2_with (at_builtin; refine wpList_append_sl _ rfl _ _ 23 rfl 3 i0 (.int .i64 0) 1 8 Try.underlying23 hi hz0 hz1 hz2 rfl (by decide) _ m ((ev (l.take k) n).map ei) F1 rfl (Sl.mod S1.out (S := []) (by (repeat (first | exact Mod.refl _ _ | apply Mod.drew | apply Mod.drewN | apply Mod.alloc | refine Mod.setCell ?_ _ _ (by first | simp | (simp; omega))))) (by simp)) ⟨_, 0, none⟩ 1 1 [.int .i64 x] (by decide) rfl rfl (by intro j u hu; exact list_new_at _ _ _ _ (by simp) j u hu) (by intro u hu; simp at hu; rcases hu with rfl; rfl) (by unfold maxLen; omega) (by omega) ?_; intro v' w3 F' hs3 hm3 hf3)
        have NN := hsn.out v' _ w3 F' (by (repeat (first | exact Mod.refl _ _ | apply Mod.drew | apply Mod.drewN | apply Mod.alloc | refine Mod.setCell ?_ _ _ (by first | simp | (simp; omega))))) hs3 hm3 hf3
        go_roundw
        case rel => exact ⟨k + 1, rfl, by omega, trivial, NN⟩
        case measure => simp only [intOf]; omega
      · have e : Hid (ev (l.take k) n = ev (l.take (k + 1)) n) := by show _ = _; rw [← TK.out, ev_miss _ (by rw [hlen.out]; exact hkn2)]
        have hb0 : ((((k % n : Nat) : Int)) == 0) = false := by rw [beq_eq_false_iff_ne]; omega
        rw [e.out] at NV
        clear TK hkn2
        go_wp2
        go_roundw
        case rel => exact ⟨k + 1, rfl, by omega, trivial, NV.out⟩
        case measure => simp only [intOf]; omega
    · have e : Hid (ev (l.take k) n = ev l n) := by
        show _ = _
        rw [List.take_of_length_le (by rw [N1.out]; omega)]
      rw [e.out] at NV
      go_wp2
      go_ret
      exact ⟨_, rfl, NV.out⟩

theorem refEvery_c {w : World} {v : Value} {l : List Int} {F : List Nat} (h : Rv w v (l.map ei) F) (hl : l.length ≤ 100000) (n : Int) :
    Calls Try.prog 21 #[v, .int .i64 n] w fun e w' => ∃ v', e = .returned v' ∧ NewV 3 w ((evL l n).map ei) w' v' := by
  unfold evL
  by_cases hn : n < 1
  · rw [if_pos hn]; exact refEvery_none h hl n hn
  · rw [if_neg hn]
    obtain ⟨m, rfl⟩ := Int.eq_ofNat_of_zero_le (by omega : 0 ≤ n)
    exact refEvery_pos h hl m (by omega)
end Go.Proofs.Ytchbgnfmmplinaa

/- The references Take, Skip, Every. -/
import Derived.Test.YtchbgnfmmplinaaJ
import Derived.Deep.RegionLaw
set_option linter.unusedVariables false
set_option linter.unusedSimpArgs false
namespace Go.Proofs.Ytchbgnfmmplinaa
open Go.RowKit Go.Shelf

set_option maxRecDepth 100000 in
set_option maxHeartbeats 400000 in
theorem refTake_c {w : World} {v : Value} {l : List Int} {F : List Nat} (h : Rv w v (l.map ei) F) (hl : l.length ≤ 100000) (n : Int) :
    Calls Try.prog 19 #[v, .int .i64 n] w fun e w' => ∃ v', e = .returned v' ∧ NewV 3 w ((tk l n).map ei) w' v' := by
  obtain ⟨i0, hi, hz0, hz1, hz2⟩ := info_parts Try.info3
  obtain ⟨A1, c1, rfl, hc1⟩ := h.shape
  have H := Lib.hid h
  clear h
  rw [List.length_map] at *
  generalize hn1 : l.length = n1 at *
  have N1 := Lib.hid hn1
  clear hn1
  go_enter Try.func19, Try.ntmps19
  go_wp2_with fail
  go_loopw [5, 6] (fun o s wr => ∃ k : Nat, s = .int .i64 k ∧ k ≤ n1 ∧ k ≤ n.toNat ∧ NewV 3 w ((l.take k).map ei) wr o) (fun _ s _ => n1 - (intOf s).toNat)
  case atStart => exact ⟨0, rfl, Nat.zero_le _, Nat.zero_le _, by simpa using NewV.nil 3 (Mod.refl _ _)⟩
  case round =>
    obtain ⟨k, rfl, hk, hkn, nv⟩ := hrel
    obtain ⟨A, cap, rfl⟩ := nv.shape
    have hlk : Hid (((l.take k).map ei).length = k) := by show _ = _; rw [List.length_map, List.length_take, N1.out]; omega
    rw [hlk.out] at nv ⊢
    have NV := Lib.hid nv
    clear nv
    by_cases hlt : k < n1
    · by_cases hkn2 : (k : Int) < n
      · obtain ⟨b1, o1, rfl, d1⟩ := (H.out.mod NV.out.mod (by simp)).at k (by rw [List.length_map, N1.out]; exact hlt)
        rw [List.getElem_map] at d1
        have TK : Hid (l.take k ++ [l[k]'(by rw [N1.out]; exact hlt)] = l.take (k + 1)) := by show _ = _; rw [List.take_succ_eq_append_getElem]
        unfold ei at d1
        generalize (l[k]'(by rw [N1.out]; exact hlt)) = x at *
        obtain ⟨F1, hs1, hm1, hf1⟩ := NV.out
        rw [hlk.out] at hs1
        have S1 := Lib.hid hs1
        have M1 := Lib.hid hm1
        have G1 := Lib.hid hf1
        clear hs1 hm1 hf1
        have hsn : Hid (∀ (v' : Value) (w2 w3 : World) (F' : List Nat), Mod [] wr w2 → Sl w3 3 1 v' (k + 1) (((l.take k).map ei) ++ [.int .i64 x]) F' → Mod F1 w2 w3 → (∀ q ∈ F', q ∈ F1 ∨ w2.heap.size ≤ q) → NewV 3 w ((l.take (k + 1)).map ei) w3 v') := fun v' w2 w3 F' m0 q1 q2 q3 => by
          rw [← TK.out, List.map_append]
          exact NewV.app M1.out G1.out hlk.out (by simp) m0 q1 q2 q3
        go_wp2_with (at_builtin; refine wpList_append_sl _ rfl _ _ 23 rfl 3 i0 (.int .i64 0) 1 8 Try.underlying23 hi hz0 hz1 hz2 rfl (by decide) _ k ((l.take k).map ei) F1 rfl (Sl.mod S1.out (S := []) (by (repeat (first | exact Mod.refl _ _ | apply Mod.drew | apply Mod.drewN | apply Mod.alloc | refine Mod.setCell ?_ _ _ (by first | simp | (simp; omega))))) (by simp)) ⟨_, 0, none⟩ 1 1 [.int .i64 x] (by decide) rfl rfl (by intro j u hu; exact list_new_at _ _ _ _ (by simp) j u hu) (by intro u hu; simp at hu; rcases hu with rfl; rfl) (by unfold maxLen; omega) (by omega) ?_; intro v' w3 F' hs3 hm3 hf3)
        have NN := hsn.out v' _ w3 F' (by (repeat (first | exact Mod.refl _ _ | apply Mod.drew | apply Mod.drewN | apply Mod.alloc | refine Mod.setCell ?_ _ _ (by first | simp | (simp; omega))))) hs3 hm3 hf3
        go_roundw
        case rel => exact ⟨k + 1, rfl, by omega, by omega, NN⟩
        case measure => simp only [intOf]; omega
      · have e : Hid (l.take k = tk l n) := by show _ = _; unfold tk; congr 1; omega
        rw [e.out] at NV
        go_wp2
        go_ret
        exact ⟨_, rfl, NV.out⟩
    · have e : Hid (l.take k = tk l n) := by
        show _ = _
        unfold tk; rw [List.take_of_length_le (by rw [N1.out]; omega), List.take_of_length_le (by rw [N1.out]; omega)]
      rw [e.out] at NV
      go_wp2
      go_ret
      exact ⟨_, rfl, NV.out⟩
end Go.Proofs.Ytchbgnfmmplinaa

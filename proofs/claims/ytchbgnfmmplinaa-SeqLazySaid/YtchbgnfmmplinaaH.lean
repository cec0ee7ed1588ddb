/- The reference Range; the law SeqRanges. -/
import Derived.Test.YtchbgnfmmplinaaG
set_option linter.unusedVariables false
set_option linter.unusedSimpArgs false
namespace Go.Proofs.Ytchbgnfmmplinaa
open Go.RowKit

/-- The first n numbers of the range, in a new slice. -/
def RNew (a b c : Int) (n : Nat) (w w' : World) (v' : Value) : Prop := NewV 3 w (((rngL a b c).take n).map ei) w' v'

set_option maxRecDepth 100000 in
set_option maxHeartbeats 4000000 in
theorem refRange_up {a b c : Int} (hc0 : 0 < c) (ha9 : I64 a) (hb9 : I64 b) (hc9 : I64 c) (n : Nat) (hn : n ≤ 1000) (w : World) :
    Calls Try.prog 10 #[.int .i64 a, .int .i64 b, .int .i64 c, .int .i64 n] w fun e w' => ∃ v', e = .returned v' ∧ RNew a b c n w w' v' := by
  obtain ⟨i0, hi, hz0, hz1, hz2⟩ := info_parts Try.info3
  have HA := Lib.hid ha9
  have HB := Lib.hid hb9
  have HC := Lib.hid hc9
  have hc1 := hc9.1
  have hc2 := hc9.2
  clear ha9 hb9 hc9
  go_enter Try.func10, Try.ntmps10
  go_wp2_with fail
  go_loopw [9, 10] (fun o s wr => ∃ (k : Nat) (x : Int), s = .int .i64 x ∧ x = a + k * c ∧ I64 x ∧ k ≤ n ∧ k ≤ rngN a b c ∧ NewV 3 w (((rngL a b c).take k).map ei) wr o) (fun _ s _ => (b - intOf s).toNat)
  case atStart => exact ⟨0, a, rfl, by simp, HA.out, Nat.zero_le _, Nat.zero_le _, by simpa using NewV.nil 3 (Mod.refl _ _)⟩
  case round =>
    obtain ⟨k, x, rfl, hx, hI, hkn, hk, nv⟩ := hrel
    obtain ⟨A, cap, rfl⟩ := nv.shape
    have hlk : Hid ((((rngL a b c).take k).map ei).length = k) := by show _ = _; rw [List.length_map, List.length_take, rngL_length]; omega
    rw [hlk.out] at nv ⊢
    have NV := Lib.hid nv
    have HX := Lib.hid hx
    have HI := Lib.hid hI
    have hI1 := hI.1
    have hI2 := hI.2
    clear nv hI
    by_cases hkn2 : k < n
    · by_cases hlt : k < rngN a b c
      · have hxb : (x < b) := by rw [hx]; exact (rng_up hc0 k).1 hlt
        have TK : Hid ((rngL a b c).take k ++ [x] = (rngL a b c).take (k + 1)) := by show _ = _; rw [hx]; exact rngL_take a b c hlt
        have NX : Hid (x + c = a + ((k + 1 : Nat) : Int) * c) := by show _ = _; rw [rng_next, hx]
        have hov : Hid (¬ I64 (x + c) → rngN a b c ≤ k + 1) := fun h => by
          rcases Nat.lt_or_ge (k + 1) (rngN a b c) with q | q
          · exfalso
            have q1 := (rng_up hc0 (k + 1)).1 q
            rw [← NX.out] at q1
            have hb := HB.out
            have ha := HA.out
            have hi := HI.out
            unfold I64 at h ha hb hi
            omega
          · exact q
        have HLT := Lib.hid hlt
        obtain ⟨F1, hs1, hm1, hf1⟩ := NV.out
        rw [hlk.out] at hs1
        have S1 := Lib.hid hs1
        have M1 := Lib.hid hm1
        have G1 := Lib.hid hf1
        have hsn : Hid (∀ (v' : Value) (w2 w3 : World) (F' : List Nat), Mod [] wr w2 → Sl w3 3 1 v' (k + 1) (((rngL a b c).take k).map ei ++ [.int .i64 x]) F' → Mod F1 w2 w3 → (∀ q ∈ F', q ∈ F1 ∨ w2.heap.size ≤ q) → NewV 3 w (((rngL a b c).take (k + 1)).map ei) w3 v') := fun v' w2 w3 F' m0 q1 q2 q3 => by
          rw [← TK.out, List.map_append]
          exact NewV.app M1.out G1.out hlk.out (by simp) m0 q1 q2 q3
        clear hs1 hm1 hf1 hx hk hlt
        by_cases ho : I64 (x + c)
        · have ho1 : -9223372036854775808 ≤ x + c := ho.1
          have ho2 : x + c ≤ 9223372036854775807 := ho.2
          have hno : ¬ (9223372036854775807 - c < x) := by omega
          have HO := Lib.hid ho
          clear ho
          go_wp2_with (at_builtin; refine wpList_append_sl _ rfl _ _ 23 rfl 3 i0 (.int .i64 0) 1 8 Try.underlying23 hi hz0 hz1 hz2 rfl (by decide) _ k (((rngL a b c).take k).map ei) F1 rfl (Sl.mod S1.out (S := []) (by (repeat (first | exact Mod.refl _ _ | apply Mod.drew | apply Mod.drewN | apply Mod.alloc | refine Mod.setCell ?_ _ _ (by first | simp | (simp; omega))))) (by simp)) ⟨wr.heap.size, 0, none⟩ 1 1 [.int .i64 x] (by decide) rfl rfl (by intro j u hu; exact list_new_at _ _ _ _ (by simp) j u hu) (by intro u hu; simp at hu; rcases hu with rfl; rfl) (by unfold maxLen; omega) (by omega) ?_; intro v' w3 F' hs3 hm3 hf3)
          have NN := hsn.out v' _ w3 F' (by (repeat (first | exact Mod.refl _ _ | apply Mod.drew | apply Mod.drewN | apply Mod.alloc | refine Mod.setCell ?_ _ _ (by first | simp | (simp; omega))))) hs3 hm3 hf3
          go_roundw
          case rel => exact ⟨k + 1, x + c, rfl, NX.out, HO.out, by omega, HLT.out, NN⟩
          case measure => simp only [intOf]; omega
        · have hyes : (9223372036854775807 - c < x) := by unfold I64 at ho; omega
          have ho2 := Lib.hid (hov.out ho)
          clear ho
          go_wp2_with (at_builtin; refine wpList_append_sl _ rfl _ _ 23 rfl 3 i0 (.int .i64 0) 1 8 Try.underlying23 hi hz0 hz1 hz2 rfl (by decide) _ k (((rngL a b c).take k).map ei) F1 rfl (Sl.mod S1.out (S := []) (by (repeat (first | exact Mod.refl _ _ | apply Mod.drew | apply Mod.drewN | apply Mod.alloc | refine Mod.setCell ?_ _ _ (by first | simp | (simp; omega))))) (by simp)) ⟨wr.heap.size, 0, none⟩ 1 1 [.int .i64 x] (by decide) rfl rfl (by intro j u hu; exact list_new_at _ _ _ _ (by simp) j u hu) (by intro u hu; simp at hu; rcases hu with rfl; rfl) (by unfold maxLen; omega) (by omega) ?_; intro v' w3 F' hs3 hm3 hf3)
          have NN := hsn.out v' _ w3 F' (by (repeat (first | exact Mod.refl _ _ | apply Mod.drew | apply Mod.drewN | apply Mod.alloc | refine Mod.setCell ?_ _ _ (by first | simp | (simp; omega))))) hs3 hm3 hf3
          go_ret
          refine ⟨_, rfl, ?_⟩
          unfold RNew
          rw [rngL_all a b c (Nat.le_trans ho2.out (by omega))]
          rw [rngL_all a b c ho2.out] at NN
          exact NN
      · have hxb : ¬ (x < b) := by rw [hx]; exact fun h => hlt ((rng_up hc0 k).2 h)
        have hall := Lib.hid (rngL_all a b c (Nat.le_of_not_lt hlt))
        have hall2 := Lib.hid (rngL_all a b c (k := n) (by omega))
        clear hlt hx hk
        go_wp2
        go_ret
        refine ⟨_, rfl, ?_⟩
        unfold RNew
        have := NV.out
        rw [hall.out] at this
        rw [hall2.out]; exact this
    · obtain rfl : k = n := by omega
      clear hx hk
      go_wp2
      go_ret
      exact ⟨_, rfl, NV.out⟩

set_option maxRecDepth 100000 in
set_option maxHeartbeats 4000000 in
theorem refRange_down {a b c : Int} (hc0 : c < 0) (ha9 : I64 a) (hb9 : I64 b) (hc9 : I64 c) (n : Nat) (hn : n ≤ 1000) (w : World) :
    Calls Try.prog 10 #[.int .i64 a, .int .i64 b, .int .i64 c, .int .i64 n] w fun e w' => ∃ v', e = .returned v' ∧ RNew a b c n w w' v' := by
  obtain ⟨i0, hi, hz0, hz1, hz2⟩ := info_parts Try.info3
  have HA := Lib.hid ha9
  have HB := Lib.hid hb9
  have HC := Lib.hid hc9
  have hc1 := hc9.1
  have hc2 := hc9.2
  clear ha9 hb9 hc9
  go_enter Try.func10, Try.ntmps10
  go_wp2_with fail
  go_loopw [9, 10] (fun o s wr => ∃ (k : Nat) (x : Int), s = .int .i64 x ∧ x = a + k * c ∧ I64 x ∧ k ≤ n ∧ k ≤ rngN a b c ∧ NewV 3 w (((rngL a b c).take k).map ei) wr o) (fun _ s _ => (intOf s - b).toNat)
  case atStart => exact ⟨0, a, rfl, by simp, HA.out, Nat.zero_le _, Nat.zero_le _, by simpa using NewV.nil 3 (Mod.refl _ _)⟩
  case round =>
    obtain ⟨k, x, rfl, hx, hI, hkn, hk, nv⟩ := hrel
    obtain ⟨A, cap, rfl⟩ := nv.shape
    have hlk : Hid ((((rngL a b c).take k).map ei).length = k) := by show _ = _; rw [List.length_map, List.length_take, rngL_length]; omega
    rw [hlk.out] at nv ⊢
    have NV := Lib.hid nv
    have HX := Lib.hid hx
    have HI := Lib.hid hI
    have hI1 := hI.1
    have hI2 := hI.2
    clear nv hI
    by_cases hkn2 : k < n
    · by_cases hlt : k < rngN a b c
      · have hxb : (b < x) := by rw [hx]; exact (rng_down hc0 k).1 hlt
        have TK : Hid ((rngL a b c).take k ++ [x] = (rngL a b c).take (k + 1)) := by show _ = _; rw [hx]; exact rngL_take a b c hlt
        have NX : Hid (x + c = a + ((k + 1 : Nat) : Int) * c) := by show _ = _; rw [rng_next, hx]
        have hov : Hid (¬ I64 (x + c) → rngN a b c ≤ k + 1) := fun h => by
          rcases Nat.lt_or_ge (k + 1) (rngN a b c) with q | q
          · exfalso
            have q1 := (rng_down hc0 (k + 1)).1 q
            rw [← NX.out] at q1
            have hb := HB.out
            have ha := HA.out
            have hi := HI.out
            unfold I64 at h ha hb hi
            omega
          · exact q
        have HLT := Lib.hid hlt
        obtain ⟨F1, hs1, hm1, hf1⟩ := NV.out
        rw [hlk.out] at hs1
        have S1 := Lib.hid hs1
        have M1 := Lib.hid hm1
        have G1 := Lib.hid hf1
        have hsn : Hid (∀ (v' : Value) (w2 w3 : World) (F' : List Nat), Mod [] wr w2 → Sl w3 3 1 v' (k + 1) (((rngL a b c).take k).map ei ++ [.int .i64 x]) F' → Mod F1 w2 w3 → (∀ q ∈ F', q ∈ F1 ∨ w2.heap.size ≤ q) → NewV 3 w (((rngL a b c).take (k + 1)).map ei) w3 v') := fun v' w2 w3 F' m0 q1 q2 q3 => by
          rw [← TK.out, List.map_append]
          exact NewV.app M1.out G1.out hlk.out (by simp) m0 q1 q2 q3
        clear hs1 hm1 hf1 hx hk hlt
        by_cases ho : I64 (x + c)
        · have ho1 : -9223372036854775808 ≤ x + c := ho.1
          have ho2 : x + c ≤ 9223372036854775807 := ho.2
          have hno : ¬ (x < -9223372036854775808 - c) := by omega
          have HO := Lib.hid ho
          clear ho
          go_wp2_with (at_builtin; refine wpList_append_sl _ rfl _ _ 23 rfl 3 i0 (.int .i64 0) 1 8 Try.underlying23 hi hz0 hz1 hz2 rfl (by decide) _ k (((rngL a b c).take k).map ei) F1 rfl (Sl.mod S1.out (S := []) (by (repeat (first | exact Mod.refl _ _ | apply Mod.drew | apply Mod.drewN | apply Mod.alloc | refine Mod.setCell ?_ _ _ (by first | simp | (simp; omega))))) (by simp)) ⟨wr.heap.size, 0, none⟩ 1 1 [.int .i64 x] (by decide) rfl rfl (by intro j u hu; exact list_new_at _ _ _ _ (by simp) j u hu) (by intro u hu; simp at hu; rcases hu with rfl; rfl) (by unfold maxLen; omega) (by omega) ?_; intro v' w3 F' hs3 hm3 hf3)
          have NN := hsn.out v' _ w3 F' (by (repeat (first | exact Mod.refl _ _ | apply Mod.drew | apply Mod.drewN | apply Mod.alloc | refine Mod.setCell ?_ _ _ (by first | simp | (simp; omega))))) hs3 hm3 hf3
          go_roundw
          case rel => exact ⟨k + 1, x + c, rfl, NX.out, HO.out, by omega, HLT.out, NN⟩
          case measure => simp only [intOf]; omega
        · have hyes : (x < -9223372036854775808 - c) := by unfold I64 at ho; omega
          have ho2 := Lib.hid (hov.out ho)
          clear ho
          go_wp2_with (at_builtin; refine wpList_append_sl _ rfl _ _ 23 rfl 3 i0 (.int .i64 0) 1 8 Try.underlying23 hi hz0 hz1 hz2 rfl (by decide) _ k (((rngL a b c).take k).map ei) F1 rfl (Sl.mod S1.out (S := []) (by (repeat (first | exact Mod.refl _ _ | apply Mod.drew | apply Mod.drewN | apply Mod.alloc | refine Mod.setCell ?_ _ _ (by first | simp | (simp; omega))))) (by simp)) ⟨wr.heap.size, 0, none⟩ 1 1 [.int .i64 x] (by decide) rfl rfl (by intro j u hu; exact list_new_at _ _ _ _ (by simp) j u hu) (by intro u hu; simp at hu; rcases hu with rfl; rfl) (by unfold maxLen; omega) (by omega) ?_; intro v' w3 F' hs3 hm3 hf3)
          have NN := hsn.out v' _ w3 F' (by (repeat (first | exact Mod.refl _ _ | apply Mod.drew | apply Mod.drewN | apply Mod.alloc | refine Mod.setCell ?_ _ _ (by first | simp | (simp; omega))))) hs3 hm3 hf3
          go_ret
          refine ⟨_, rfl, ?_⟩
          unfold RNew
          rw [rngL_all a b c (Nat.le_trans ho2.out (by omega))]
          rw [rngL_all a b c ho2.out] at NN
          exact NN
      · have hxb : ¬ (b < x) := by rw [hx]; exact fun h => hlt ((rng_down hc0 k).2 h)
        have hall := Lib.hid (rngL_all a b c (Nat.le_of_not_lt hlt))
        have hall2 := Lib.hid (rngL_all a b c (k := n) (by omega))
        clear hlt hx hk
        go_wp2
        go_ret
        refine ⟨_, rfl, ?_⟩
        unfold RNew
        have := NV.out
        rw [hall.out] at this
        rw [hall2.out]; exact this
    · obtain rfl : k = n := by omega
      clear hx hk
      go_wp2
      go_ret
      exact ⟨_, rfl, NV.out⟩

set_option maxRecDepth 100000 in
set_option maxHeartbeats 1000000 in
theorem refRange_none {a b : Int} (n : Nat) (w : World) :
    Calls Try.prog 10 #[.int .i64 a, .int .i64 b, .int .i64 0, .int .i64 n] w fun e w' => ∃ v', e = .returned v' ∧ NewV 3 w [] w' v' := by
  go_enter Try.func10, Try.ntmps10
  go_wp2_with fail
  go_loopw [9, 10] (fun o s wr => o = .slice none 0 0 ∧ s = .int .i64 a ∧ wr = w) (fun _ s _ => 0)
  case atStart => exact ⟨rfl, rfl, rfl⟩
  case round =>
    obtain ⟨rfl, rfl, rfl⟩ := hrel
    by_cases hn : 0 < n
    · go_wp2
      go_ret
      exact ⟨_, rfl, NewV.nil 3 (Mod.refl _ _)⟩
    · obtain rfl : n = 0 := by omega
      go_wp2
      go_ret
      exact ⟨_, rfl, NewV.nil 3 (Mod.refl _ _)⟩

theorem refRange_c {a b c : Int} (ha9 : I64 a) (hb9 : I64 b) (hc9 : I64 c) (n : Nat) (hn : n ≤ 1000) (w : World) :
    Calls Try.prog 10 #[.int .i64 a, .int .i64 b, .int .i64 c, .int .i64 n] w fun e w' => ∃ v', e = .returned v' ∧ RNew a b c n w w' v' := by
  by_cases hp : 0 < c
  · exact refRange_up hp ha9 hb9 hc9 n hn w
  · by_cases hq : c < 0
    · exact refRange_down hq ha9 hb9 hc9 n hn w
    · obtain rfl : c = 0 := by omega
      have e : rngL a b 0 = [] := by simp [rngL, rngN]
      unfold RNew
      rw [e, List.take_nil, List.map_nil]; exact refRange_none n w
end Go.Proofs.Ytchbgnfmmplinaa

/- Clone, Of and its iterator, Same. -/
import Derived.Test.YtchbgnfmmplinaaE
set_option linter.unusedVariables false
set_option linter.unusedSimpArgs false
namespace Go.Proofs.Ytchbgnfmmplinaa
open Go.RowKit Go.Shelf
attribute [local go_sem] Oper.semAt_some

set_option maxHeartbeats 1000000 in
theorem clone_c {w : World} {v : Value} {xs : List Value} {F : List Nat} (h : Rv w v xs F) (h1 : ∀ u ∈ xs, u.oneCell' = true) (hl : xs.length ≤ 100000) :
    Calls Try.prog 26 #[v] w fun e w' => ∃ v', e = .returned v' ∧ NewV 3 w xs w' v' := by
  obtain ⟨A, cap, rfl, hc⟩ := h.shape
  obtain ⟨i0, hi, hz0, hz1, hz2⟩ := info_parts Try.info3
  have H := Lib.hid h
  have H1 := Lib.hid h1
  clear h h1
  generalize hn : xs.length = n at *
  have HN := Lib.hid hn
  clear hn
  have heq := fun (w : World) (a : Option Addr) (n c : Nat) => Go.Lib.run_eql_slice_nil (P := Try.prog) w 23 3 a n c 0 0 Try.underlying23
  cases A with
  | none =>
    have h0 : Hid (xs = []) := by
      have h1 := H.out.src
      rcases Nat.eq_zero_or_pos n with e | e
      · exact List.eq_nil_of_length_eq_zero (by rw [HN.out, e])
      · obtain ⟨a, e, _⟩ := h1 e; simp at e
    go_enter Try.func26, Try.ntmps26
    go_wp2_with fail
    go_ret
    refine ⟨_, rfl, ?_⟩
    rw [h0.out]; exact NewV.nil 3 (Mod.refl _ _)
  | some a =>
    go_enter Try.func26, Try.ntmps26
    go_wp2_with (at_builtin; refine wpList_append_slz _ rfl _ _ 23 rfl 3 i0 (.int .i64 0) 1 8 Try.underlying23 hi hz0 hz1 hz2 rfl (by decide) _ 0 [] [w.heap.size] rfl (Sl.lit w 3 1 0 #[] (by unfold maxLen; omega) rfl) (some a) n cap xs rfl (by rw [HN.out]; omega) (H.out.mod (S := []) (by (repeat (first | exact Mod.refl _ _ | apply Mod.drew | apply Mod.drewN | apply Mod.alloc | refine Mod.setCell ?_ _ _ (by first | simp | (simp; omega))))) (by simp)).src H1.out (by unfold maxLen; omega) (by omega) ?_; intro v' w1 F' hs1 hm1 hf1)
    go_ret
    exact ⟨_, rfl, NewV.of_empty hs1 HN.out hm1 hf1⟩

theorem ei_one (l : List Int) : ∀ u ∈ l.map ei, u.oneCell' = true := by
  intro u hu
  obtain ⟨x, _, rfl⟩ := List.mem_map.1 hu
  rfl

set_option maxRecDepth 100000 in
set_option maxHeartbeats 4000000 in
theorem ofI {w : World} {b : Nat} {v : Value} {l : List Int} {F : List Nat} (hb : Blk w b #[v] 23) (hv : Rv w v (l.map ei) F) (hF : ∀ k ∈ F, k < w.heap.size) (hl : l.length ≤ 100000) :
    Seq Try.prog 27 #[.pointer (some ⟨b, 0, none⟩)] ei (b :: F) l w := by
  refine ⟨?_, enters_of Try.func27 (by kernel_rfl) rfl, ?_⟩
  · intro k hk
    rcases List.mem_cons.1 hk with rfl | hk
    · exact hb.lt
    · exact hF k hk
  intro g J Jx W hW hkW hJ hJx hY h0
  obtain ⟨A, cap, rfl, hc⟩ := hv.shape
  have cb := (hb.keep hkW (by simp)).cell 0
  simp at cb
  have HV := Lib.hid hv
  have HKW := Lib.hid hkW
  have HY := Lib.hid hY
  have H0 := Lib.hid h0
  rw [List.length_map] at *
  generalize hn : l.length = n at *
  have HN := Lib.hid hn
  clear hb hv hF hkW hJ hJx hY h0 hn
  refine (callsIn_wide (n := 0)).1 (callsIn_of_wp Try.func27 rfl trivial ?_ rfl)
  simp only [Try.ntmps27, List.size_toArray, List.length_cons, List.length_nil, Nat.reduceAdd, Nat.reduceSub, Array.replicate_succ, Array.replicate_zero, List.push_toArray, List.append_toArray, List.nil_append, List.cons_append]
  gi_wp2
  gi_loopw [7] (fun i wr => ∃ k : Nat, i = .int .i64 k ∧ k ≤ n ∧ J [] (l.take k) wr ∧ Keep (b :: F) w wr) (fun i _ => n - (intOf i).toNat)
  case atStart => exact ⟨0, rfl, Nat.zero_le _, H0.out, HKW.out⟩
  case round =>
    obtain ⟨k, rfl, hk, hJ1, hK1⟩ := hrel
    have HK1 := Lib.hid hK1
    by_cases hlt : k < n
    · obtain ⟨b1, o1, rfl, d1⟩ := (HV.out.keep (hK1.mono' (fun q hq => by simp [hq]))).at k (by rw [List.length_map, HN.out]; exact hlt)
      have hlt' : k < l.length := by rw [HN.out]; exact hlt
      rw [List.getElem_map] at d1
      have hsp : Hid (l = l.take k ++ l[k] :: l.drop (k + 1)) := by show _ = _; rw [List.getElem_cons_drop, List.take_append_drop]
      have htk : Hid (l.take k ++ [l[k]] = l.take (k + 1)) := by show _ = _; rw [List.take_succ_eq_append_getElem hlt']
      unfold ei at d1
      generalize l[k] = x at *
      obtain ⟨fn, tmps, assign, body, hy, hR⟩ := HY.out [] _ x _ wr hsp.out hJ1 (by simp) hK1
      dsimp only [ei] at hy
      have HR := Lib.hid hR
      clear hR hK1 hJ1 hlt'
      gi_wp2
      refine ⟨rfl, ?_⟩
      refine RoundIn.mono (show RoundIn _ _ _ _ _ _ _ _ _ _ from HR.out) ?_
      rintro e V2 ⟨hs2, hk2, (⟨rfl, hj2⟩ | ⟨rfl, hj2⟩)⟩
      · have hK2 : Hid (Keep (b :: F) w V2) := HK1.out.trans (fun q hq => hk2 q (by simpa using hq))
        have HJ2 := Lib.hid hj2
        clear hk2 hj2 hs2
        gi_wp2
        go_roundw
        case rel => exact ⟨k + 1, by go_num, hlt, by rw [← htk.out]; exact HJ2.out, hK2.out⟩
        case measure => simp [intOf]; omega
      · have HJ2 := Lib.hid hj2
        clear hk2 hj2 hs2
        gi_wp2
        refine bodyPost_ret (results_none rfl _ _ _) rfl ⟨⟨_, rfl⟩, .inr ⟨_, ?_, HJ2.out⟩⟩
        rw [htk.out]; exact List.take_prefix _ _
    · obtain rfl : k = n := by omega
      have HJ1 := Lib.hid hJ1
      clear hJ1 hK1
      gi_wp2
      go_end0
      refine ⟨⟨_, rfl⟩, .inl ?_⟩
      have := HJ1.out
      rw [List.take_of_length_le (by rw [HN.out]; exact Nat.le_refl _)] at this
      exact this

set_option maxHeartbeats 1000000 in
/-- Of, called. -/
theorem of_c {w : World} {v : Value} {l : List Int} {F : List Nat} (h : Rv w v (l.map ei) F) (hl : l.length ≤ 100000) :
    Calls Try.prog 15 #[v] w fun e w' => ∃ lb', e = .returned (.func (.func 27) #[] lb') ∧ (∃ R', Seq Try.prog 27 lb' ei R' l w' ∧ ∀ k ∈ R', w.heap.size ≤ k) ∧ Mod [] w w' := by
  obtain ⟨A, cap, rfl, hc⟩ := h.shape
  have CC := Lib.hid (clone_c (h.mod (w' := w.alloc (.cells #[.slice A (l.map ei).length cap] 23)) (S := []) ((Mod.refl _ _).alloc _) (by simp)) (ei_one l) (by simpa using hl))
  clear h hc
  generalize (l.map ei).length = n at *
  go_enter Try.func15, Try.ntmps15
  go_wp2_with fail
  refine CC.out.mono ?_
  rintro e w2 ⟨v2, rfl, n2⟩
  have hb : Blk w2 w.heap.size #[.slice A n cap] 23 := (Blk.new _ _ _).mod n2.mod (by simp)
  have cb := hb.cell 0
  have fb := hb.froz 0
  simp at cb
  obtain ⟨A2, c2, rfl⟩ := n2.shape
  have hm2 : Hid (Mod [] w w2) := ((Mod.refl [] w).alloc (.cells #[.slice A n cap] 23)).trans n2.mod (by simp)
  obtain ⟨F2, hs2, _, hf2⟩ := n2
  have HB := Lib.hid hb
  have HS2 := Lib.hid hs2
  have HF2 : Hid (∀ k ∈ F2, w.heap.size < k) := fun k hk => by have := hf2 k hk; simp at this; omega
  clear hb hs2 hf2 CC
  generalize (l.map ei).length = n2 at *
  go_wp2
  go_ret
  have M : Mod [w.heap.size] w2 (w2.setCell ⟨w.heap.size, 0, none⟩ (.slice A2 n2 c2)) := (Mod.refl _ _).setCell _ _ (by simp)
  have hs3 := HS2.out.mod M (by intro k hk; have := HF2.out k hk; simp; omega)
  refine ⟨_, rfl, ⟨w.heap.size :: F2, ofI (v := .slice A2 n2 c2) (by simpa using HB.out.set 0 _) (Rv.of_sl hs3 ?_) hs3.lt hl, fun k hk => ?_⟩, hm2.out.trans M (by simp; omega)⟩
  · have := hs3.1; simpa using this.symm
  · rcases List.mem_cons.1 hk with rfl | hk
    · exact Nat.le_refl _
    · have := HF2.out k hk; omega
end Go.Proofs.Ytchbgnfmmplinaa

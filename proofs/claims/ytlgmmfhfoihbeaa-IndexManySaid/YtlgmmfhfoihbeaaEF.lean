/- The index's method grow, at one type of keys. -/
import Derived.Test.YtlgmmfhfoihbeaaDF
set_option linter.unusedVariables false
set_option linter.unusedSimpArgs false
namespace Go.Proofs.Ytlgmmfhfoihbeaa.F
open Go.RowKit

set_option maxHeartbeats 2000000 in
theorem grow_c {w : World} {b g n c : Nat} {T : Slots} {R : Nat → Nat → Prop} (hH : Hd w b g n c) (hT : Tab w g n T) (hw : IW n (hm n) T R c) (hgb : g ≠ b) (j : Nat) (hj : j + 1 ≤ 20) (hn : n = 2 ^ j) (hn2 : 2 ≤ n) :
    Calls Try.prog 26 #[.pointer (some ⟨b, 0, none⟩)] w fun e w' => e = .returned (.tuple #[]) ∧ ∃ T', Hd w' b w.heap.size (2 * n) c ∧ Tab w' w.heap.size (2 * n) T' ∧ IW (2 * n) (hm (2 * n)) T' R c ∧ Mod [b] w w' := by
  obtain ⟨cap, c0, c1, bf⟩ := hH.own
  have hbl := hH.lt
  have hgl := hT.lt
  have HH := Lib.hid hH
  have HT := Lib.hid hT
  have HW := Lib.hid hw
  have hn3 : n ≤ 524288 := by
    have h1 : 2 ^ j ≤ 2 ^ 19 := Nat.pow_le_pow_right (by omega) (by omega)
    omega
  have HN : Hid (2 * n = 2 ^ (j + 1)) := by rw [hn, Nat.pow_succ]; show _ = _; omega
  clear hH hT hw hn
  obtain ⟨g', hg'⟩ : ∃ g', g' = w.heap.size := ⟨_, rfl⟩
  rw [← hg']
  have hmk : ∀ w, (Instr.makeSlice 57 (.int .i64 (2 * (n : Int))) (.int .i64 (2 * (n : Int)))).run Try.prog w = .ok (.slice (some ⟨w.heap.size, 0, none⟩) (2 * n) (2 * n)) (w.alloc (.cells (madeCells #[.int .u32 0, .int .u32 0, .bool false] (2 * n * 3)) 62)) := make_c (2 * n) (by omega) (by omega)
  go_enter Try.func26, Try.ntmps26
  go_wp2
  have hmk' := hmk
  clear hmk hmk'
  have M0 : Mod [b] w ((w.setCell ⟨b, 0, none⟩ (.slice (some ⟨w.heap.size, 0, none⟩) (2 * n) (2 * n))).alloc (.cells (madeCells #[.int .u32 0, .int .u32 0, .bool false] (2 * n * 3)) 62)) := ((Mod.refl _ _).setCell _ _ (by simp)).alloc _
  have S0 : Hd ((w.setCell ⟨b, 0, none⟩ (.slice (some ⟨w.heap.size, 0, none⟩) (2 * n) (2 * n))).alloc (.cells (madeCells #[.int .u32 0, .int .u32 0, .bool false] (2 * n * 3)) 62)) b w.heap.size (2 * n) c := (HH.out.slots w.heap.size (2 * n) (2 * n)).mod ((Mod.refl [] _).alloc _) (by simp)
  have S1 : Tab ((w.setCell ⟨b, 0, none⟩ (.slice (some ⟨w.heap.size, 0, none⟩) (2 * n) (2 * n))).alloc (.cells (madeCells #[.int .u32 0, .int .u32 0, .bool false] (2 * n * 3)) 62)) w.heap.size (2 * n) (fun _ => (0, 0, false)) := Tab.made _ (2 * n) w.heap.size (by simp [World.setCell])
  rw [← hg'] at M0 S0 S1 ⊢
  have hgg : g' ≠ g := by omega
  have hgb' : g' ≠ b := by omega
  have HG := Lib.hid hg'
  clear hg'
  go_loopw [18] (fun v wr => ∃ (i c' : Nat) (T' : Slots), v = .int .i64 i ∧ i ≤ n ∧ c' = cnt T i ∧ Hd wr b g' (2 * n) c ∧ Tab wr g' (2 * n) T' ∧ Tab wr g n T ∧ IW (2 * n) (hm (2 * n)) T' (fun k id => ∃ l, l < i ∧ T l = (k, id, true)) c' ∧ Mod [b] w wr) (fun v _ => n - (intOf v).toNat)
  case atStart => exact ⟨0, 0, _, rfl, Nat.zero_le _, rfl, S0, S1, HT.out.mod M0 (by simpa using hgb), (IW.empty (fun k => hm_lt _ k (by omega))).congr (fun k id => by simp), M0⟩
  case round =>
    obtain ⟨i, c', T', rfl, hi, hcc, hH', hT', hTo, hW', hM⟩ := hrel
    have hbl' := hH'.lt
    have hgl' := hT'.lt
    have hol' := hTo.lt
    by_cases hlt : i < n
    · obtain ⟨cap', e0, _, _⟩ := hH'.own
      obtain ⟨⟨d0, d1, d2⟩, _⟩ := hTo.cells i hlt
      have hcn : c' < 2 * n := by have := cnt_le T i; omega
      have hc' := Lib.hid hcc
      clear hcc
      have H1 := Lib.hid hH'
      have H2 := Lib.hid hT'
      have H3 := Lib.hid hTo
      have H4 := Lib.hid hW'
      have H5 := Lib.hid hM
      clear hH' hT' hTo hW' hM S0 S1 M0 c0 c1 bf
      cases ho : (T i).2.2 with
      | false =>
        rw [ho] at d2
        have HO := Lib.hid ho
        clear ho
        go_wp2
        go_roundw
        case rel =>
          refine ⟨i + 1, c', T', rfl, hlt, (by rw [cnt, hc'.out, if_neg (by rw [show occ T i = false from HO.out]; simp)]; exact rfl), H1.out.mod (S := []) (by (repeat (first | exact Mod.refl _ _ | apply Mod.drew | apply Mod.drewN | apply Mod.alloc | refine Mod.setCell ?_ _ _ (by first | simp | (simp; omega))))) (by simp), H2.out.mod (S := []) (by (repeat (first | exact Mod.refl _ _ | apply Mod.drew | apply Mod.drewN | apply Mod.alloc | refine Mod.setCell ?_ _ _ (by first | simp | (simp; omega))))) (by simp), H3.out.mod (S := []) (by (repeat (first | exact Mod.refl _ _ | apply Mod.drew | apply Mod.drewN | apply Mod.alloc | refine Mod.setCell ?_ _ _ (by first | simp | (simp; omega))))) (by simp), H4.out.congr (fun k id => ?_), H5.out.trans' (Mod.mono (S := []) (by (repeat (first | exact Mod.refl _ _ | apply Mod.drew | apply Mod.drewN | apply Mod.alloc | refine Mod.setCell ?_ _ _ (by first | simp | (simp; omega))))) (by simp))⟩
          constructor
          · rintro ⟨l, hl, hTl⟩
            by_cases hli : l = i
            · subst hli; have h1 := HO.out; rw [hTl] at h1; simp at h1
            · exact ⟨l, by omega, hTl⟩
          · rintro ⟨l, hl, hTl⟩; exact ⟨l, by omega, hTl⟩
        case measure => simp [intOf]; omega
      | true =>
        rw [ho] at d2
        have hkb := HW.out.kb i hlt ho
        have FI := Lib.hid (find_m H1.out H2.out H4.out hcn (j + 1) hj HN.out (by omega) (key T i) hkb.1)
        have hno : ∀ id, ¬ ∃ l, l < i ∧ T l = (key T i, id, true) := by
          rintro id ⟨l, hl, hTl⟩
          have := HW.out.lp.uniq l i (by omega) hlt (by unfold occ; rw [hTl]) ho (by unfold key; rw [hTl]; rfl)
          omega
        obtain ⟨hp, _, hput⟩ := H4.out.find_out hcn hno
        have HP := Lib.hid (hput (T i).2.1 hkb.1 hkb.2)
        have HO := Lib.hid ho
        clear hput hno hkb ho
        generalize hpp : probe T' (2 * n) (key T i) (2 * n) (hm (2 * n) (key T i)) = p at *
        obtain ⟨⟨q0, q1, q2⟩, ff⟩ := H2.out.cells p hp
        have f0 := ff (p * 3)
        have f1 := ff (p * 3 + 1)
        have f2 := ff (p * 3 + 2)
        clear ff
        unfold key at *
        go_wp2
        go_region_with (go_at_call 25; refine (FI.out _ (by (repeat (first | exact Mod.refl _ _ | apply Mod.drew | apply Mod.drewN | apply Mod.alloc | refine Mod.setCell ?_ _ _ (by first | simp | (simp; omega)))))).mono ?_; rintro e' w' ⟨rfl, rfl⟩)
        all_goals
          go_wp2
          go_roundw
          case rel =>
            refine ⟨i + 1, c' + 1, put1 T' p ((T i).1, (T i).2.1, true), rfl, hlt, by rw [cnt, hc'.out, if_pos (by exact HO.out)], H1.out.mod (S := [g']) (by (repeat (first | exact Mod.refl _ _ | apply Mod.drew | apply Mod.drewN | apply Mod.alloc | refine Mod.setCell ?_ _ _ (by first | simp | (simp; omega))))) (by simp; omega), ?_, H3.out.mod (S := [g']) (by (repeat (first | exact Mod.refl _ _ | apply Mod.drew | apply Mod.drewN | apply Mod.alloc | refine Mod.setCell ?_ _ _ (by first | simp | (simp; omega))))) (by simp; omega), ?_, H5.out.trans (S' := [g']) (by (repeat (first | exact Mod.refl _ _ | apply Mod.drew | apply Mod.drewN | apply Mod.alloc | refine Mod.setCell ?_ _ _ (by first | simp | (simp; omega))))) (by have := HG.out; simp; omega)⟩
            · exact (Tab.store H2.out p hp ((T i).1, (T i).2.1, true)).mod (S := []) (by (repeat (first | exact Mod.refl _ _ | apply Mod.drew | apply Mod.drewN | apply Mod.alloc | refine Mod.setCell ?_ _ _ (by first | simp | (simp; omega))))) (by simp)
            · have e1 : T i = ((T i).1, (T i).2.1, true) := by rw [← HO.out]
              refine HP.out _ (fun k' id' => ?_)
              constructor
              · rintro ⟨l, hl, hTl⟩
                by_cases hli : l = i
                · subst hli; rw [hTl]; exact .inl ⟨rfl, rfl⟩
                · refine .inr ⟨fun hk => ?_, l, by omega, hTl⟩
                  exact hli (HW.out.lp.uniq l i (by omega) hlt (by unfold occ; rw [hTl]) HO.out (by unfold key; rw [hTl]; exact hk))
              · rintro (⟨rfl, rfl⟩ | ⟨hk, l, hl, hTl⟩)
                · exact ⟨i, by omega, e1⟩
                · exact ⟨l, by omega, hTl⟩
          case measure => simp [intOf]; omega
    · obtain rfl : i = n := by omega
      have H1 := Lib.hid hH'
      have H2 := Lib.hid hT'
      have H4 := Lib.hid hW'
      have H5 := Lib.hid hM
      clear hH' hT' hTo hW' hM S0 S1 M0 c0 c1 bf
      go_wp2
      go_end0
      refine ⟨rfl, T', H1.out, H2.out, ?_, H5.out⟩
      have h1 := H4.out.congr (fun k id => HW.out.r k id)
      have h2 : c' = c := by
        rw [hcc, HW.out.c]
      rw [h2] at h1
      exact h1
end Go.Proofs.Ytlgmmfhfoihbeaa.F

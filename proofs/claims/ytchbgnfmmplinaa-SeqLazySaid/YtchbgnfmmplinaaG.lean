/- Same; the chapter's examples (alive). -/
import Derived.Test.YtchbgnfmmplinaaF
set_option linter.unusedVariables false
set_option linter.unusedSimpArgs false
namespace Go.Proofs.Ytchbgnfmmplinaa
open Go.RowKit

def eqTo (l1 l2 : List Int) (i : Nat) : Prop := ∀ j, j < i → l1[j]? = l2[j]?
theorem eqTo.all {l1 l2 : List Int} (hl : l1.length = l2.length) (h : eqTo l1 l2 l1.length) : l1 = l2 := by
  apply List.ext_getElem?
  intro j
  by_cases hj : j < l1.length
  · exact h j hj
  · rw [List.getElem?_eq_none (by omega), List.getElem?_eq_none (by omega)]

set_option maxRecDepth 100000 in
set_option maxHeartbeats 1000000 in
theorem same_c {w : World} {v1 v2 : Value} {l1 l2 : List Int} {F1 F2 : List Nat} (h1 : Rv w v1 (l1.map ei) F1) (h2 : Rv w v2 (l2.map ei) F2) (hl1 : l1.length ≤ 100000) (hl2 : l2.length ≤ 100000) :
    Calls Try.prog 12 #[v1, v2] w fun e w' => e = .returned (.bool (decide (l1 = l2))) ∧ Mod [] w w' := by
  obtain ⟨A1, c1, rfl, hc1⟩ := h1.shape
  obtain ⟨A2, c2, rfl, hc2⟩ := h2.shape
  have H1 := Lib.hid h1
  have H2 := Lib.hid h2
  clear h1 h2
  rw [List.length_map] at *
  rw [List.length_map] at *
  generalize hn1 : l1.length = n1 at *
  generalize hn2 : l2.length = n2 at *
  have N1 := Lib.hid hn1
  have N2 := Lib.hid hn2
  clear hn1 hn2
  by_cases hne : n1 = n2
  · subst hne
    have hb : ((n1 : Int) != (n1 : Int)) = false := by simp
    go_enter Try.func12, Try.ntmps12
    go_wp2
    go_loopw [5] (fun i wr => ∃ k : Nat, i = .int .i64 k ∧ k ≤ n1 ∧ eqTo l1 l2 k ∧ Mod [] w wr) (fun i _ => n1 - (intOf i).toNat)
    case atStart => exact ⟨0, rfl, Nat.zero_le _, fun j hj => by omega, Mod.refl _ _⟩
    case round =>
      obtain ⟨k, rfl, hk, he, hm⟩ := hrel
      have HE := Lib.hid he
      have HM := Lib.hid hm
      clear he hm
      by_cases hlt : k < n1
      · obtain ⟨b1, o1, rfl, d1⟩ := (H1.out.mod HM.out (by simp)).at k (by rw [List.length_map, N1.out]; exact hlt)
        obtain ⟨b2, o2, rfl, d2⟩ := (H2.out.mod HM.out (by simp)).at k (by rw [List.length_map, N2.out]; exact hlt)
        rw [List.getElem_map] at d1 d2
        have g1 : Hid (l1[k]? = some (l1[k]'(by rw [N1.out]; exact hlt))) := List.getElem?_eq_getElem _
        have g2 : Hid (l2[k]? = some (l2[k]'(by rw [N2.out]; exact hlt))) := List.getElem?_eq_getElem _
        unfold ei at d1 d2
        generalize (l1[k]'(by rw [N1.out]; exact hlt)) = x1 at *
        generalize (l2[k]'(by rw [N2.out]; exact hlt)) = x2 at *
        by_cases hx : x1 = x2
        · subst hx
          have hbx : (x1 != x1) = false := by simp
          go_wp2
          go_quiet (fail)
          go_wp2
          go_roundw
          case rel =>
            refine ⟨k + 1, by go_num, by omega, fun j hj => ?_, HM.out.drewN _⟩
            by_cases e : j = k
            · subst e; rw [g1.out, g2.out]
            · exact HE.out j (by omega)
          case measure => simp [intOf]; omega
        · have hbx : (x1 != x2) = true := by rw [bne_iff_ne]; exact hx
          have hd : Hid (decide (l1 = l2) = false) := by
            show _ = _
            rw [decide_eq_false_iff_not]; rintro rfl
            rw [g1.out] at g2
            have := g2.out
            simp at this; exact hx this
          clear hx
          go_wp2
          go_quiet (fail)
          go_wp2
          go_ret
          exact ⟨by rw [hd.out]; rfl, HM.out.drewN _⟩
      · obtain rfl : k = n1 := by omega
        have hd : Hid (decide (l1 = l2) = true) := by
          show _ = _
          rw [decide_eq_true_iff]; exact eqTo.all (by rw [N1.out, N2.out]) (by rw [N1.out]; exact HE.out)
        go_wp2
        go_ret
        exact ⟨by rw [hd.out]; rfl, HM.out⟩
  · have hb : ((n1 : Int) != (n2 : Int)) = true := by rw [bne_iff_ne]; omega
    have hd : Hid (decide (l1 = l2) = false) := by
      show _ = _
      rw [decide_eq_false_iff_not]; rintro rfl; exact hne (N1.out.symm.trans N2.out)
    clear hne
    go_enter Try.func12, Try.ntmps12
    go_wp2
    go_ret
    exact ⟨by rw [hd.out]; rfl, Mod.refl _ _⟩

theorem Rv.lit (w : World) (l : List Int) (hl : l.length ≤ 100) : Rv (w.alloc (.cells (l.map ei).toArray 3)) (.slice (some ⟨w.heap.size, 0, none⟩) l.length l.length) (l.map ei) [w.heap.size] := by
  have := Sl.lit w 3 1 l.length (l.map ei).toArray (by unfold maxLen; omega) (by simp)
  exact Rv.of_sl (E := 3) (n := l.length) (by simpa using this) (by simp)

theorem rng1 : tk (rngL 0 10 4) 9 = [0, 4, 8] := by decide
theorem rng2 : tk (rngL 3 0 (-2)) 9 = [3, 1] := by decide
theorem rng3 : tk [7, 7] 5 = [7, 7] := by decide

set_option maxRecDepth 100000 in
set_option maxHeartbeats 2000000 in
theorem alive_c (w : World) : Calls Try.prog 9 #[] w fun e w' => e = .returned (.bool true) ∧ Mod [] w w' := by
  have i0 : I64 0 := ⟨by omega, by omega⟩
  have i10 : I64 10 := ⟨by omega, by omega⟩
  have i4 : I64 4 := ⟨by omega, by omega⟩
  have i3 : I64 3 := ⟨by omega, by omega⟩
  have i2 : I64 (-2) := ⟨by omega, by omega⟩
  have I := Lib.hid (And.intro i0 (And.intro i10 (And.intro i4 (And.intro i3 i2))))
  clear i0 i10 i4 i3 i2
  go_enter Try.func9, Try.ntmps9
  go_wp2_with fail
  refine (range_c I.out.1 I.out.2.1 I.out.2.2.1 w).mono ?_
  rintro e w1 ⟨lb1, rfl, ⟨R1, s1, _⟩, m1⟩
  have S1 := Lib.hid s1
  have M1 := Lib.hid m1
  clear s1 m1
  go_wp2_with fail
  refine (collect_c S1.out 9 (by omega) (by rw [rng1]; simp)).mono ?_
  rintro e w2 ⟨v2, rfl, n2⟩
  rw [rng1] at n2
  obtain ⟨A2, c2, rfl⟩ := n2.shape
  have N2 := Lib.hid n2
  clear n2
  go_wp2_with fail
  refine (same_c (l2 := [0, 4, 8]) (N2.out.rv.choose_spec.1.mod (S := []) (by (repeat (first | exact Mod.refl _ _ | apply Mod.drew | apply Mod.drewN | apply Mod.alloc | refine Mod.setCell ?_ _ _ (by first | simp | (simp; omega))))) (by simp)) (by exact Rv.lit w2 [0, 4, 8] (by simp)) (by simp) (by simp)).mono ?_
  rintro e w3 ⟨rfl, m3⟩
  have M3 : Hid (Mod [] w w3) := (M1.out.trans N2.out.mod (by simp)).trans (Mod.trans (S' := []) ((Mod.refl _ _).alloc _) m3 (fun _ _ h => h)) (by simp)
  clear m3
  go_wp2_with fail
  refine (range_c I.out.2.2.2.1 I.out.1 I.out.2.2.2.2 w3).mono ?_
  rintro e w4 ⟨lb4, rfl, ⟨R4, s4, _⟩, m4⟩
  have S4 := Lib.hid s4
  have M4 := Lib.hid m4
  clear s4 m4
  go_wp2_with fail
  refine (collect_c S4.out 9 (by omega) (by rw [rng2]; simp)).mono ?_
  rintro e w5 ⟨v5, rfl, n5⟩
  rw [rng2] at n5
  obtain ⟨A5, c5, rfl⟩ := n5.shape
  have N5 := Lib.hid n5
  clear n5
  go_wp2_with fail
  refine (same_c (l2 := [3, 1]) (N5.out.rv.choose_spec.1.mod (S := []) (by (repeat (first | exact Mod.refl _ _ | apply Mod.drew | apply Mod.drewN | apply Mod.alloc | refine Mod.setCell ?_ _ _ (by first | simp | (simp; omega))))) (by simp)) (by exact Rv.lit w5 [3, 1] (by simp)) (by simp) (by simp)).mono ?_
  rintro e w6 ⟨rfl, m6⟩
  have M6 : Hid (Mod [] w w6) := ((M3.out.trans M4.out (by simp)).trans N5.out.mod (by simp)).trans (Mod.trans (S' := []) ((Mod.refl _ _).alloc _) m6 (fun _ _ h => h)) (by simp)
  clear m6
  go_wp2_with fail
  refine (of_c (l := [7, 7]) (by exact Rv.lit w6 [7, 7] (by simp)) (by simp)).mono ?_
  rintro e w7 ⟨lb7, rfl, ⟨R7, s7, _⟩, m7⟩
  have S7 := Lib.hid s7
  have M7 : Hid (Mod [] w w7) := M6.out.trans (Mod.trans (S' := []) ((Mod.refl _ _).alloc _) m7 (fun _ _ h => h)) (by simp)
  clear s7 m7
  go_wp2_with fail
  refine (len_c S7.out 5 (by omega) (by rw [rng3]; simp)).mono ?_
  rintro e w8 ⟨rfl, m8⟩
  rw [rng3]
  have M8 := Lib.hid (M7.out.trans m8 (by simp))
  clear m8
  go_wp2
  go_ret
  exact ⟨rfl, M8.out⟩
end Go.Proofs.Ytchbgnfmmplinaa

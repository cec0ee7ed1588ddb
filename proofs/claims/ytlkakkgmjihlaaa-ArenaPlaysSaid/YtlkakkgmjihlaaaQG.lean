/- Same; the chapter's examples (alive). -/
import Derived.Test.YtlkakkgmjihlaaaQD
import Derived.Deep.QuietTactic
import Derived.BigQuiet
set_option linter.unusedVariables false
set_option linter.unusedSimpArgs false
namespace Go.Proofs.Ytlkakkgmjihlaaa
open Go.RowKit

def eqTo (l1 l2 : List Int) (i : Nat) : Prop := ∀ j, j < i → l1[j]? = l2[j]?
theorem eqTo.all {l1 l2 : List Int} (hl : l1.length = l2.length) (h : eqTo l1 l2 l1.length) : l1 = l2 := by
  apply List.ext_getElem?
  intro j
  by_cases hj : j < l1.length
  · exact h j hj
  · rw [List.getElem?_eq_none (by omega), List.getElem?_eq_none (by omega)]

set_option maxRecDepth 100000 in
set_option maxHeartbeats 1000000 in
theorem same_c {w : World} {v1 v2 : Value} {l1 l2 : List Int} {F1 F2 : List Nat} (h1 : Rv w v1 (l1.map ei) F1) (h2 : Rv w v2 (l2.map ei) F2) (hl1 : l1.length ≤ 100000) (hl2 : l2.length ≤ 100000) :
    Calls Try.prog 32 #[v1, v2] w fun e w' => e = .returned (.bool (decide (l1 = l2))) ∧ Mod [] w w' := by
  obtain ⟨A1, c1, rfl, hc1⟩ := h1.shape
  obtain ⟨A2, c2, rfl, hc2⟩ := h2.shape
  have H1 := Lib.hid h1
  have H2 := Lib.hid h2
  clear h1 h2
  rw [List.length_map] at *
  rw [List.length_map] at *
  generalize hn1 : l1.length = n1 at *
  generalize hn2 : l2.length = n2 at *
  have N1 := Lib.hid hn1
  have N2 := Lib.hid hn2
  clear hn1 hn2
  by_cases hne : n1 = n2
  · subst hne
    have hb : ((n1 : Int) != (n1 : Int)) = false := by simp
    go_enter Try.func32, Try.ntmps32
    go_wp2
    go_loopw [5] (fun i wr => ∃ k : Nat, i = .int .i64 k ∧ k ≤ n1 ∧ eqTo l1 l2 k ∧ Mod [] w wr) (fun i _ => n1 - (intOf i).toNat)
    case atStart => exact ⟨0, rfl, Nat.zero_le _, fun j hj => by omega, Mod.refl _ _⟩
    case round =>
      obtain ⟨k, rfl, hk, he, hm⟩ := hrel
      have HE := Lib.hid he
      have HM := Lib.hid hm
      clear he hm
      by_cases hlt : k < n1
      · obtain ⟨b1, o1, rfl, d1⟩ := (H1.out.mod HM.out (by simp)).at k (by rw [List.length_map, N1.out]; exact hlt)
        obtain ⟨b2, o2, rfl, d2⟩ := (H2.out.mod HM.out (by simp)).at k (by rw [List.length_map, N2.out]; exact hlt)
        rw [List.getElem_map] at d1 d2
        have g1 : Hid (l1[k]? = some (l1[k]'(by rw [N1.out]; exact hlt))) := List.getElem?_eq_getElem _
        have g2 : Hid (l2[k]? = some (l2[k]'(by rw [N2.out]; exact hlt))) := List.getElem?_eq_getElem _
        unfold ei at d1 d2
        generalize (l1[k]'(by rw [N1.out]; exact hlt)) = x1 at *
        generalize (l2[k]'(by rw [N2.out]; exact hlt)) = x2 at *
        by_cases hx : x1 = x2
        · subst hx
          have hbx : (x1 != x1) = false := by simp
          go_wp2
          go_quiet (fail)
          go_wp2
          go_roundw
          case rel =>
            refine ⟨k + 1, by go_num, by omega, fun j hj => ?_, HM.out.drewN _⟩
            by_cases e : j = k
            · subst e; rw [g1.out, g2.out]
            · exact HE.out j (by omega)
          case measure => simp [intOf]; omega
        · have hbx : (x1 != x2) = true := by rw [bne_iff_ne]; exact hx
          have hd : Hid (decide (l1 = l2) = false) := by
            show _ = _
            rw [decide_eq_false_iff_not]; rintro rfl
            rw [g1.out] at g2
            have := g2.out
            simp at this; exact hx this
          clear hx
          go_wp2
          go_quiet (fail)
          go_wp2
          go_ret
          exact ⟨by rw [hd.out]; rfl, HM.out.drewN _⟩
      · obtain rfl : k = n1 := by omega
        have hd : Hid (decide (l1 = l2) = true) := by
          show _ = _
          rw [decide_eq_true_iff]; exact eqTo.all (by rw [N1.out, N2.out]) (by rw [N1.out]; exact HE.out)
        go_wp2
        go_ret
        exact ⟨by rw [hd.out]; rfl, HM.out⟩
  · have hb : ((n1 : Int) != (n2 : Int)) = true := by rw [bne_iff_ne]; omega
    have hd : Hid (decide (l1 = l2) = false) := by
      show _ = _
      rw [decide_eq_false_iff_not]; rintro rfl; exact hne (N1.out.symm.trans N2.out)
    clear hne
    go_enter Try.func32, Try.ntmps32
    go_wp2
    go_ret
    exact ⟨by rw [hd.out]; rfl, Mod.refl _ _⟩

end Go.Proofs.Ytlkakkgmjihlaaa

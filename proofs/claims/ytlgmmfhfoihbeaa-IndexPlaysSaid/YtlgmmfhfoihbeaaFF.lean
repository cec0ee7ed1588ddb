/- The index's method Put, at one type of keys. -/
import Derived.Test.YtlgmmfhfoihbeaaEF
set_option linter.unusedVariables false
set_option linter.unusedSimpArgs false
namespace Go.Proofs.Ytlgmmfhfoihbeaa.F
open Go.RowKit

set_option maxHeartbeats 1000000 in
theorem put_old {w : World} {b g n c j : Nat} {T : Slots} {R R' : Nat → Nat → Prop} (hH : Hd w b g n c) (hT : Tab w g n T) (hw : IW n (hm n) T R c) (hc : c < n) (hj : j ≤ 20) (hn : n = 2 ^ j) (hn2 : 2 ≤ n) (k old id : Nat) (hk : k ≤ 4294967295) (hid : id ≤ 4294967295) (hR : R k old)
    (hR' : ∀ k' id', R' k' id' ↔ (k' = k ∧ id' = id) ∨ (k' ≠ k ∧ R k' id')) :
    Calls Try.prog 14 #[.pointer (some ⟨b, 0, none⟩), .int .u32 k, .int .u32 id] w fun e w' => e = .returned (.tuple #[.int .u32 old, .bool true]) ∧ ∃ T', Tab w' g n T' ∧ IW n (hm n) T' R' c ∧ Mod [g] w w' := by
  obtain ⟨cap, c0, c1, bf⟩ := hH.own
  have FI := Lib.hid (find_t hH hT hw hc j hj hn hn2 k hk)
  have NW := Lib.hid (hw.renum hR hid hR')
  obtain ⟨hp, hTp⟩ := hw.find_in hR
  have hn3 : n ≤ 1048576 := by
    have h1 : 2 ^ j ≤ 2 ^ 20 := Nat.pow_le_pow_right (by omega) (by omega)
    omega
  generalize probe T n k n (hm n k) = p at *
  obtain ⟨⟨d0, d1, d2⟩, ff⟩ := hT.cells p hp
  have f1 := ff (p * 3 + 1)
  rw [hTp] at d0 d1 d2
  have HT := Lib.hid hT
  have HP := Lib.hid hTp
  clear hH hT hw hn hR hR' ff c1 bf hTp
  go_enter Try.func14, Try.ntmps14
  go_wp2_with fail
  refine FI.out.mono ?_
  rintro e w' ⟨rfl, rfl⟩
  go_wp2
  go_ret2
  refine ⟨rfl, _, (Tab.store1 HT.out p hp id), ?_, by (repeat (first | exact Mod.refl _ _ | apply Mod.drew | apply Mod.drewN | apply Mod.alloc | refine Mod.setCell ?_ _ _ (by first | simp | (simp; omega))))⟩
  rw [HP.out]; exact NW.out

set_option maxHeartbeats 1000000 in
theorem put_new {w : World} {b g n c j : Nat} {T : Slots} {R R' : Nat → Nat → Prop} (hH : Hd w b g n c) (hT : Tab w g n T) (hw : IW n (hm n) T R c) (hgb : g ≠ b) (hc : c < n) (hj : j + 1 ≤ 20) (hn : n = 2 ^ j) (hn2 : 2 ≤ n) (k id : Nat) (hk : k ≤ 4294967295) (hid : id ≤ 4294967295) (hR : ∀ old, ¬ R k old)
    (hR' : ∀ k' id', R' k' id' ↔ (k' = k ∧ id' = id) ∨ (k' ≠ k ∧ R k' id')) :
    Calls Try.prog 14 #[.pointer (some ⟨b, 0, none⟩), .int .u32 k, .int .u32 id] w fun e w' => e = .returned (.tuple #[.int .u32 0, .bool false]) ∧
      ∃ g' n' T', Hd w' b g' n' (c + 1) ∧ Tab w' g' n' T' ∧ IW n' (hm n') T' R' (c + 1) ∧ ((n' = n ∧ g' = g ∧ 2 * (c + 1) ≤ n) ∨ (n' = 2 * n ∧ w.heap.size ≤ g' ∧ n < 2 * (c + 1))) ∧ Mod [b, g] w w' := by
  obtain ⟨cap, c0, c1, bf⟩ := hH.own
  have FI := Lib.hid (find_t hH hT hw hc j (by omega) hn hn2 k hk)
  obtain ⟨hp, hno, hput⟩ := hw.find_out hc hR
  have NW := Lib.hid (hput id hk hid R' hR')
  have hn3 : n ≤ 1048576 := by
    have h1 : 2 ^ j ≤ 2 ^ 20 := Nat.pow_le_pow_right (by omega) (by omega)
    omega
  have HN := Lib.hid hn
  generalize probe T n k n (hm n k) = p at *
  obtain ⟨⟨d0, d1, d2⟩, ff⟩ := hT.cells p hp
  have f0 := ff (p * 3)
  have f1 := ff (p * 3 + 1)
  have f2 := ff (p * 3 + 2)
  have b1 := bf 1
  unfold occ at hno
  rw [hno] at d2
  have HT := Lib.hid hT
  have HH := Lib.hid hH
  have hbg : b ≠ g := hgb.symm
  clear hH hT hw hn hR hR' ff bf hno hput
  generalize (T p).1 = x1 at *
  generalize (T p).2.1 = x2 at *
  go_enter Try.func14, Try.ntmps14
  go_wp2_with fail
  refine FI.out.mono ?_
  rintro e w' ⟨rfl, rfl⟩
  go_wp2
  go_quiet (fail)
  by_cases hbig : n < 2 * (c + 1)
  · go_wp2_with fail
    refine (grow_c (T := put1 T p (k, id, true)) (R := R') (c := c + 1) (g := g) (((HH.out.mod (S := [g]) (by (repeat (first | exact Mod.refl _ _ | apply Mod.drew | apply Mod.drewN | apply Mod.alloc | refine Mod.setCell ?_ _ _ (by first | simp | (simp; omega))))) (by simpa using hbg)).count (c + 1)).drewN _) (((Tab.store HT.out p hp (k, id, true)).mod (S := [b]) (by (repeat (first | exact Mod.refl _ _ | apply Mod.drew | apply Mod.drewN | apply Mod.alloc | refine Mod.setCell ?_ _ _ (by first | simp | (simp; omega))))) (by simpa using hgb)).drewN _) NW.out hgb j hj HN.out hn2).mono ?_
    rintro e w3 ⟨rfl, T', h1, h2, h3, h4⟩
    have X1 := Lib.hid h1
    have X2 := Lib.hid h2
    have X3 := Lib.hid h3
    have X4 := Lib.hid h4
    clear h1 h2 h3 h4
    go_wp2
    go_ret2
    exact ⟨rfl, _, _, T', X1.out, X2.out, X3.out, .inr ⟨rfl, by simp, hbig⟩, Mod.trans (S' := [b]) (by (repeat (first | exact Mod.refl _ _ | apply Mod.drew | apply Mod.drewN | apply Mod.alloc | refine Mod.setCell ?_ _ _ (by first | simp | (simp; omega))))) X4.out (by intro i _ h; simp at h; simp [h])⟩
  · go_wp2
    go_ret2
    exact ⟨rfl, g, n, _, (((HH.out.mod (S := [g]) (by (repeat (first | exact Mod.refl _ _ | apply Mod.drew | apply Mod.drewN | apply Mod.alloc | refine Mod.setCell ?_ _ _ (by first | simp | (simp; omega))))) (by simpa using hbg)).count (c + 1)).drewN _), (((Tab.store HT.out p hp (k, id, true)).mod (S := [b]) (by (repeat (first | exact Mod.refl _ _ | apply Mod.drew | apply Mod.drewN | apply Mod.alloc | refine Mod.setCell ?_ _ _ (by first | simp | (simp; omega))))) (by simpa using hgb)).drewN _), NW.out, .inl ⟨rfl, rfl, by omega⟩, by (repeat (first | exact Mod.refl _ _ | apply Mod.drew | apply Mod.drewN | apply Mod.alloc | refine Mod.setCell ?_ _ _ (by first | simp | (simp; omega))))⟩
end Go.Proofs.Ytlgmmfhfoihbeaa.F

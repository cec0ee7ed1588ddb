/- The index's method Drop, at one type of keys. -/
import Derived.Test.YtlgmmfhfoihbeaaDO
set_option linter.unusedVariables false
set_option linter.unusedSimpArgs false
namespace Go.Proofs.Ytlgmmfhfoihbeaa.O
open Go.RowKit

theorem home_m {w : World} {b g n c : Nat} (hH : Hd w b g n c) (j : Nat) (hj : j ≤ 20) (hn : n = 2 ^ j) (k : Nat) (hk : k ≤ 4294967295) :
    Calls Try.prog 24 #[.pointer (some ⟨b, 0, none⟩), .int .u32 k] w fun e w' => e = .returned (.int .i64 (hm n k)) ∧ w = w' := by
  obtain ⟨cap, c0, _⟩ := hH.own
  exact home_c j n hj hn k hk b _ cap w c0
theorem next_m {w : World} {b g n c : Nat} (hH : Hd w b g n c) (j : Nat) (hj : j ≤ 20) (hn : n = 2 ^ j) (i : Nat) (hi : i < n) :
    Calls Try.prog 23 #[.pointer (some ⟨b, 0, none⟩), .int .i64 i] w fun e w' => e = .returned (.int .i64 ((i + 1) % n : Nat)) ∧ w = w' := by
  obtain ⟨cap, c0, _⟩ := hH.own
  exact next_c j n hj hn i hi b _ cap w c0

set_option maxHeartbeats 1000000 in
theorem drop_none {w : World} {b g n c j : Nat} {T : Slots} {R : Nat → Nat → Prop} (hH : Hd w b g n c) (hT : Tab w g n T) (hw : IW n (hm n) T R c) (hc : c < n) (hj : j ≤ 20) (hn : n = 2 ^ j) (hn2 : 2 ≤ n) (k : Nat) (hk : k ≤ 4294967295) (hR : ∀ old, ¬ R k old) :
    Calls Try.prog 10 #[.pointer (some ⟨b, 0, none⟩), .int .u32 k] w fun e w' => e = .returned (.bool false) ∧ w = w' := by
  obtain ⟨cap, c0, c1, bf⟩ := hH.own
  have FI := Lib.hid (find_t hH hT hw hc j (by omega) hn hn2 k hk)
  obtain ⟨hp, hno, hput⟩ := hw.find_out hc hR
  have hn3 : n ≤ 1048576 := by
    have h1 : 2 ^ j ≤ 2 ^ 20 := Nat.pow_le_pow_right (by omega) (by omega)
    omega
  generalize probe T n k n (hm n k) = p at *
  obtain ⟨⟨d0, d1, d2⟩, ff⟩ := hT.cells p hp
  unfold occ at hno
  rw [hno] at d2
  clear hH hT hw hn hR ff bf hno hput
  go_enter Try.func10, Try.ntmps10
  go_wp2_with fail
  refine FI.out.mono ?_
  rintro e w' ⟨rfl, rfl⟩
  go_wp2
  go_ret
  exact ⟨rfl, rfl⟩

set_option maxRecDepth 100000 in
set_option maxHeartbeats 2000000 in
theorem drop_c {w : World} {b g n c j : Nat} {T : Slots} {R R' : Nat → Nat → Prop} (hH : Hd w b g n c) (hT : Tab w g n T) (hw : IW n (hm n) T R c) (hgb : g ≠ b) (hc : c < n) (hj : j ≤ 20) (hn : n = 2 ^ j) (hn2 : 2 ≤ n) (k old : Nat) (hk : k ≤ 4294967295) (hR : R k old)
    (hR' : ∀ k' id', R' k' id' ↔ k' ≠ k ∧ R k' id') :
    Calls Try.prog 10 #[.pointer (some ⟨b, 0, none⟩), .int .u32 k] w fun e w' => e = .returned (.bool true) ∧ 1 ≤ c ∧ ∃ T', Hd w' b g n (c - 1) ∧ Tab w' g n T' ∧ IW n (hm n) T' R' (c - 1) ∧ Mod [b, g] w w' := by
  obtain ⟨cap, c0, c1, bf⟩ := hH.own
  have b1 := bf 1
  have FI := Lib.hid (find_t hH hT hw hc j (by omega) hn hn2 k hk)
  obtain ⟨hp, hTp⟩ := hw.find_in hR
  have hn3 : n ≤ 1048576 := by
    have h1 : 2 ^ j ≤ 2 ^ 20 := Nat.pow_le_pow_right (by omega) (by omega)
    omega
  generalize probe T n k n (hm n k) = p at *
  obtain ⟨⟨d0, d1, d2⟩, _⟩ := hT.cells p hp
  rw [hTp] at d0 d1 d2
  obtain ⟨e, he, hee⟩ := cnt_empty (T := T) (n := n) (by rw [hw.c]; exact hc)
  have hkp : key T p = k := by unfold key; rw [hTp]
  have D0 := DInv.start hw.lp hn2 hp (by unfold occ; rw [hTp]) he hee
  rw [hkp] at D0
  have hc1 : 1 ≤ c := by
    have h1 := cnt_put1 T p (0, 0, false) n
    rw [show occ T p = true by unfold occ; rw [hTp]] at h1
    simp [hp] at h1
    rw [hw.c] at h1
    omega
  have hcc : ((c : Int) - 1) = ((c - 1 : Nat) : Int) := by omega
  have hH' := hH.count (c - 1)
  have hT' : Tab (w.setCell ⟨b, 1, none⟩ (.int .i64 (c - 1 : Nat))) g n T := hT.mod (S := [b]) (by (repeat (first | exact Mod.refl _ _ | apply Mod.drew | apply Mod.drewN | apply Mod.alloc | refine Mod.setCell ?_ _ _ (by first | simp | (simp; omega))))) (by simpa using hgb)
  rw [← hcc] at hH' hT'
  have NX := Lib.hid (next_m hH' j hj hn p hp)
  have HH := Lib.hid hH'
  have HT := Lib.hid hT'
  have HW := Lib.hid hw
  have HD := Lib.hid D0
  have HR := Lib.hid hR'
  have HN := Lib.hid hn
  have HC := Lib.hid hcc
  have hbg : b ≠ g := hgb.symm
  clear hH hT hw hn hR hR' bf hkp D0 hH' hT' hcc hee hTp
  go_enter Try.func10, Try.ntmps10
  go_wp2_with fail
  refine FI.out.mono ?_
  rintro e w' ⟨rfl, rfl⟩
  go_wp2_with fail
  refine NX.out.mono ?_
  rintro e w' ⟨rfl, rfl⟩
  go_wp2_with fail
  have M0 : Mod [b, g] w (w.setCell ⟨b, 1, none⟩ (.int .i64 ((c : Int) - 1))) := by (repeat (first | exact Mod.refl _ _ | apply Mod.drew | apply Mod.drewN | apply Mod.alloc | refine Mod.setCell ?_ _ _ (by first | simp | (simp; omega))))
  have hcn : cnt T n = c := HW.out.c
  clear NX c0 c1 b1 FI d0 d1 d2
  go_loopw [5, 6] (fun v u wr => ∃ (hole i : Nat) (T' : Slots), v = .int .i64 hole ∧ u = .int .i64 i ∧ Hd wr b g n (c - 1) ∧ Tab wr g n T' ∧ DInv n (hm n) T T' k hole i e ∧ cnt T' n = c ∧ Mod [b, g] w wr) (fun _ u _ => dist n (intOf u).toNat e)
  case atStart => exact ⟨p, _, T, rfl, rfl, HH.out, HT.out, HD.out, hcn, M0⟩
  case round =>
    obtain ⟨hole, i, T', rfl, rfl, hH, hT, hD, hC', hM⟩ := hrel
    have hi := hD.hi
    have hhole := hD.hh
    obtain ⟨cap', e0, _, _⟩ := hH.own
    obtain ⟨⟨d0, d1, d2⟩, _⟩ := hT.cells i hi
    obtain ⟨⟨q0, q1, q2⟩, ff⟩ := hT.cells hole hhole
    have f0 := ff (hole * 3)
    have f1 := ff (hole * 3 + 1)
    have f2 := ff (hole * 3 + 2)
    have H1 := Lib.hid hH
    have H2 := Lib.hid hT
    have H3 := Lib.hid hD
    have H4 := Lib.hid hC'
    have H5 := Lib.hid hM
    clear hH hT hD hC' hM ff HH HT HD M0 hcn
    cases ho : (T' i).2.2 with
    | false =>
      rw [ho] at d2
      have HO := Lib.hid ho
      clear ho
      go_wp2
      go_ret
      exact ⟨rfl, hc1, _, H1.out.mod (S := [g]) (by (repeat (first | exact Mod.refl _ _ | apply Mod.drew | apply Mod.drewN | apply Mod.alloc | refine Mod.setCell ?_ _ _ (by first | simp | (simp; omega))))) (by simpa using hbg), Tab.store H2.out hole hhole (0, 0, false), HW.out.dropped H3.out H4.out HO.out hc1 HR.out, H5.out.trans' (by (repeat (first | exact Mod.refl _ _ | apply Mod.drew | apply Mod.drewN | apply Mod.alloc | refine Mod.setCell ?_ _ _ (by first | simp | (simp; omega)))))⟩
    | true =>
      rw [ho] at d2
      have hkb : key T' i ≤ 4294967295 := by
        obtain ⟨l, hl, hTl⟩ := ((H3.out.same (T' i).1 (T' i).2.1).1 ⟨i, hi, H3.out.ne.symm, by rw [← ho]⟩).2
        have h1 := (HW.out.kb l hl (by unfold occ; rw [hTl])).1
        unfold key at h1 ⊢
        rw [hTl] at h1
        exact h1
      have HM := Lib.hid (home_m H1.out j hj HN.out (key T' i) hkb)
      have hie : i ≠ e := fun x => by
        have h1 := H3.out.oe
        unfold occ at h1
        rw [← x, ho] at h1; simp at h1
      have hme := Lib.hid (dist_next (n := n) hn2 hi he hie)
      have hdlt : hm n (key T' i) < n := hm_lt n _ (by omega)
      have a1 : bits .and .i64 ((i : Int) - (hm n (key T' i) : Int)) ((n : Int) - 1) = (dist n (hm n (key T' i)) i : Int) := by
        have := dist_mask (hm n (key T' i)) i j hj (by rw [← HN.out]; exact hdlt) (by rw [← HN.out]; exact hi)
        rw [← HN.out] at this; exact this
      have a2 : bits .and .i64 ((i : Int) - (hole : Int)) ((n : Int) - 1) = (dist n hole i : Int) := by
        have := dist_mask hole i j hj (by rw [← HN.out]; exact hhole) (by rw [← HN.out]; exact hi)
        rw [← HN.out] at this; exact this
      have hd1 := dist_lt (n := n) (a := hm n (key T' i)) (b := i) (by omega)
      have hd2 := dist_lt (n := n) (a := hole) (b := i) (by omega)
      have HO := Lib.hid ho
      have hni : (i + 1) % n < n := Nat.mod_lt _ (by omega)
      clear ho
      by_cases hge : dist n hole i ≤ dist n (hm n (key T' i)) i
      · have MV := Lib.hid (H3.out.move HO.out hge)
        generalize dist n hole i = x2 at *
        generalize dist n (hm n (key T' i)) i = x1 at *
        unfold key at *
        generalize hm n (T' i).1 = ho at *
        go_wp2_with fail
        refine HM.out.mono ?_
        rintro e' w' ⟨rfl, rfl⟩
        go_wp2
        go_region
        all_goals
          go_wp2_with fail
          refine (next_m (H1.out.mod (S := [g]) (by (repeat (first | exact Mod.refl _ _ | apply Mod.drew | apply Mod.drewN | apply Mod.alloc | refine Mod.setCell ?_ _ _ (by first | simp | (simp; omega))))) (by simpa using hbg)) j hj HN.out i hi).mono ?_
          rintro e' w' ⟨rfl, rfl⟩
          go_wp2
          go_roundw
          case rel =>
            refine ⟨i, (i + 1) % n, put1 T' hole (T' i), rfl, rfl, H1.out.mod (S := [g]) (by (repeat (first | exact Mod.refl _ _ | apply Mod.drew | apply Mod.drewN | apply Mod.alloc | refine Mod.setCell ?_ _ _ (by first | simp | (simp; omega))))) (by simpa using hbg), ?_, MV.out, ?_, H5.out.trans (S' := [g]) (by (repeat (first | exact Mod.refl _ _ | apply Mod.drew | apply Mod.drewN | apply Mod.alloc | refine Mod.setCell ?_ _ _ (by first | simp | (simp; omega))))) (by intro i _ h; simp at h; simp [h])⟩
            · have e1 : T' i = ((T' i).1, (T' i).2.1, true) := by rw [← HO.out]
              rw [e1]
              first
              | exact Tab.store (w := wr.drewN _) H2.out hole hhole _
              | exact Tab.store (w := wr.drew) H2.out hole hhole _
              | exact (Tab.store H2.out hole hhole ((T' i).1, (T' i).2.1, true)).drewN _
              | trace_state
            · have h1 := cnt_put1 T' hole (T' i) n
              have h2 := H3.out.oh
              have h3 := HO.out
              simp [h2, h3, hhole] at h1
              rw [h1, H4.out]
          case measure =>
            show dist n (((i + 1) % n : Nat) : Int).toNat e < dist n ((i : Int)).toNat e
            have h1 := hme.out
            have h2 : (((i + 1) % n : Nat) : Int).toNat = (i + 1) % n := Int.toNat_natCast _
            have h3 : ((i : Int)).toNat = i := Int.toNat_natCast _
            rw [h2, h3]
            omega
      · have ST := Lib.hid (H3.out.stay HO.out (by omega))
        generalize dist n hole i = x2 at *
        generalize dist n (hm n (key T' i)) i = x1 at *
        unfold key at *
        generalize hm n (T' i).1 = ho at *
        go_wp2_with fail
        refine HM.out.mono ?_
        rintro e' w' ⟨rfl, rfl⟩
        go_wp2_with fail
        refine (next_m H1.out j hj HN.out i hi).mono ?_
        rintro e' w' ⟨rfl, rfl⟩
        go_wp2
        go_roundw
        case rel => exact ⟨hole, (i + 1) % n, T', rfl, rfl, H1.out, H2.out, ST.out, H4.out, H5.out⟩
        case measure =>
          show dist n (((i + 1) % n : Nat) : Int).toNat e < dist n ((i : Int)).toNat e
          have h1 := hme.out
          have h2 : (((i + 1) % n : Nat) : Int).toNat = (i + 1) % n := Int.toNat_natCast _
          have h3 : ((i : Int)).toNat = i := Int.toNat_natCast _
          rw [h2, h3]
          omega
end Go.Proofs.Ytlgmmfhfoihbeaa.O

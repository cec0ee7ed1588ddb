/- Read. -/
import Derived.Test.YtkldjllnnbablaaDoorSE
set_option linter.unusedVariables false
set_option linter.unusedSimpArgs false
namespace Go.Proofs.YtkldjllnnbablaaDoor
open Go.RowKit Go.Shelf

/-- The digits of a text, the highest first; the number. -/
def dg (l : List UInt8) : List Nat := l.map fun c => c.toNat - 48
def rdv (l : List UInt8) : Nat := vl 10 (dg l).reverse
theorem dg_len (l : List UInt8) : (dg l).length = l.length := by simp [dg]
theorem dg_lt {l : List UInt8} (h : ∀ c ∈ l, isDig c = true) : ∀ x ∈ dg l, x < 10 := by
  intro x hx
  obtain ⟨c, hc, rfl⟩ := List.mem_map.1 hx
  have := (isDig_iff c).1 (h c hc)
  omega

set_option maxRecDepth 100000 in
set_option maxHeartbeats 4000000 in
/-- Read. -/
theorem read_c (s : ByteArray) (hs : s.size ≤ 10000) (w : World) (hd : ∀ c ∈ s.data.toList, isDig c = true) :
    Calls Tryd.prog 35 #[.string s] w fun e w' => ∃ v', e = .returned v' ∧ DNew w (rdv s.data.toList) w' v' := by
  obtain ⟨i0, hi, hz0, hz1, hz2⟩ := info_parts Tryd.info3
  obtain ⟨len, hn⟩ : ∃ n, s.size = n := ⟨_, rfl⟩
  have HLEN : Hid (s.data.toList.length = len) := by show _ = _; rw [← hn]; rfl
  have HD := Lib.hid hd
  clear hd
  go_enter Tryd.func35, Tryd.ntmps35
  go_wp2_with fail
  go_loopw [3, 4] (fun v i wr => ∃ k : Nat, i = .int .i64 ((k : Int) - 1) ∧ k ≤ len ∧ Hid (NewV 3 w (((dg s.data.toList).drop k).reverse.map ei) wr v)) (fun _ i _ => (intOf i + 1).toNat)
  case atStart =>
    refine ⟨len, rfl, Nat.le_refl _, ?_⟩
    show NewV _ _ _ _ _
    rw [List.drop_of_length_le (by rw [dg_len, HLEN.out]; exact Nat.le_refl _)]
    exact NewV.nil 3 (Mod.refl _ _)
  case round =>
    obtain ⟨k, hv, hk, HN⟩ := hrel
    rcases k with _ | j
    · obtain rfl := hv
      obtain ⟨Fo, ro, fo⟩ := HN.out.rv
      have HM := Lib.hid HN.out.mod
      rw [List.drop_zero] at ro
      have TR := Lib.hid (trim_c ro (by intro x hx; exact dg_lt HD.out x (by simpa using hx)) (by rw [List.length_reverse, dg_len, HLEN.out]; omega))
      have FO := Lib.hid fo
      clear ro fo HN
      go_wp2_with fail
      refine TR.out.mono ?_
      rintro e w' ⟨rfl, v', d, rfl, hdv⟩
      have HDV := Lib.hid hdv
      clear hdv
      go_wp2
      go_ret
      exact ⟨_, rfl, HM.out, d, Fo, HDV.out, FO.out⟩
    · have hv2 := hv.trans (show Value.int .i64 (((j + 1 : Nat) : Int) - 1) = .int .i64 (j : Int) by congr 1; omega)
      clear hv
      subst hv2
      have hj : j < s.data.toList.length := by rw [HLEN.out]; omega
      have hjs : j < s.size := by omega
      obtain ⟨Fo, so, mo, fo⟩ := HN.out
      obtain ⟨Ao, capo, rfl, hcapo⟩ := so.shape
      have SO := Lib.hid so
      have MO := Lib.hid mo
      have FO := Lib.hid fo
      have LO : Hid ((((dg s.data.toList).drop (j + 1)).reverse.map ei).length ≤ 10000) := by show _ ≤ _; rw [List.length_map, List.length_reverse, List.length_drop, dg_len, HLEN.out]; omega
      have hlo := LO.out
      have hdig := (isDig_iff _).1 (HD.out _ (List.getElem_mem hj))
      have STEP : Hid (((dg s.data.toList).drop j).reverse.map ei = ((dg s.data.toList).drop (j + 1)).reverse.map ei ++ [ei (s[j].toNat - 48)]) := by
        show _ = _
        rw [List.drop_eq_getElem_cons (by rw [dg_len]; exact hj), List.reverse_cons, List.map_append]
        congr 1
        simp only [dg, List.getElem_map, List.map_cons, List.map_nil]
        rfl
      have hdig2 : 48 ≤ s[j].toNat ∧ s[j].toNat ≤ 57 := hdig
      obtain ⟨x, hx⟩ : ∃ x, s[j].toNat = x := ⟨_, rfl⟩
      rw [hx] at STEP hdig2
      obtain ⟨y, hy⟩ : ∃ y, x - 48 = y := ⟨_, rfl⟩
      rw [hy] at STEP
      have hx1 : (48 : Int) ≤ x := by omega
      have hx2 : (x : Int) ≤ 57 := by omega
      have hsub : (x : Int) - 48 = (y : Int) := by omega
      clear hy
      generalize hln : (((dg s.data.toList).drop (j + 1)).reverse.map ei).length = lo at *
      have HLN := Lib.hid hln
      clear hln so mo fo HN hj hdig hdig2
      go_wp2_with (at_builtin; refine wpList_append_sl _ rfl _ _ 28 rfl 3 i0 (.int .i64 0) 1 8 Tryd.underlying28 hi hz0 hz1 hz2 rfl (by decide) _ lo _ Fo rfl (SO.out.mod (S := []) (by (repeat (first | exact Mod.refl _ _ | apply Mod.drew | apply Mod.drewN | apply Mod.alloc | refine Mod.setCell ?_ _ _ (by first | simp | (simp; omega))))) (by simp)) ⟨_, 0, none⟩ 1 1 [ei y] (by decide) rfl rfl (by intro j u hu; exact list_new_at _ _ _ _ (by simp) j u hu) (by intro u hu; simp at hu; subst hu; rfl) (by unfold maxLen; omega) (by omega) ?_; intro v5 w5 F5 hs5 hm5 hf5; have N5 := Lib.hid (NewV.app (l2 := [ei y]) MO.out FO.out HLN.out rfl (by (repeat (first | exact Mod.refl _ _ | apply Mod.drew | apply Mod.drewN | apply Mod.alloc | refine Mod.setCell ?_ _ _ (by first | simp | (simp; omega))))) hs5 hm5 hf5); obtain ⟨a5, cap5, rfl, _⟩ := hs5.shape; clear hs5 hm5 hf5)
      go_roundw
      case rel =>
        refine ⟨j, by go_num, by omega, ?_⟩
        show NewV _ _ _ _ _
        rw [STEP.out]
        exact N5.out
      case measure => simp [intOf]
end Go.Proofs.YtkldjllnnbablaaDoor

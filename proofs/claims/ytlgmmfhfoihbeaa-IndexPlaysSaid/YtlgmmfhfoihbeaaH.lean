/- The document's list of pairs: At, Without. -/
import Derived.Test.YtlgmmfhfoihbeaaSl
import Derived.Test.YtlgmmfhfoihbeaaK
import Derived.Deep.RegionLaw
set_option linter.unusedVariables false
set_option linter.unusedSimpArgs false
namespace Go.Proofs.Ytlgmmfhfoihbeaa
open Go.RowKit

def pairOf (p : Nat × Nat) : List Value := [.int .u32 p.1, .int .u32 p.2]
theorem pairOf_len (p : Nat × Nat) : (pairOf p).length = 2 := rfl

/-- m in memory. -/
abbrev Mem (v : Value) (L : List (Nat × Nat)) (w : World) (F : List Nat) : Prop := Sl w 43 2 v L.length (recs pairOf L) F

def el (L : List (Nat × Nat)) (i : Nat) : Nat × Nat := L.getD i (0, 0)
theorem el_get (L : List (Nat × Nat)) (i : Nat) (hi : i < L.length) : L[i] = el L i := by unfold el; simp [List.getD, hi]

theorem Mem.mod {S : List Nat} {w w' : World} {v : Value} {L : List (Nat × Nat)} {F : List Nat} (h : Mem v L w F) (m : Mod S w w') (hd : ∀ k ∈ F, k ∉ S) : Mem v L w' F := Sl.mod h m hd
theorem Mem.nil (w : World) : Mem (.slice none 0 0) [] w [] := Sl.nil w 43 2
theorem Mem.cell {w : World} {v : Value} {L : List (Nat × Nat)} {F : List Nat} (h : Mem v L w F) (i : Nat) (hi : i < L.length) :
    ∃ g cap, v = .slice (some ⟨g, 0, none⟩) L.length cap ∧ w.cell? ⟨g, i * 2, none⟩ = some (.int .u32 ((el L i).1 : Int)) ∧ w.cell? ⟨g, i * 2 + 1, none⟩ = some (.int .u32 ((el L i).2 : Int)) ∧ g < w.heap.size := by
  obtain ⟨g, cap, rfl, rfl, hcap⟩ := Sl.pos h (by omega)
  have h0 := Sl.at h (i * 2 + 0) (by omega)
  have h1 := Sl.at h (i * 2 + 1) (by omega)
  rw [recs_get pairOf_len _ _ _ hi (by omega), el_get L i hi] at h0 h1
  exact ⟨g, cap, rfl, h0.1, h1.1, Sl.lt h g (by simp)⟩

set_option maxHeartbeats 1000000 in
theorem at_some {w : World} {v : Value} {L : List (Nat × Nat)} {F : List Nat} (h : Mem v L w F) (k : Nat) (hlen : L.length ≤ 1000) (p : Nat) (hp : p < L.length) (hk : (el L p).1 = k) (hne : ∀ l, l < p → (el L l).1 ≠ k) :
    Calls Try.prog 13 #[v, .int .u32 k] w fun e w' => e = .returned (.int .i64 p) ∧ w = w' := by
  obtain ⟨g0, cap0, rfl, _⟩ := Sl.pos h (by omega)
  have H := Lib.hid h
  have HE := Lib.hid hne
  have HK := Lib.hid hk
  clear h hne hk
  generalize hn : L.length = n at *
  have HNN := Lib.hid hn
  clear hn
  go_enter Try.func13, Try.ntmps13
  go_wp2_with fail
  go_loop [5] (fun v => ∃ i : Nat, v = .int .i64 i ∧ i ≤ p) (fun v => n - (intOf v).toNat)
  case atStart => exact ⟨0, rfl, Nat.zero_le _⟩
  case round =>
    obtain ⟨i, rfl, hi⟩ := hrel
    obtain ⟨g, cap, hv, d0, d1, _⟩ := H.out.cell i (by rw [HNN.out]; omega)
    simp at hv
    obtain ⟨rfl, -⟩ := hv
    by_cases hip : i = p
    · subst hip
      rw [HK.out] at d0
      go_wp2
      go_ret
      exact ⟨rfl, rfl⟩
    · have hx := HE.out i (by omega)
      generalize (el L i).1 = x at *
      have hb : ((x : Int) == (k : Int)) = false := by rw [beq_eq_false_iff_ne]; omega
      clear hx
      go_wp2
      go_round
      case rel => exact ⟨i + 1, rfl, by omega⟩
      case measure => simp [intOf]; omega

set_option maxHeartbeats 1000000 in
theorem at_none {w : World} {v : Value} {L : List (Nat × Nat)} {F : List Nat} (h : Mem v L w F) (k : Nat) (hlen : L.length ≤ 1000) (hne : ∀ l, l < L.length → (el L l).1 ≠ k) :
    Calls Try.prog 13 #[v, .int .u32 k] w fun e w' => e = .returned (.int .i64 (-1)) ∧ w = w' := by
  obtain ⟨a0, cap0, rfl, _⟩ := Sl.shape h
  have H := Lib.hid h
  have HE := Lib.hid hne
  clear h hne
  generalize hn : L.length = n at *
  have HNN := Lib.hid hn
  clear hn
  go_enter Try.func13, Try.ntmps13
  go_wp2_with fail
  go_loop [5] (fun v => ∃ i : Nat, v = .int .i64 i ∧ i ≤ n) (fun v => n - (intOf v).toNat)
  case atStart => exact ⟨0, rfl, Nat.zero_le _⟩
  case round =>
    obtain ⟨i, rfl, hi⟩ := hrel
    by_cases hip : i < n
    · obtain ⟨g, cap, hv, d0, d1, _⟩ := H.out.cell i (by rw [HNN.out]; omega)
      simp at hv
      obtain ⟨rfl, -⟩ := hv
      have hx := HE.out i hip
      generalize (el L i).1 = x at *
      have hb : ((x : Int) == (k : Int)) = false := by rw [beq_eq_false_iff_ne]; omega
      clear hx
      go_wp2
      go_round
      case rel => exact ⟨i + 1, rfl, by omega⟩
      case measure => simp [intOf]; omega
    · go_wp2
      go_ret
      exact ⟨rfl, rfl⟩

def Wo (L : List (Nat × Nat)) (p i : Nat) : List (Nat × Nat) := (L.take i).eraseIdx p
theorem Wo_at {L : List (Nat × Nat)} {p : Nat} (hp : p < L.length) : Wo L p (p + 1) = Wo L p p := by
  unfold Wo
  have h0 : p - (L.take p).length = 0 := by rw [List.length_take]; omega
  rw [List.take_succ_eq_append_getElem hp, List.eraseIdx_append_of_length_le (by rw [List.length_take]; omega), h0, List.eraseIdx_of_length_le (l := L.take p) (by rw [List.length_take]; omega)]
  simp
theorem Wo_ne {L : List (Nat × Nat)} {p i : Nat} (hi : i < L.length) (h : i ≠ p) : Wo L p (i + 1) = Wo L p i ++ [el L i] := by
  unfold Wo
  rw [List.take_succ_eq_append_getElem hi, el_get L i hi]
  by_cases hpi : p < i
  · rw [List.eraseIdx_append_of_lt_length (by rw [List.length_take]; omega)]
  · rw [List.eraseIdx_of_length_le (by simp; omega), List.eraseIdx_of_length_le (by rw [List.length_take]; omega)]

theorem Try.info43 : (Try.prog.info? 43).map (fun i => (i.zero, i.size, i.bytes)) = some (some (.agg #[.int .u32 0, .int .u32 0]), 2, 8) := by kernel_rfl

theorem recs_snoc (L : List (Nat × Nat)) (x : Nat × Nat) : recs pairOf (L ++ [x]) = recs pairOf L ++ [.int .u32 x.1, .int .u32 x.2] := by
  unfold recs; simp [pairOf]

set_option maxHeartbeats 2000000 in
theorem without_c {w : World} {v : Value} {L : List (Nat × Nat)} {F : List Nat} (h : Mem v L w F) (hlen : L.length ≤ 1000) (p : Nat) (hp : p < L.length) :
    Calls Try.prog 15 #[v, .int .i64 p] w fun e w' => ∃ v', e = .returned v' ∧ ∃ F', Mem v' (L.eraseIdx p) w' F' ∧ Mod [] w w' ∧ ∀ k ∈ F', w.heap.size ≤ k := by
  obtain ⟨g0, cap0, rfl, _⟩ := Sl.pos h (by omega)
  obtain ⟨i0, hi, hz0, hz1, hz2⟩ := info_parts Try.info43
  have hlt0 : ∀ k ∈ F, k < w.heap.size := Sl.lt h
  have H := Lib.hid h
  have HF := Lib.hid hlt0
  clear h hlt0
  generalize hn : L.length = n at *
  have HNN := Lib.hid hn
  clear hn
  go_enter Try.func15, Try.ntmps15
  go_wp2_with fail
  go_loopw [5, 6] (fun o v wr => ∃ (i : Nat) (Fo : List Nat), v = .int .i64 i ∧ i ≤ n ∧ Mem o (Wo L p i) wr Fo ∧ Mod [] w wr ∧ ∀ k ∈ Fo, w.heap.size ≤ k) (fun _ v _ => n - (intOf v).toNat)
  case atStart => exact ⟨0, [], rfl, Nat.zero_le _, by simpa [Wo] using Mem.nil w, Mod.refl _ _, by simp⟩
  case round =>
    obtain ⟨i, Fo, rfl, hin, hm, hM, hfr⟩ := hrel
    obtain ⟨ao, capo, rfl, _⟩ := Sl.shape hm
    have H1 := Lib.hid hm
    have H2 := Lib.hid hM
    have H3 := Lib.hid hfr
    clear hm hM hfr
    by_cases hlt : i < n
    · have HL := Lib.hid ((Mem.mod H.out H2.out (by simp)).cell i (by rw [HNN.out]; omega))
      obtain ⟨g, cap, hv, d0, d1, hgl⟩ := HL.out
      simp at hv
      obtain ⟨rfl, -⟩ := hv
      clear HL
      by_cases hip : i = p
      · subst hip
        have e1 := Lib.hid (Wo_at (L := L) (p := i) (by rw [HNN.out]; omega))
        clear hp
        go_wp2
        go_roundw
        case rel => exact ⟨i + 1, Fo, rfl, hlt, by rw [e1.out]; exact H1.out, H2.out, H3.out⟩
        case measure => simp [intOf]; omega
      · have e1 := Lib.hid (Wo_ne (L := L) (p := p) (i := i) (by rw [HNN.out]; omega) hip)
        have hb : ((i : Int) != (p : Int)) = true := by rw [bne_iff_ne]; omega
        have hw1 : (Wo L p i).length ≤ i := by
          unfold Wo
          have := List.length_eraseIdx_le (L.take i) p
          have h2 : (L.take i).length ≤ i := by rw [List.length_take]; omega
          omega
        generalize hx1 : (el L i).1 = x1 at *
        generalize hx2 : (el L i).2 = x2 at *
        have HX1 := Lib.hid hx1
        have HX2 := Lib.hid hx2
        have e2 : Hid (recs pairOf (Wo L p (i + 1)) = recs pairOf (Wo L p i) ++ [.int .u32 x1, .int .u32 x2]) := by
          rw [e1.out, recs_snoc, HX1.out, HX2.out]; exact rfl
        have e3 : Hid ((Wo L p (i + 1)).length = (Wo L p i).length + 1) := by show _ = _; rw [e1.out]; simp
        clear hx1 hx2 HX1 HX2 e1 hip
        have H1' : Hid (Sl wr 43 2 (.slice ao (Wo L p i).length capo) (Wo L p i).length (recs pairOf (Wo L p i)) Fo) := H1.out
        clear H1
        generalize (Wo L p i).length = m at *
        go_wp2_with (at_builtin; refine wpList_append_sl _ rfl _ _ 38 rfl 43 i0 (.agg #[.int .u32 0, .int .u32 0]) 2 8 Try.underlying38 hi hz0 hz1 hz2 rfl (by decide) _ m (recs pairOf (Wo L p i)) Fo rfl (Sl.mod H1'.out (S := []) (by (repeat (first | exact Mod.refl _ _ | apply Mod.drew | apply Mod.drewN | apply Mod.alloc | refine Mod.setCell ?_ _ _ (by first | simp | (simp; omega))))) (by simp)) ⟨wr.heap.size, 0, none⟩ 1 1 [.int .u32 x1, .int .u32 x2] (by decide) rfl rfl (by intro j u hu; exact list_new_at _ _ _ _ (by simp) j u hu) (by intro u hu; simp at hu; rcases hu with rfl | rfl <;> rfl) (by unfold maxLen; omega) (by omega) ?_; intro v' w1 F' hs1 hm1 hf1)
        have hsz : w.heap.size ≤ wr.heap.size := H2.out.size
        have hfr := H3.out
        go_roundw
        case rel =>
          refine ⟨i + 1, F', rfl, hlt, ?_, H2.out.trans (Mod.trans (S := Fo) (S' := Fo) (by (repeat (first | exact Mod.refl _ _ | apply Mod.drew | apply Mod.drewN | apply Mod.alloc | refine Mod.setCell ?_ _ _ (by first | simp | (simp; omega))))) hm1 (fun _ _ h => h)) (fun k hk hm => by have := hfr k hm; omega), fun k hk => ?_⟩
          · show Sl w1 43 2 v' (Wo L p (i + 1)).length (recs pairOf (Wo L p (i + 1))) F'
            rw [e2.out, e3.out]; exact hs1
          · rcases hf1 k hk with h1 | h1
            · exact hfr k h1
            · simp at h1; omega
        case measure => simp [intOf]; omega
    · obtain rfl : i = n := by omega
      have he : Hid (Wo L p i = L.eraseIdx p) := by show _ = _; unfold Wo; rw [List.take_of_length_le (by rw [HNN.out]; omega)]
      go_wp2
      go_ret
      exact ⟨_, rfl, Fo, by rw [← he.out]; exact H1.out, H2.out, H3.out⟩
end Go.Proofs.Ytlgmmfhfoihbeaa

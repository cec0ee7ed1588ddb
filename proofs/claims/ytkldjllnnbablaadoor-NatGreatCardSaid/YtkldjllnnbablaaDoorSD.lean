/- The reference's Text, Written, Read. -/
import Derived.Test.YtkldjllnnbablaaDoorSC
import Derived.Laws.IdiomStrings
import Derived.Laws.BytesString
set_option linter.unusedVariables false
set_option linter.unusedSimpArgs false
namespace Go.Proofs.YtkldjllnnbablaaDoor
open Go.RowKit Go.Shelf

/-- Bytes as cells. -/
def bc (l : List UInt8) : List Value := l.map fun c => .int .u8 c.toNat
theorem bc_one (l : List UInt8) : ∀ u ∈ bc l, u.oneCell' = true := by
  intro u hu
  obtain ⟨x, _, rfl⟩ := List.mem_map.1 hu
  rfl
theorem bc_append (l l' : List UInt8) : bc (l ++ l') = bc l ++ bc l' := by simp [bc]
theorem bc_length (l : List UInt8) : (bc l).length = l.length := by simp [bc]
theorem bc_get (l : List UInt8) (i : Nat) (h : i < l.length) : (bc l)[i]? = some (.int .u8 l[i].toNat) := by simp [bc, h]

theorem conv_bc {w : World} {A : Option Addr} {n cap : Nat} {l : List UInt8} {F : List Nat} (h : Rv w (.slice A n cap) (bc l) F) : (convert 68 9 (.slice A n cap)).run Tryd.prog w = .ok (.string ⟨l.toArray⟩) w := by
  obtain ⟨hn, hc⟩ := h.len
  rw [bc_length] at hn
  subst hn
  cases A with
  | none =>
    have h0 : l.length = 0 := by
      rcases Nat.eq_zero_or_pos l.length with e | e
      · exact e
      · obtain ⟨a, e, _⟩ := h.src e; simp at e
    rw [run_convert_bytes_string w 68 9 5 none _ _ Tryd.underlying68 Tryd.underlying5 Tryd.underlying9, List.eq_nil_of_length_eq_zero h0]
    simp [Conv.bytesToString, Sem.run_pure]
    rfl
  | some a =>
    refine run_convert_bytes_back w 68 9 5 a cap l Tryd.underlying68 Tryd.underlying5 Tryd.underlying9 (fun j hj => ?_)
    obtain ⟨a', e, hh⟩ := h.src (by omega)
    simp at e; subst e
    exact hh j _ (bc_get l j hj)

/-- What is written of digits, from the highest down to k. -/
def tx (d : List Nat) (k : Nat) : List UInt8 := (d.drop k).reverse.map fun x => UInt8.ofNat (48 + x)
theorem tx_step (d : List Nat) (k : Nat) (h : k < d.length) : tx d k = tx d (k + 1) ++ [UInt8.ofNat (48 + d[k])] := by
  unfold tx
  rw [List.drop_eq_getElem_cons h, List.reverse_cons, List.map_append]; rfl
theorem tx_len (d : List Nat) (k : Nat) : (tx d k).length = d.length - k := by simp [tx]
theorem u8_digit {x : Nat} (h : x < 10) : (UInt8.ofNat (48 + x)).toNat = 48 + x := by
  rw [UInt8.toNat_ofNat']; omega

set_option maxRecDepth 100000 in
set_option maxHeartbeats 4000000 in
/-- Text of digits. -/
theorem refText_c {w : World} {v : Value} {d F : List Nat} {n : Nat} (h : Dv w v d n F) (hl : d.length ≤ 10000) :
    Calls Tryd.prog 33 #[v] w fun e w' => e = .returned (.string ⟨(textOf d).toArray⟩) ∧ Mod [] w w' := by
  obtain ⟨i0, hi, hz0, hz1, hz2⟩ := info_parts Tryd.info5
  obtain ⟨A, cap, rfl, hc⟩ := h.1.shape
  have H := Lib.hid h
  clear h
  rw [List.length_map] at H hc ⊢
  obtain ⟨len, hn⟩ : ∃ n, d.length = n := ⟨_, rfl⟩
  rw [hn] at H hc hl ⊢
  have HLEN := Lib.hid hn
  clear hn
  by_cases h0 : len = 0
  · subst h0
    have E0 := Lib.hid (List.length_eq_zero_iff.1 HLEN.out)
    go_enter Tryd.func33, Tryd.ntmps33
    go_wp2
    go_ret
    refine ⟨?_, Mod.refl _ _⟩
    rw [E0.out]; rfl
  · have HX : Hid (textOf d = tx d 0) := by
      show _ = _
      unfold textOf tx
      rw [if_neg (by intro e; rw [e] at HLEN; exact h0 HLEN.out.symm)]; rfl
    have hb0 : ((len : Int) == 0) = false := by rw [beq_eq_false_iff_ne]; omega
    go_enter Tryd.func33, Tryd.ntmps33
    go_wp2_with fail
    go_loopw [3, 4] (fun v i wr => ∃ k : Nat, i = .int .i64 ((k : Int) - 1) ∧ k ≤ len ∧ Hid (NewV 5 w (bc (tx d k)) wr v)) (fun _ i _ => (intOf i + 1).toNat)
    case atStart =>
      refine ⟨len, rfl, Nat.le_refl _, ?_⟩
      show NewV _ _ _ _ _
      unfold tx
      rw [List.drop_of_length_le (by rw [HLEN.out]; exact Nat.le_refl _)]
      exact NewV.nil 5 (Mod.refl _ _)
    case round =>
      obtain ⟨k, hv, hk, HN⟩ := hrel
      rcases k with _ | j
      · obtain rfl := hv
        obtain ⟨Fo, ro, -⟩ := HN.out.rv
        obtain ⟨Ao, capo, rfl, -⟩ := ro.shape
        have CV := conv_bc ro
        have HM := Lib.hid HN.out.mod
        clear ro HN
        generalize (bc (tx d 0)).length = lo at *
        rw [← HX.out] at CV
        go_wp2
        go_ret
        exact ⟨rfl, HM.out⟩
      · have hv2 := hv.trans (show Value.int .i64 (((j + 1 : Nat) : Int) - 1) = .int .i64 (j : Int) by congr 1; omega)
        clear hv
        subst hv2
        have hj : j < d.length := by rw [HLEN.out]; omega
        obtain ⟨Fo, so, mo, fo⟩ := HN.out
        obtain ⟨Ao, capo, rfl, hcapo⟩ := so.shape
        have SO := Lib.hid so
        have MO := Lib.hid mo
        have FO := Lib.hid fo
        have LO : Hid ((bc (tx d (j + 1))).length ≤ 10000) := by show _ ≤ _; rw [bc_length, tx_len, HLEN.out]; omega
        have hlo := LO.out
        obtain ⟨b1, o1, rfl, d1⟩ := (H.out.1.mod MO.out (by simp)).at j (by rw [List.length_map]; exact hj)
        rw [List.getElem_map] at d1
        unfold ei at d1
        have STEP := Lib.hid (tx_step d j hj)
        have hx10 : d[j] < 10 := H.out.2.lt _ (List.getElem_mem _)
        generalize d[j] = x at *
        obtain ⟨c, hcc⟩ : ∃ c, UInt8.ofNat (48 + x) = c := ⟨_, rfl⟩
        have hcv : IntKind.u8.wrap (48 + (x : Int)) = (c.toNat : Int) := by
          rw [← hcc, u8_digit hx10, IntKind.wrap_u8]; omega
        rw [hcc] at STEP
        generalize hln : (bc (tx d (j + 1))).length = lo at *
        have HLN := Lib.hid hln
        clear hcc hln so mo fo HN hj
        go_wp2_with (at_builtin; refine wpList_append_sl _ rfl _ _ 68 rfl 5 i0 (.int .u8 0) 1 1 Tryd.underlying68 hi hz0 hz1 hz2 rfl (by decide) _ lo (bc (tx d (j + 1))) Fo rfl (SO.out.mod (S := []) (by (repeat (first | exact Mod.refl _ _ | apply Mod.drew | apply Mod.drewN | apply Mod.alloc | refine Mod.setCell ?_ _ _ (by first | simp | (simp; omega))))) (by simp)) ⟨_, 0, none⟩ 1 1 [.int .u8 c.toNat] (by decide) rfl rfl (by intro j u hu; exact list_new_at _ _ _ _ (by simp) j u hu) (by intro u hu; simp at hu; subst hu; rfl) (by unfold maxLen; omega) (by omega) ?_; intro v5 w5 F5 hs5 hm5 hf5; have N5 := Lib.hid (NewV.app (l := bc (tx d (j + 1))) (l2 := [.int .u8 c.toNat]) MO.out FO.out HLN.out rfl (by (repeat (first | exact Mod.refl _ _ | apply Mod.drew | apply Mod.drewN | apply Mod.alloc | refine Mod.setCell ?_ _ _ (by first | simp | (simp; omega))))) hs5 hm5 hf5); obtain ⟨a5, cap5, rfl, _⟩ := hs5.shape; clear hs5 hm5 hf5)
        go_roundw
        case rel =>
          refine ⟨j, by go_num, by omega, ?_⟩
          show NewV _ _ _ _ _
          rw [STEP.out, bc_append]
          exact N5.out
        case measure => simp [intOf]
end Go.Proofs.YtkldjllnnbablaaDoor

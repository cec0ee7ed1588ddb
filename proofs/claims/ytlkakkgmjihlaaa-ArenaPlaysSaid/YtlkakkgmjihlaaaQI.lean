/- The arena's ids, as a row. -/
import Derived.Test.YtlkakkgmjihlaaaQG
import Derived.Test.YtlkakkgmjihlaaaG
set_option linter.unusedVariables false
set_option linter.unusedSimpArgs false
namespace Go.Proofs.Ytlkakkgmjihlaaa
open Go.RowKit Go.Shelf
attribute [local go_sem] Oper.semAt_some

/-- Has a place a thing? -/
def isIn (A : AR Int) (j : Nat) : Bool := match A.cells[j]? with | some (_, l, _) => l | none => false
/-- The ids below a place. -/
def idsTo (A : AR Int) (i : Nat) : List Int := ((List.range i).filter (isIn A)).map fun (j : Nat) => (j : Int) + 2
def idsL (A : AR Int) : List Int := idsTo A A.cells.length
theorem idsTo_succ (A : AR Int) (i : Nat) : idsTo A (i + 1) = idsTo A i ++ (if isIn A i then [(i : Int) + 2] else []) := by
  unfold idsTo
  rw [List.range_succ, List.filter_append, List.map_append]
  congr 1
  by_cases h : isIn A i = true <;> simp [h]
theorem idsTo_pre (A : AR Int) {i n : Nat} (h : i ≤ n) : idsTo A i <+: idsTo A n := by
  induction n with
  | zero => obtain rfl : i = 0 := by omega
            exact List.prefix_refl _
  | succ n ih =>
    rcases Nat.lt_or_ge n i with q | q
    · obtain rfl : i = n + 1 := by omega
      exact List.prefix_refl _
    · exact (ih q).trans (by rw [idsTo_succ]; exact List.prefix_append _ _)
theorem idsTo_len (A : AR Int) (i : Nat) : (idsTo A i).length ≤ i := by
  unfold idsTo
  rw [List.length_map]
  exact Nat.le_trans (List.length_filter_le _ _) (by rw [List.length_range]; exact Nat.le_refl _)

theorem IsAr.keep {X : List Nat} {w w' : World} {b : Nat} {A : AR Int} {F : List Nat} (h : I.IsAr w b A F) (m : Keep X w w') (hd : ∀ k ∈ F, k ∈ X) : I.IsAr w' b A F := by
  obtain ⟨vc, vf, Fc, Ff, hb, hc, hf, rfl, r⟩ := h
  exact ⟨vc, vf, Fc, Ff, hb.keep m (hd b (by simp)), hc.keep (fun k hk => m k (hd k (by simp [hk]))), hf.keep (fun k hk => m k (hd k (by simp [hk]))), rfl, r⟩

set_option maxHeartbeats 1000000 in
theorem ids_nilI {w : World} {bx : Nat} (hb : Blk w bx #[.pointer none] 37) : Seq Try.prog 35 #[.pointer (some ⟨bx, 0, none⟩)] ei [bx] ([] : List Int) w := by
  refine ⟨?_, enters_of Try.func35 (by kernel_rfl) rfl, ?_⟩
  · intro k hk
    simp at hk; subst hk; exact hb.lt
  intro l J Jx W hW hkW hJ hJx hY h0
  have cb := (hb.keep hkW (by simp)).cell 0
  simp at cb
  have H0 := Lib.hid h0
  clear hb hkW hJ hJx hY h0
  refine (callsIn_wide (n := 0)).1 (callsIn_of_wp Try.func35 rfl trivial ?_ rfl)
  simp only [Try.ntmps35, List.size_toArray, List.length_cons, List.length_nil, Nat.reduceAdd, Nat.reduceSub, Array.replicate_succ, Array.replicate_zero, List.push_toArray, List.append_toArray, List.nil_append, List.cons_append]
  gi_wp2
  refine bodyPost_ret (results_none rfl _ _ _) rfl ⟨⟨_, rfl⟩, .inl H0.out⟩

set_option maxRecDepth 100000 in
set_option maxHeartbeats 4000000 in
theorem idsI {w : World} {bx b : Nat} {A : AR Int} {F : List Nat} (hb : Blk w bx #[.pointer (some ⟨b, 0, none⟩)] 37) (ha : I.IsAr w b A F) (hwf : A.WF) :
    Seq Try.prog 35 #[.pointer (some ⟨bx, 0, none⟩)] ei (bx :: F) (idsL A) w := by
  refine ⟨?_, enters_of Try.func35 (by kernel_rfl) rfl, ?_⟩
  · intro k hk
    rcases List.mem_cons.1 hk with rfl | hk
    · exact hb.lt
    · exact ha.lt k hk
  intro l J Jx W hW hkW hJ hJx hY h0
  have cb := (hb.keep hkW (by simp)).cell 0
  simp at cb
  have haW := IsAr.keep ha hkW (fun k hk => by simp [hk])
  obtain ⟨a0, cap0, cA, _⟩ := haW.own
  have hlen : A.cells.length ≤ 1048576 := by have := hwf.len; have := hwf.room; omega
  have HA := Lib.hid ha
  have HBX := Lib.hid hb
  have HKW := Lib.hid hkW
  have HY := Lib.hid hY
  have H0 := Lib.hid h0
  unfold idsL at *
  generalize hn : A.cells.length = n at *
  have HN := Lib.hid hn
  clear hb hkW hJ hJx hY h0 hn ha haW hwf
  refine (callsIn_wide (n := 0)).1 (callsIn_of_wp Try.func35 rfl trivial ?_ rfl)
  simp only [Try.ntmps35, List.size_toArray, List.length_cons, List.length_nil, Nat.reduceAdd, Nat.reduceSub, Array.replicate_succ, Array.replicate_zero, List.push_toArray, List.append_toArray, List.nil_append, List.cons_append]
  gi_wp2
  gi_loopw [11] (fun i wr => ∃ k : Nat, i = .int .i64 k ∧ k ≤ n ∧ J [] (idsTo A k) wr ∧ Keep (bx :: F) w wr) (fun i _ => n - (intOf i).toNat)
  case atStart => exact ⟨0, rfl, Nat.zero_le _, H0.out, HKW.out⟩
  case round =>
    obtain ⟨k, rfl, hk, hJ1, hK1⟩ := hrel
    have HK1 := Lib.hid hK1
    by_cases hlt : k < n
    · have cbr := (HBX.out.keep hK1 (by simp)).cell 0
      simp at cbr
      have hlt' : k < A.cells.length := by rw [HN.out]; exact hlt
      obtain ⟨x, li, hh, hx⟩ : ∃ x li hh, A.cells[k]? = some (x, li, hh) := ⟨_, _, _, List.getElem?_eq_getElem hlt'⟩
      obtain ⟨g, cap, c0, _, ⟨_, c1, _⟩, _⟩ := (IsAr.keep HA.out hK1 (fun k hk => by simp [hk])).cell hx
      rw [HN.out] at c0
      have hin : isIn A k = li := by unfold isIn; rw [hx]
      have hsu := idsTo_succ A k
      rw [hin] at hsu
      cases li with
      | false =>
        have HS : Hid (idsTo A (k + 1) = idsTo A k) := by show _ = _; simpa using hsu
        have HJ1 := Lib.hid hJ1
        clear hK1 hJ1 hlt' hsu hin hx
        gi_wp2
        refine ⟨fun f hf => (by cases hf), ?_⟩
        gi_wp2
        go_roundw
        case rel => exact ⟨k + 1, by go_num, hlt, by rw [HS.out]; exact HJ1.out, HK1.out⟩
        case measure => simp [intOf]; omega
      | true =>
        have HS : Hid (idsTo A (k + 1) = idsTo A k ++ [(k : Int) + 2]) := by show _ = _; simpa using hsu
        obtain ⟨rest, hrest⟩ := idsTo_pre A (show k + 1 ≤ n from hlt)
        rw [HS.out] at hrest
        obtain ⟨fn, tmps, assign, body, hy, hR⟩ := HY.out [] (idsTo A k) ((k : Int) + 2) rest wr (by rw [← hrest]; simp) hJ1 (by simp) hK1
        dsimp only [ei] at hy
        have HR := Lib.hid hR
        have HP : Hid (idsTo A k ++ [(k : Int) + 2] <+: idsTo A n) := ⟨rest, hrest⟩
        clear hR hK1 hJ1 hlt' hsu hin hx hrest
        gi_wp2
        refine ⟨rfl, ?_⟩
        refine RoundIn.mono (show RoundIn _ _ _ _ _ _ _ _ _ _ from HR.out) ?_
        rintro e V2 ⟨hs2, hk2, (⟨rfl, hj2⟩ | ⟨rfl, hj2⟩)⟩
        · have hK2 : Hid (Keep (bx :: F) w V2) := HK1.out.trans (fun q hq => hk2 q (by simpa using hq))
          have HJ2 := Lib.hid hj2
          clear hk2 hj2 hs2
          gi_wp2
          go_roundw
          case rel => exact ⟨k + 1, by go_num, hlt, by rw [HS.out]; exact HJ2.out, hK2.out⟩
          case measure => simp [intOf]; omega
        · have HJ2 := Lib.hid hj2
          clear hk2 hj2 hs2
          gi_wp2
          refine bodyPost_ret (results_none rfl _ _ _) rfl ⟨⟨_, rfl⟩, .inr ⟨_, HP.out, HJ2.out⟩⟩
    · obtain rfl : k = n := by omega
      have HJ1 := Lib.hid hJ1
      clear hJ1 hK1
      gi_wp2
      go_end0
      exact ⟨⟨_, rfl⟩, .inl HJ1.out⟩

/-- Ids, called: of no arena. -/
theorem ids_nil_c (w : World) : Calls Try.prog 26 #[.pointer none] w fun e w' => ∃ lb', e = .returned (.func (.func 35) #[] lb') ∧ (∃ R', Seq Try.prog 35 lb' ei R' ([] : List Int) w' ∧ ∀ k ∈ R', w.heap.size ≤ k) ∧ Mod [] w w' := by
  go_enter Try.func26, Try.ntmps26
  go_wp2
  go_ret
  exact ⟨_, rfl, ⟨_, ids_nilI (Blk.new _ _ _), by simp⟩, (Mod.refl _ _).alloc _⟩
/-- Ids, called. -/
theorem ids_c {w : World} {b : Nat} {A : AR Int} {F : List Nat} (ha : I.IsAr w b A F) (hwf : A.WF) : Calls Try.prog 26 #[.pointer (some ⟨b, 0, none⟩)] w fun e w' => ∃ lb', e = .returned (.func (.func 35) #[] lb') ∧ (∃ R', Seq Try.prog 35 lb' ei R' (idsL A) w') ∧ Mod [] w w' := by
  have HA := Lib.hid ha
  have HW := Lib.hid hwf
  clear ha hwf
  go_enter Try.func26, Try.ntmps26
  go_wp2
  go_ret
  exact ⟨_, rfl, ⟨_, idsI (Blk.new _ _ _) (HA.out.mod (S := []) ((Mod.refl _ _).alloc _) (by simp)) HW.out⟩, (Mod.refl _ _).alloc _⟩
end Go.Proofs.Ytlkakkgmjihlaaa

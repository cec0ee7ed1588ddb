/- The law SeqAll: the walk. -/
import Derived.Test.YtchbgnfmmplinaaO
import Derived.Test.YtchbgnfmmplinaaP
set_option linter.unusedVariables false
set_option linter.unusedSimpArgs false
namespace Go.Proofs.Ytchbgnfmmplinaa
open Go.RowKit

theorem ev_one (L : List Int) : evL L 1 = L := by
  unfold evL ev
  rw [if_neg (by decide)]
  have h : (L.zipIdx.filter fun p => decide (p.2 % (1 : Int).toNat = 0)) = L.zipIdx := by
    rw [List.filter_eq_self]
    intro p _
    rw [decide_eq_true_iff]
    exact Nat.mod_one _
  rw [h]
  simp
theorem tk_sk (L : List Int) (n : Int) : tk L n ++ sk L n = L := by unfold tk sk; exact List.take_append_drop _ _

theorem Rv.litF (w : World) (E : Nat) (xs : List Value) (n : Nat) (hn : xs.length = n) (hl : n ≤ 100) : Rv (w.alloc (.cells xs.toArray E)) (.slice (some ⟨w.heap.size, 0, none⟩) n n) xs [w.heap.size] := by
  subst hn
  have := Sl.lit w E 1 xs.length xs.toArray (by unfold maxLen; omega) (by simp)
  exact Rv.of_sl (E := E) (n := xs.length) (by simpa using this) rfl

set_option maxRecDepth 100000 in
set_option maxHeartbeats 8000000 in
theorem seqAll_main (w : World) (a0 : Option Addr) (len cap : Nat) (l : List Int) (F : List Nat) (r : Rv w (.slice a0 len cap) (l.map ei) F) (hF : ∀ k ∈ F, k < w.heap.size) (hl : l.length = len) (h100 : len ≤ 100) (n : Int) (hn : I64 n) :
    Calls Try.prog 6 #[.slice a0 len cap, .int .i64 n] w fun e w' => e = .returned (.bool true) ∧ Mod [] w w' := by
  obtain ⟨i0, hi, hz0, hz1, hz2⟩ := info_parts Try.info3
  have A := Lib.hid r
  have hgt : ¬ ((100 : Int) < len) := by omega
  have LE : Hid (l.length ≤ 100000) := by show _ ≤ _; omega
  have HF := Lib.hid hF
  have HN := Lib.hid hn
  have NL : Hid ((l.map ei).length = len) := by show _ = _; rw [List.length_map, hl]
  have NL' : Hid (l.length = len) := hl
  have ONE := Lib.hid (ei_one l)
  have H2 : Hid ((300 : Int) ≤ 9223372036854775807) := by show _ ≤ _; omega
  have I1 : Hid (I64 1) := ⟨by omega, by omega⟩
  have EQ : Hid (tk l 300 = l) := tk_all (by omega)
  have EV : Hid (evL l 1 = l) := ev_one l
  have hbe : ((len : Int) == (len : Int)) = true := by simp
  clear r hF hn hl
  go_enter Try.func6, Try.ntmps6
  go_wp2_with fail
  refine (alive_c w).mono ?_
  rintro e w1 ⟨rfl, m1⟩
  have M1 := Lib.hid m1
  have A_1 := Lib.hid (A.out.mod m1 (by simp))
  clear m1
  go_wp2_with (at_builtin; refine wpList_append_slz _ rfl _ _ 23 rfl 3 i0 (.int .i64 0) 1 8 Try.underlying23 hi hz0 hz1 hz2 rfl (by decide) _ 0 [] [w1.heap.size] rfl (Sl.lit w1 3 1 0 #[] (by unfold maxLen; omega) rfl) a0 len cap (l.map ei) rfl (by rw [NL.out]; omega) (A_1.out.mod (S := []) (by (repeat (first | exact Mod.refl _ _ | apply Mod.drew | apply Mod.drewN | apply Mod.alloc | refine Mod.setCell ?_ _ _ (by first | simp | (simp; omega))))) (by simp)).src ONE.out (by unfold maxLen; omega) (by omega) ?_; intro v5 w2 F' hs2 hm2 hf2; obtain ⟨F5, hs5, m2, hf5⟩ := NewV.of_empty hs2 NL.out hm2 hf2; clear hs2 hm2 hf2; rw [NL.out] at hs5; obtain ⟨A5, c5, rfl, _⟩ := hs5.shape)
  have M2 := Lib.hid (M1.out.trans m2 (by simp))
  have A_2 := Lib.hid (A_1.out.mod m2 (by simp))
  have X_2 := Lib.hid hs5
  have G5 : Hid (∀ k ∈ F5, w.heap.size ≤ k) := fun k hk => Nat.le_trans M1.out.size (hf5 k hk)
  clear hs5 m2 hf5
  refine (of_c (Rv.of_sl X_2.out NL.out.symm) LE.out).mono ?_
  rintro e w3 ⟨lb3, rfl, ⟨R3, s3, f3⟩, m3⟩
  have M3 := Lib.hid (M2.out.trans m3 (by simp))
  have A_3 := Lib.hid (A_2.out.mod m3 (by simp))
  have X_3 := Lib.hid (X_2.out.mod m3 (by simp))
  have S := Lib.hid s3
  have GR : Hid (∀ k ∈ R3, k ∉ F5) := fun k hk hm => by have := f3 k hk; have := X_2.out.lt k hm; omega
  clear s3 m3 f3
  go_wp2_with fail
  go_loopw [7] (fun i wr => ∃ (k : Nat) (ys : List Value), i = .int .i64 k ∧ k ≤ len ∧ Sl wr 3 1 (.slice A5 len c5) len ys F5 ∧ Mod F5 w3 wr) (fun i _ => len - (intOf i).toNat)
  case atStart => exact ⟨0, _, rfl, Nat.zero_le _, X_3.out, Mod.refl _ _⟩
  case round =>
    obtain ⟨k, ys, rfl, hk, hx, hm⟩ := hrel
    have HM := Lib.hid hm
    by_cases hlt : k < len
    · obtain ⟨g, c5', e5, _, _⟩ := hx.pos (by omega)
      simp only [Value.slice.injEq, true_and] at e5
      obtain ⟨rfl, rfl⟩ := e5
      obtain ⟨cc, fz, hFg⟩ := hx.at k (by omega)
      have hyl : k < ys.length := by have := hx.1; omega
      rw [List.getElem?_eq_getElem hyl] at cc
      generalize ys[k] = yv at *
      have HX := Lib.hid hx
      have HFG := Lib.hid hFg
      clear hx hm hFg
      go_wp2
      go_roundw
      case rel =>
        refine ⟨k + 1, _, by go_num, hlt, HX.out.set k (.int .i64 0), HM.out.setCell _ _ (by rw [HFG.out]; simp)⟩
      case measure => simp [intOf]; omega
    · obtain rfl : k = len := by omega
      clear hx hm
      have M4 : Hid (Mod [] w wr) := M3.out.trans HM.out (fun i hi hm => by have := G5.out i hm; omega)
      have A_4 := Lib.hid (A_3.out.mod HM.out (fun q hq hm => by have := HF.out q hq; have := G5.out q hm; omega))
      have S_4 := Lib.hid (S.out.mod HM.out GR.out)
      clear A_3 S X_3 M3 A_2 X_2 M2 A_1 M1
      go_wp2_with fail
      refine (take_c S_4.out n HN.out.2).mono ?_
      rintro e w5 ⟨lb5, rfl, ⟨R5, s5, f5⟩, m5⟩
      have M5 := Lib.hid (M4.out.trans m5 (by simp))
      have A_5 := Lib.hid (A_4.out.mod m5 (by simp))
      have S_5 := Lib.hid (S_4.out.mod m5 (by simp))
      have T := Lib.hid s5
      clear s5 m5 f5
      go_wp2_with fail
      refine (skip_c S_5.out n HN.out).mono ?_
      rintro e w6 ⟨lb6, rfl, ⟨R6, s6, f6⟩, m6⟩
      have M6 := Lib.hid (M5.out.trans m6 (by simp))
      have A_6 := Lib.hid (A_5.out.mod m6 (by simp))
      have S_6 := Lib.hid (S_5.out.mod m6 (by simp))
      have T_6 := Lib.hid (T.out.mod m6 (by simp))
      have U := Lib.hid s6
      clear s6 m6 f6
      have MA : Mod [] w6 (w6.alloc (.cells #[.func (.func 28) #[] lb5, .func (.func 30) #[] lb6] 26)) := (Mod.refl _ _).alloc _
      have T' := T_6.out.mod MA (by simp)
      have U' := U.out.mod MA (by simp)
      have hlt' : ∀ k ∈ R5 ++ R6, k < (w6.alloc (.cells #[.func (.func 28) #[] lb5, .func (.func 30) #[] lb6] 26)).heap.size := by
        intro k hk
        rcases List.mem_append.1 hk with h | h
        · exact T'.1 k h
        · exact U'.1 k h
      have CC := Lib.hid (concat_c (w := (w6.alloc (.cells #[.func (.func 28) #[] lb5, .func (.func 30) #[] lb6] 26))) (v := .slice (some ⟨w6.heap.size, 0, none⟩) 2 2) (S := [(.func (.func 28) #[] lb5, tk l n), (.func (.func 30) #[] lb6, sk l n)]) (R := R5 ++ R6) (by exact Rv.litF w6 26 [_, _] 2 rfl (by omega))
        (by intro u hu; simp at hu; rcases hu with rfl | rfl <;> rfl) (by simp) hlt' (by
          intro p hp
          simp only [List.mem_cons, List.not_mem_nil, or_false] at hp
          rcases hp with rfl | rfl
          · exact (Src.func T').wide (fun k hk => List.mem_append_left _ hk) hlt'
          · exact (Src.func U').wide (fun k hk => List.mem_append_right _ hk) hlt'))
      have ECAT : Hid (catL [((.func (.func 28) #[] lb5 : Value), tk l n), (.func (.func 30) #[] lb6, sk l n)] = l) := by
        show _ = _
        unfold catL; simp [tk_sk]
      have hMA := Lib.hid MA
      clear MA T' U' hlt'
      go_wp2_with fail
      refine CC.out.mono ?_
      rintro e w7 ⟨lb7, rfl, ⟨R7, s7, f7⟩, m7⟩
      rw [ECAT.out] at s7
      have m7' := hMA.out.trans m7 (by simp)
      have M7 := Lib.hid (M6.out.trans m7' (by simp))
      have A_7 := Lib.hid (A_6.out.mod m7' (by simp))
      have S_7 := Lib.hid (S_6.out.mod m7' (by simp))
      have T_7 := Lib.hid (T_6.out.mod m7' (by simp))
      have U_7 := Lib.hid (U.out.mod m7' (by simp))
      have C := Lib.hid s7
      clear s7 m7 f7 m7' CC
      go_wp2_with fail
      refine (collect_c C.out _ H2.out (by rw [EQ.out]; exact LE.out)).mono ?_
      rintro e w8 ⟨v8, rfl, n8⟩
      rw [EQ.out] at n8
      obtain ⟨A8, c8, rfl⟩ := n8.shape
      obtain ⟨F8, r8, _⟩ := n8.rv
      have m8 := n8.mod
      clear n8
      rw [NL.out] at r8 ⊢
      have M8 := Lib.hid (M7.out.trans m8 (by simp))
      have A_8 := Lib.hid (A_7.out.mod m8 (by simp))
      have S_8 := Lib.hid (S_7.out.mod m8 (by simp))
      have T_8 := Lib.hid (T_7.out.mod m8 (by simp))
      have U_8 := Lib.hid (U_7.out.mod m8 (by simp))
      have C_8 := Lib.hid (C.out.mod m8 (by simp))
      have V1 := Lib.hid r8
      clear r8 m8
      go_wp2_with fail
      refine (collect_c C_8.out _ H2.out (by rw [EQ.out]; exact LE.out)).mono ?_
      rintro e w9 ⟨v9, rfl, n9⟩
      rw [EQ.out] at n9
      obtain ⟨A9, c9, rfl⟩ := n9.shape
      obtain ⟨F9, r9, _⟩ := n9.rv
      have m9 := n9.mod
      clear n9
      rw [NL.out] at r9 ⊢
      have M9 := Lib.hid (M8.out.trans m9 (by simp))
      have A_9 := Lib.hid (A_8.out.mod m9 (by simp))
      have S_9 := Lib.hid (S_8.out.mod m9 (by simp))
      have T_9 := Lib.hid (T_8.out.mod m9 (by simp))
      have U_9 := Lib.hid (U_8.out.mod m9 (by simp))
      have C_9 := Lib.hid (C_8.out.mod m9 (by simp))
      have V1_9 := Lib.hid (V1.out.mod m9 (by simp))
      have V2 := Lib.hid r9
      clear r9 m9
      go_wp2_with fail
      refine (same_yes V1_9.out A_9.out LE.out).mono ?_
      rintro e w10 ⟨rfl, m10⟩
      have M10 := Lib.hid (M9.out.trans m10 (by simp))
      have A_10 := Lib.hid (A_9.out.mod m10 (by simp))
      have S_10 := Lib.hid (S_9.out.mod m10 (by simp))
      have T_10 := Lib.hid (T_9.out.mod m10 (by simp))
      have U_10 := Lib.hid (U_9.out.mod m10 (by simp))
      have C_10 := Lib.hid (C_9.out.mod m10 (by simp))
      have V1_10 := Lib.hid (V1_9.out.mod m10 (by simp))
      have V2_10 := Lib.hid (V2.out.mod m10 (by simp))
      clear m10
      go_wp2_with fail
      refine (same_yes V2_10.out A_10.out LE.out).mono ?_
      rintro e w11 ⟨rfl, m11⟩
      have M11 := Lib.hid (M10.out.trans m11 (by simp))
      have A_11 := Lib.hid (A_10.out.mod m11 (by simp))
      have S_11 := Lib.hid (S_10.out.mod m11 (by simp))
      have T_11 := Lib.hid (T_10.out.mod m11 (by simp))
      have U_11 := Lib.hid (U_10.out.mod m11 (by simp))
      have C_11 := Lib.hid (C_10.out.mod m11 (by simp))
      have V1_11 := Lib.hid (V1_10.out.mod m11 (by simp))
      have V2_11 := Lib.hid (V2_10.out.mod m11 (by simp))
      clear m11
      go_wp2_with fail
      refine (every_c S_11.out _ I1.out).mono ?_
      rintro e w12 ⟨lb12, rfl, ⟨R12, s12, f12⟩, m12⟩
      have M12 := Lib.hid (M11.out.trans m12 (by simp))
      have A_12 := Lib.hid (A_11.out.mod m12 (by simp))
      have S_12 := Lib.hid (S_11.out.mod m12 (by simp))
      have T_12 := Lib.hid (T_11.out.mod m12 (by simp))
      have U_12 := Lib.hid (U_11.out.mod m12 (by simp))
      have C_12 := Lib.hid (C_11.out.mod m12 (by simp))
      have V1_12 := Lib.hid (V1_11.out.mod m12 (by simp))
      have V2_12 := Lib.hid (V2_11.out.mod m12 (by simp))
      have E := Lib.hid s12
      clear s12 m12 f12
      go_wp2_with fail
      refine (len_c E.out _ H2.out (by rw [EV.out, EQ.out]; exact LE.out)).mono ?_
      rintro e w13 ⟨rfl, m13⟩
      rw [EV.out, EQ.out, NL'.out]
      have M13 := Lib.hid (M12.out.trans m13 (by simp))
      have A_13 := Lib.hid (A_12.out.mod m13 (by simp))
      have S_13 := Lib.hid (S_12.out.mod m13 (by simp))
      have T_13 := Lib.hid (T_12.out.mod m13 (by simp))
      have U_13 := Lib.hid (U_12.out.mod m13 (by simp))
      have C_13 := Lib.hid (C_12.out.mod m13 (by simp))
      have V1_13 := Lib.hid (V1_12.out.mod m13 (by simp))
      have V2_13 := Lib.hid (V2_12.out.mod m13 (by simp))
      have E_13 := Lib.hid (E.out.mod m13 (by simp))
      clear m13
      go_wp2
      go_ret
      exact ⟨rfl, M13.out⟩

set_option maxRecDepth 100000 in
theorem seqAll_walk (w : World) (a0 : Option Addr) (len cap : Nat) (z : Nat → Int) (hw : IntRow .i64 w a0 len cap z) (n : Int) (wn : (Lit.int .i64 n).wf = true) :
    Calls Try.prog 6 #[.slice a0 len cap, .int .i64 n] w fun e w' => e = .returned (.bool true) ∧ Mod [] w w' := by
  obtain ⟨l, F, r, hl, hF, _⟩ := Rv.of_row hw
  have hn : I64 n := bounds_i64 wn
  by_cases h : len ≤ 100
  · exact seqAll_main w a0 len cap l F r hF hl h n hn
  · have hgt : (100 : Int) < len := by omega
    clear hw r hl wn hn hF
    go_enter Try.func6, Try.ntmps6
    go_wp2_with fail
    refine (alive_c w).mono ?_
    rintro e w1 ⟨rfl, m1⟩
    have M1 := Lib.hid m1
    clear m1
    go_wp2
    go_ret
    exact ⟨rfl, M1.out⟩
end Go.Proofs.Ytchbgnfmmplinaa

/- Text. -/
import Derived.Test.YtkldjllnnbablaaDoorK
set_option linter.unusedVariables false
set_option linter.unusedSimpArgs false
namespace Go.Proofs.YtkldjllnnbablaaDoor
open Go.RowKit Go.Shelf

def lenOf : Value → Nat
  | .slice _ n _ => n
  | _ => 0

/-- The chunks so far, and what is left. -/
structure TInv (w wr : World) (n : Nat) (v0 v4 : Value) (m : Nat) (P : List Nat) : Prop where
  rest : ∃ l F, Can B64 l m ∧ Nv wr v0 l F ∧ l.length ≤ 1000
  row : ∃ F, Sl wr 23 1 v4 P.length (P.map e6) F ∧ ∀ k ∈ F, w.heap.size ≤ k
  mod : Mod [] w wr
  lt : ∀ x ∈ P, x < C19
  val : vl C19 P + C19 ^ P.length * m = n
  cap : P.length ≤ 65
  pos : P.length = 0 ∨ 0 < n
theorem TInv.short {w wr : World} {n : Nat} {v0 v4 : Value} {m : Nat} {P : List Nat} (h : TInv w wr n v0 v4 m P) (hn : n < lim) (hm : 0 < m) : P.length ≤ 64 := by
  have hv := h.val
  rcases Nat.lt_or_ge 64 P.length with q | q
  · have h1 : C19 ^ 65 ≤ C19 ^ P.length := Nat.pow_le_pow_right (by unfold C19; omega) q
    have h2 : lim ≤ C19 ^ 65 := by unfold lim B64 C19; decide
    have h3 : C19 ^ P.length * 1 ≤ C19 ^ P.length * m := Nat.mul_le_mul_left _ hm
    omega
  · exact q

set_option maxRecDepth 100000 in
set_option maxHeartbeats 8000000 in
/-- Text. -/
theorem text_c {w : World} {v : Value} {l F : List Nat} (h : Nv w v l F) (hl : l.length ≤ 1000) :
    Calls Tryd.prog 31 #[v] w fun e w' => Mod [] w w' ∧
      ((vl B64 l < lim ∧ ∃ d, Can 10 d (vl B64 l) ∧ e = .returned (.tuple #[.string ⟨(textOf d).toArray⟩, .bool true])) ∨
      (¬ vl B64 l < lim ∧ e = .returned (.tuple #[.string ⟨#[]⟩, .bool false]))) := by
  have LE : Hid (∀ m, Can B64 m (vl B64 l) → m.length ≤ 1000) := fun m hm => Nat.le_trans (hm.le one_lt_B h.2 rfl) hl
  have C1 := Lib.hid (norm_c h (by omega))
  have DV := Lib.hid (fun w v l F => @divided_c w v l F)
  generalize vl B64 l = n at *
  clear h hl
  go_enter Tryd.func31, Tryd.ntmps31
  go_wp2_with fail
  refine C1.out.mono ?_
  rintro e w1 ⟨u1, rfl, m1, k1, n1⟩
  have N1 := Lib.hid n1
  have K1 := Lib.hid k1
  obtain ⟨A1, c1, rfl⟩ := n1.shape
  clear n1 k1 C1
  have E1 : Hid ((m1.map e6).length = m1.length) := List.length_map _
  rw [E1.out] at N1 ⊢
  have FT := Lib.hid fits_c
  have D1 : Hid (decide (m1.length ≤ 64) = decide (n < lim)) := by show _ = _; rw [decide_eq_decide]; exact K1.out.fits64
  obtain ⟨q1, hq1⟩ : ∃ q, m1.length = q := ⟨_, rfl⟩
  have FC := Lib.hid (FT.out A1 m1.length c1)
  rw [D1.out] at FC
  rw [hq1] at N1 FC ⊢
  clear FT hq1 E1 D1
  by_cases hlt : n < lim
  · have T := Lib.hid (decide_eq_true hlt)
    have HLT := Lib.hid hlt
    clear hlt
    rw [T.out] at FC
    go_wp2_with fail
    refine (FC.out _).mono ?_
    rintro e w3 ⟨rfl, rfl⟩
    go_wp2_with fail
    go_loopw [0, 4] (fun v0 v4 wr => ∃ (m : Nat) (P : List Nat), Hid (TInv w wr n v0 v4 m P)) (fun _ v4 _ => 70 - lenOf v4)
    case atStart =>
      obtain ⟨F1, r1, _⟩ := N1.out.rv
      exact ⟨n, [], ⟨m1, F1, K1.out, ⟨r1, K1.out.lt⟩, LE.out _ K1.out⟩, ⟨[], Sl.nil _ _ _, by simp⟩, N1.out.mod, by simp, by simp [vl], by simp, .inl rfl⟩
    case round =>
      obtain ⟨m, P, HT⟩ := hrel
      obtain ⟨lm, Fm, hcm, hnm, hlm⟩ := HT.out.rest
      obtain ⟨Fp, hsp, hfp⟩ := HT.out.row
      obtain ⟨A, cap, rfl, hcap⟩ := hnm.1.shape
      obtain ⟨A4, cap4, rfl, hcap4⟩ := hsp.shape
      have HSP := Lib.hid hsp
      have HFP := Lib.hid hfp
      have CD := Lib.hid (DV.out _ _ _ _ hnm hlm C19 (by unfold C19; omega) (by unfold C19 B64; omega))
      rw [hcm.val] at CD
      have HCM := Lib.hid hcm
      rw [List.length_map] at CD HT ⊢
      obtain ⟨q, hq⟩ : ∃ q, lm.length = q := ⟨_, rfl⟩
      obtain ⟨np, hnp⟩ : ∃ q, P.length = q := ⟨_, rfl⟩
      rw [hq] at CD HT ⊢
      rw [hnp] at HT HSP ⊢
      have HQ := Lib.hid hq
      have HNP := Lib.hid hnp
      have hq1000 : q ≤ 1000 := by rw [← hq]; exact hlm
      have HNM := Lib.hid hnm
      clear hcm hnm hlm hsp hfp hcap hcap4 hq hnp
      by_cases hq0 : 0 < q
      · unfold C19 at CD
        go_wp2_with fail
        refine CD.out.mono ?_
        rintro e w2 ⟨v', rfl, hnn⟩
        obtain ⟨lq, Fq, hcq, hnq, hfq⟩ := hnn.nv
        have HCQ := Lib.hid hcq
        have HNQ := Lib.hid hnq
        have HMQ := Lib.hid hnn.mod
        have HFQ := Lib.hid hfq
        have S2 := Lib.hid (HSP.out.mod hnn.mod (by simp))
        obtain ⟨i0, hi, hz0, hz1, hz2⟩ := info_parts Tryd.info23
        have hnp64 : np ≤ 64 := by
          have hm0 : 0 < m := HCM.out.pos (by unfold B64; omega) (by intro e; have := HQ.out; rw [e] at this; simp at this; omega)
          have := TInv.short HT.out HLT.out hm0
          rw [HNP.out] at this
          exact this
        obtain ⟨r, hr⟩ : ∃ r, m % 10000000000000000000 = r := ⟨_, rfl⟩
        rw [hr]
        have HR := Lib.hid hr
        clear hcq hnq hfq hnn hr CD
        go_wp2_with (at_builtin; refine wpList_append_sl _ rfl _ _ 22 rfl 23 i0 (.int .u64 0) 1 8 Tryd.underlying22 hi hz0 hz1 hz2 rfl (by decide) _ np (P.map e6) Fp rfl (S2.out.mod (S := []) (by (repeat (first | exact Mod.refl _ _ | apply Mod.drew | apply Mod.drewN | apply Mod.alloc | refine Mod.setCell ?_ _ _ (by first | simp | (simp; omega))))) (by simp)) ⟨_, 0, none⟩ 1 1 [e6 r] (by decide) rfl rfl (by intro j u hu; exact list_new_at _ _ _ _ (by simp) j u hu) (by intro u hu; simp at hu; subst hu; rfl) (by unfold maxLen; omega) (by omega) ?_; intro v4' w5 F5 hs5 hm5 hf5; have M5 := Lib.hid (show Mod Fp w2 w5 from Mod.trans (S := Fp) (by (repeat (first | exact Mod.refl _ _ | apply Mod.drew | apply Mod.drewN | apply Mod.alloc | refine Mod.setCell ?_ _ _ (by first | simp | (simp; omega))))) hm5 (fun _ _ h => h)); have F5' := Lib.hid (show ∀ k ∈ F5, w.heap.size ≤ k from fun k hk => by (rcases hf5 k hk with h | h); exact HFP.out k h; (simp at h; have := HMQ.out.size; have := HT.out.mod.size; omega)); have HS5 := Lib.hid hs5; obtain ⟨a5, cap5, rfl, _⟩ := hs5.shape; clear hs5 hm5 hf5)
        refine ⟨⟨m / C19, P ++ [r], ⟨⟨lq, Fq, HCQ.out, HNQ.out.mod M5.out (fun k hk hx => ?_), ?_⟩, ⟨F5, ?_, F5'.out⟩, ?_, ?_, ?_, ?_, ?_⟩⟩, ?_⟩
        · have h1 := HFQ.out k hk
          have h2 := HSP.out.lt k hx
          omega
        · have h1 : lq.length ≤ q := (HCQ.out.fits one_lt_B q).2 (Nat.lt_of_le_of_lt (Nat.div_le_self _ _) (by rw [← HQ.out]; exact HCM.out.upper))
          omega
        · have h1 := HS5.out
          rw [List.length_append, HNP.out, List.map_append]
          exact h1
        · exact (HT.out.mod.trans HMQ.out (by simp)).trans M5.out (fun k hk hx => by have := HFP.out k hx; omega)
        · intro x hx
          rcases List.mem_append.1 hx with h1 | h1
          · exact HT.out.lt x h1
          · simp at h1; rw [h1, ← HR.out]; exact Nat.mod_lt _ (by omega)
        · have h1 := HT.out.val
          have h2 := Nat.div_add_mod m C19
          rw [show m % C19 = r from HR.out] at h2
          have h3 : C19 ^ P.length * (C19 * (m / C19) + r) = C19 ^ P.length * m := by rw [h2]
          rw [Nat.mul_add] at h3
          rw [vl_snoc, List.length_append, List.length_singleton, Nat.pow_succ, Nat.mul_assoc]
          omega
        · rw [List.length_append, HNP.out, List.length_singleton]; omega
        · refine .inr ?_
          have hm0 : 0 < m := HCM.out.pos (by unfold B64; omega) (by intro e; have := HQ.out; rw [e] at this; simp at this; omega)
          have h1 := HT.out.val
          have h3 : C19 ^ P.length * 1 ≤ C19 ^ P.length * m := Nat.mul_le_mul_left _ hm0
          have h4 : 0 < C19 ^ P.length := Nat.pow_pos (by unfold C19; omega)
          omega
        · simp only [lenOf]; omega
      · obtain rfl : q = 0 := by omega
        have hm0 : m = 0 := HCM.out.val.symm.trans (by rw [List.length_eq_zero_iff.1 HQ.out]; rfl)
        have HV : Hid (vl C19 P = n) := by have := HT.out.val; rw [hm0, Nat.mul_zero, Nat.add_zero] at this; exact this
        clear CD hm0 DV
        by_cases hnp0 : np = 0
        · have hz : ((np : Int) == 0) = true := by rw [beq_iff_eq]; omega
          have hn0 : n = 0 := by rw [← HV.out, List.length_eq_zero_iff.1 (HNP.out.trans hnp0)]; rfl
          subst hn0
          have HM := Lib.hid HT.out.mod
          clear HT HV
          go_wp2
          go_ret2
          exact ⟨HM.out, .inl ⟨HLT.out, [], Can.nil 10, rfl⟩⟩
        · have hz : ((np : Int) == 0) = false := by rw [beq_eq_false_iff_ne]; omega
          have hnp65 : np ≤ 65 := by rw [← HNP.out]; exact HT.out.cap
          have HPOS : Hid (0 < n) := by
            rcases HT.out.pos with h1 | h1
            · exact absurd (HNP.out.symm.trans h1) hnp0
            · exact h1
          have HMW := Lib.hid HT.out.mod
          have HPL := Lib.hid HT.out.lt
          obtain ⟨g4, rfl⟩ : ∃ g, A4 = some ⟨g, 0, none⟩ := by
            obtain ⟨g, cap, e, _⟩ := HSP.out.pos (by omega)
            simp at e
            exact ⟨g, e.1⟩
          have HF4 := Lib.hid HSP.out.block
          obtain ⟨b, hb⟩ : ∃ b, wr.heap.size = b := ⟨_, rfl⟩
          have HBB := Lib.hid hb
          have hstart := Bu.fresh wr
          rw [hb] at hstart
          have HST := Lib.hid hstart
          have RD : Hid (∀ ww, Below b (wr.alloc (.cells #[.pointer none, .slice none 0 0] 70)) ww → ∀ j, j < np → ww.cell? ⟨g4, j, none⟩ = some (.int .u64 (P.getD j 0 : Nat))) := fun ww hB j hj => by
            have h1 := (HSP.out.keep (w' := ww) (fun k hk => by
              have h1 := HSP.out.lt k hk
              exact (hB.block k (by omega)).trans (Below.heap_alloc _ _ _ h1))).at j (by omega)
            rw [h1.1, List.getElem?_map, List.getD_eq_getElem?_getD, List.getElem?_eq_getElem (by rw [HNP.out]; exact hj)]; rfl
          have MA : Hid (∀ ww, Below b (wr.alloc (.cells #[.pointer none, .slice none 0 0] 70)) ww → Mod [] w ww) := fun ww hB => by
            exact HMW.out.trans (S' := []) (Mod.of_below (by rw [hb]; exact (((Mod.refl [] wr).alloc _).below b (by omega) (by simp)).trans hB)) (by simp)
          clear HT hstart
          go_wp2_with fail
          go_loopw [8] (fun i ww => ∃ k : Nat, i = .int .i64 ((k : Int) - 1) ∧ k ≤ np ∧ Hid (Bu b ((chunks (P.drop k)).reverse.map (48 + ·)) ww) ∧ Hid (Below b (wr.alloc (.cells #[.pointer none, .slice none 0 0] 70)) ww)) (fun i _ => (intOf i + 1).toNat)
          case atStart =>
            refine ⟨np, by go_num, Nat.le_refl _, ?_, Below.refl _ _⟩
            rw [List.drop_of_length_le (by rw [HNP.out]; exact Nat.le_refl _)]
            exact HST.out
          case round =>
            obtain ⟨k, hv, hk, HBU, HBL⟩ := hrel
            rcases k with _ | j
            · obtain rfl := hv
              rw [List.drop_zero] at HBU
              have CL := Lib.hid (chunks_lt P)
              have SC := Lib.hid (string_c HBU.out (fun z hz => by
                obtain ⟨d, hd, rfl⟩ := List.mem_map.1 hz
                have := CL.out d (by simpa using hd)
                omega))
              have hcv : vl 10 (chunks P) = n := (chunks_val HPL.out).trans HV.out
              have TT := Lib.hid (text_trim CL.out (by rw [hcv]; have := HPOS.out; omega))
              obtain ⟨S, hS⟩ : ∃ S, (((chunks P).reverse.map (48 + ·)).map UInt8.ofNat) = S := ⟨_, rfl⟩
              rw [hS] at SC TT
              clear hS
              have TC := Lib.hid (trimd_can CL.out)
              rw [hcv] at TC
              have HCV := Lib.hid hcv
              clear hcv RD
              go_wp2_with fail
              refine SC.out.mono ?_
              rintro e w' ⟨rfl, hbl⟩
              have HB2 := Lib.hid (HBL.out.trans hbl)
              clear hbl SC
              go_wp2_with fail
              refine (trimLeft_c _ _).mono ?_
              rw [TT.out]
              rintro e w'' ⟨rfl, rfl⟩
              go_wp2
              go_ret2
              exact ⟨MA.out _ HB2.out, .inl ⟨HLT.out, _, TC.out, rfl⟩⟩
            · have hv2 := hv.trans (show Value.int .i64 (((j + 1 : Nat) : Int) - 1) = .int .i64 (j : Int) by congr 1; omega)
              clear hv
              subst hv2
              have rd := RD.out _ HBL.out j (by omega)
              have hx : P.getD j 0 < C19 := by
                rw [List.getD_eq_getElem?_getD, List.getElem?_eq_getElem (by rw [HNP.out]; omega)]; exact HPL.out _ (List.getElem_mem _)
              have HXL := Lib.hid hx
              have ED : Hid (chunks (P.drop j) = fd 19 (P.getD j 0) ++ chunks (P.drop (j + 1))) := by
                show _ = _
                rw [List.drop_eq_getElem_cons (by rw [HNP.out]; omega), List.getD_eq_getElem?_getD, List.getElem?_eq_getElem (by rw [HNP.out]; omega)]
                unfold chunks
                rw [List.flatMap_cons]
                rfl
              generalize P.getD j 0 = x at *
              clear hx RD
              obtain ⟨tb, htb⟩ : ∃ tb, wr.heap.size = tb := ⟨_, rfl⟩
              obtain ⟨wt, hwt⟩ : ∃ wt, wr.alloc (.cells #[Value.int .u8 0, Value.int .u8 0, Value.int .u8 0, Value.int .u8 0, Value.int .u8 0, Value.int .u8 0, Value.int .u8 0, Value.int .u8 0, Value.int .u8 0, Value.int .u8 0, Value.int .u8 0, Value.int .u8 0, Value.int .u8 0, Value.int .u8 0, Value.int .u8 0, Value.int .u8 0, Value.int .u8 0, Value.int .u8 0, Value.int .u8 0] 71) = wt := ⟨_, rfl⟩
              have rd2 : wt.cell? ⟨g4, j, none⟩ = some (.int .u64 (x : Int)) := by
                rw [← hwt, World.cell?_of_block (Below.heap_alloc _ _ _ (World.block_lt_of_cell? _ _ rd))]
                exact rd
              have BT : Hid (Blk wt tb (List.map e5 (List.replicate 19 0)).toArray 71) := by rw [← hwt, ← htb]; exact Blk.new _ _ _
              have MT : Hid (Mod [] wr wt) := by rw [← hwt]; exact (Mod.refl _ _).alloc _
              have HTB := Lib.hid htb
              clear rd
              go_wp2_with fail
              clear hwt
              go_quiet (fail)
              go_wp2_with fail
              go_loopw [10, 11] (fun v10 v11 wq => ∃ k y : Nat, v10 = .int .i64 ((k : Int) - 1) ∧ v11 = .int .u64 y ∧ k ≤ 19 ∧ Hid (y = x / 10 ^ (19 - k)) ∧ Hid (Blk wq tb (List.map e5 (List.replicate k 0 ++ (fd (19 - k) x).reverse.map (48 + ·))).toArray 71) ∧ Hid (Mod [] wr wq)) (fun v10 _ _ => (intOf v10 + 1).toNat)
              case atStart =>
                exact ⟨19, x, rfl, rfl, Nat.le_refl _, by show _ = _; simp, BT.out.drewN _, MT.out.drewN _⟩
              case round =>
                obtain ⟨k, y, hv, rfl, hk, HY, HT, HM⟩ := hrel
                rcases k with _ | i
                · obtain rfl := hv
                  have NEW := Lib.hid (fun (q z : Nat) (hz : ((fd 19 x).reverse.map (48 + ·))[q]? = some z) => show wr.cell? ⟨tb, q, none⟩ = some (.int .u8 (z : Int)) by
                    rw [HT.out.cell q]
                    simp only [List.replicate_zero, List.nil_append, Nat.sub_zero]
                    rw [List.getElem?_toArray, List.getElem?_map, hz]
                    rfl)
                  have W := Lib.hid (fun cap => write_c (cap := cap) HBU.out (Nat.le_of_eq HTB.out) HM.out (by simp [fd_length]) NEW.out (m := 19) (by have := HNP.out; simp [chunks_length]; omega))
                  have BW := Lib.hid ((HBL.out).trans (HM.out.below b (by have := HBL.out.size; simp at this; have := HBB.out; omega) (by simp)))
                  have ES : Hid ((chunks (P.drop (j + 1))).reverse.map (48 + ·) ++ (fd 19 x).reverse.map (48 + ·) = (chunks (P.drop j)).reverse.map (48 + ·)) := by
                    show _ = _
                    rw [ED.out, List.reverse_append, List.map_append]
                  clear HT HM HBU HBL BT MT
                  go_wp2_with fail
                  refine (W.out _).mono ?_
                  rintro e w' ⟨⟨vw, rfl⟩, hbu, hbl⟩
                  rw [ES.out] at hbu
                  have HBU := Lib.hid hbu
                  have HBL := Lib.hid hbl
                  clear hbu hbl W
                  go_wp2
                  go_roundw
                  case rel => exact ⟨j, by go_num, by omega, HBU.out, BW.out.trans HBL.out⟩
                  case measure => simp [intOf]
                · have hv2 := hv.trans (show Value.int .i64 (((i + 1 : Nat) : Int) - 1) = .int .i64 (i : Int) by congr 1; omega)
                  clear hv
                  subst hv2
                  have z0 : wr.cell? ⟨tb, i, none⟩ = some (.int .u8 0) := by
                    rw [HT.out.cell i, List.getElem?_toArray, List.getElem?_map, List.getElem?_append_left (by simp), List.getElem?_replicate, if_pos (by omega)]; rfl
                  have z1 : wr.frozen? ⟨tb, i, none⟩ = false := HT.out.froz i
                  go_wp2_with fail
                  refine ⟨⟨i, y / 10, rfl, ?_, by omega, ?_, ?_, ?_⟩, ?_⟩
                  · have h1 : y ≤ x := by rw [HY.out]; exact Nat.div_le_self _ _
                    have h2 := HXL.out
                    unfold C19 at h2
                    rw [IntKind.wrap_u64]
                    congr 1
                    omega
                  · show _ = _
                    rw [HY.out, Nat.div_div_eq_div_mul, ← Nat.pow_succ]
                    congr 2
                    omega
                  · have h1 := HT.out.set i (.int .u8 (48 + (y : Int) % 10))
                    have e : (Value.int .u8 (48 + (y : Int) % 10)) = e5 (48 + x / 10 ^ (18 - i) % 10) := by
                      show _ = Value.int .u8 ((48 + x / 10 ^ (18 - i) % 10 : Nat) : Int)
                      rw [show x / 10 ^ (18 - i) = y by rw [HY.out]; congr 2; omega]
                      congr 1
                    have f := fill_step (18 - i) x (by omega)
                    rw [show 19 - (18 - i) = i + 1 by omega, show 18 - (18 - i) = i by omega, show 19 - (18 - i + 1) = i by omega, show 18 - i + 1 = 19 - i by omega] at f
                    rw [List.setIfInBounds_toArray, e, ← List.map_set, show 19 - (i + 1) = 18 - i by omega, f, ← e] at h1
                    exact h1
                  · exact HM.out.setCell _ _ (fun q => by have := HTB.out; simp at q; omega)
                  · simp [intOf]
  · have T := Lib.hid (decide_eq_false hlt)
    have HLT := Lib.hid hlt
    clear hlt
    rw [T.out] at FC
    go_wp2_with fail
    refine (FC.out _).mono ?_
    rintro e w3 ⟨rfl, rfl⟩
    go_wp2
    go_ret2
    exact ⟨N1.out.mod, .inr ⟨HLT.out, rfl⟩⟩
end Go.Proofs.YtkldjllnnbablaaDoor

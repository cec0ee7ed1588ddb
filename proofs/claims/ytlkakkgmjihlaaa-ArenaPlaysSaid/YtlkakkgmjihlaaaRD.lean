/- Contracts of the reference arena: Drop, Ids. -/
import Derived.Test.YtlkakkgmjihlaaaRC
set_option linter.unusedVariables false
set_option linter.unusedSimpArgs false
namespace Go.Proofs.Ytlkakkgmjihlaaa
open Go.RowKit

theorem AtSpec.pos {L : List (Nat × Int × Int)} {id : Nat} {i : Int} (h : AtSpec L id i) (nd : (L.map (·.1)).Nodup) {k : Nat} (hk : k < L.length) (hid : L[k].1 = id) : i = k := by
  rcases h with ⟨_, hn⟩ | ⟨j, rfl, hj, hjd⟩
  · exact absurd hid (hn _ (List.getElem_mem hk))
  · rw [nd_inj nd hj hk (hjd.trans hid.symm)]
theorem AtSpec.neg {L : List (Nat × Int × Int)} {id : Nat} {i : Int} (h : AtSpec L id i) (hn : ∀ t ∈ L, t.1 ≠ id) : i = -1 := by
  rcases h with ⟨h1, _⟩ | ⟨j, _, hj, hjd⟩
  · exact h1
  · exact absurd hjd (hn _ (List.getElem_mem hj))

theorem refAt_pos {w : World} {b : Nat} {m : RM} {F : List Nat} (h : IsRef w b m F) (hl : m.L.length ≤ 100000) {id : Nat} (nd : (m.L.map (·.1)).Nodup) {k : Nat} (hk : k < m.L.length) (hid : m.L[k].1 = id) :
    Calls Try.prog 29 #[.pointer (some ⟨b, 0, none⟩), .int .u32 id] w fun e w' => e = .returned (.int .i64 k) ∧ w = w' :=
  (refAt_c h hl id).mono fun e w' ⟨⟨i, he, hs⟩, hw⟩ => ⟨by rw [he, hs.pos nd hk hid], hw⟩
theorem refAt_neg {w : World} {b : Nat} {m : RM} {F : List Nat} (h : IsRef w b m F) (hl : m.L.length ≤ 100000) {id : Nat} (hn : ∀ t ∈ m.L, t.1 ≠ id) :
    Calls Try.prog 29 #[.pointer (some ⟨b, 0, none⟩), .int .u32 id] w fun e w' => e = .returned (.int .i64 (-1)) ∧ w = w' :=
  (refAt_c h hl id).mono fun e w' ⟨⟨i, he, hs⟩, hw⟩ => ⟨by rw [he, hs.neg hn], hw⟩

theorem refDrop_none {w : World} {b : Nat} {m : RM} {F : List Nat} (h : IsRef w b m F) (hl : m.L.length ≤ 100000) {id : Nat} (hn : ∀ t ∈ m.L, t.1 ≠ id) :
    Calls Try.prog 31 #[.pointer (some ⟨b, 0, none⟩), .int .u32 id] w fun e w' => e = .returned (.bool false) ∧ w = w' := by
  have AT := Lib.hid (refAt_neg h hl hn)
  clear h hn
  go_enter Try.func31, Try.ntmps31
  go_wp2_with fail
  refine AT.out.mono ?_
  rintro e w' ⟨rfl, rfl⟩
  go_wp2
  go_ret
  exact ⟨rfl, rfl⟩

theorem refDrop_held {w : World} {b : Nat} {m : RM} {F : List Nat} (h : IsRef w b m F) (hl : m.L.length ≤ 100000) {id : Nat} (nd : (m.L.map (·.1)).Nodup) {k : Nat} (hk : k < m.L.length) (hid : m.L[k].1 = id) (hh : 0 < m.L[k].2.2) :
    Calls Try.prog 31 #[.pointer (some ⟨b, 0, none⟩), .int .u32 id] w fun e w' => e = .returned (.bool false) ∧ w = w' := by
  have AT := Lib.hid (refAt_pos h hl nd hk hid)
  obtain ⟨a, cap, hcap, c0, -, -, -, hcell⟩ := h.own
  obtain ⟨g, rfl, -, -, ⟨-, -, d2⟩, -⟩ := hcell k _ (List.getElem?_eq_getElem hk)
  clear h hcell nd hid
  generalize m.L[k].2.2 = hv at *
  generalize m.L.length = n at *
  go_enter Try.func31, Try.ntmps31
  go_wp2_with fail
  refine AT.out.mono ?_
  rintro e w' ⟨rfl, rfl⟩
  go_wp2
  go_ret
  exact ⟨rfl, rfl⟩

theorem erase_step {L : List (Nat × Int × Int)} {j k : Nat} (hj : j < L.length) : (L.take (j + 1)).eraseIdx k = (L.take j).eraseIdx k ++ (if j = k then [] else [L[j]]) := by
  have hl : (L.take j).length = j := by rw [List.length_take]; omega
  rw [List.take_succ_eq_append_getElem hj]
  rcases Nat.lt_or_ge k j with q | q
  · rw [List.eraseIdx_append_of_lt_length (by omega), if_neg (by omega)]
  · rw [List.eraseIdx_append_of_length_le (by omega), hl, List.eraseIdx_of_length_le (l := L.take j) (by omega)]
    by_cases e : j = k
    · subst e; simp
    · rw [if_neg e, List.eraseIdx_of_length_le (by simp; omega)]
theorem erase_len {L : List (Nat × Int × Int)} (j k : Nat) : ((L.take j).eraseIdx k).length ≤ j :=
  Nat.le_trans (List.length_eraseIdx_le _ _) (by rw [List.length_take]; omega)

theorem Sl.litAt (w : World) (E size n : Nat) (cs : Array Value) (g : Nat) (hg : g = w.heap.size) (hm : n ≤ maxLen) (hs : cs.size = n * size) : Sl (w.alloc (.cells cs E)) E size (.slice (some ⟨g, 0, none⟩) n n) n cs.toList [g] := by
  subst hg; exact Sl.lit w E size n cs hm hs
theorem NewV.of_emptyAt {E : Nat} {w w1 : World} {l : List Value} {n g : Nat} {v' : Value} {F' : List Nat} (hg : g = w.heap.size) (hs1 : Sl w1 E 1 v' (0 + n) ([] ++ l) F') (hn : l.length = n) (hm1 : Mod [g] (w.alloc (.cells #[] E)) w1)
    (hf1 : ∀ k ∈ F', k ∈ [g] ∨ (w.alloc (.cells #[] E)).heap.size ≤ k) : NewV E w l w1 v' := by
  subst hg; exact NewV.of_empty hs1 hn hm1 hf1
theorem gone_src {W : World} {af : Option Addr} {ng capf : Nat} {l : List Value} {F : List Nat} (h : Sl W 27 1 (.slice af ng capf) ng l F) (hl : l.length = ng) : 0 < ng → ∃ a, af = some a ∧ ∀ j u, l[j]? = some u → W.cell? (a.add j) = some u :=
  (Rv.of_sl h hl.symm).src

set_option maxRecDepth 100000 in
set_option maxHeartbeats 4000000 in
theorem refDrop_live {w : World} {b : Nat} {m : RM} {F : List Nat} (h : IsRef w b m F) (hl : m.L.length ≤ 100000) (hgl : m.gone.length ≤ 100000) {id : Nat} (nd : (m.L.map (·.1)).Nodup) {k : Nat} (hk : k < m.L.length) (hid : m.L[k].1 = id) (hh : m.L[k].2.2 ≤ 0) :
    Calls Try.prog 31 #[.pointer (some ⟨b, 0, none⟩), .int .u32 id] w fun e w' => e = .returned (.bool true) ∧
      ∃ F', IsRef w' b (m.drop k id) F' ∧ Mod F w w' ∧ (∀ k ∈ F', k ∈ F ∨ w.heap.size ≤ k) := by
  obtain ⟨i0, hi, hz0, hz1, hz2⟩ := info_parts Try.infoT
  obtain ⟨j0, hj, hy0, hy1, hy2⟩ := info_parts I.Try.info27'
  have AT := Lib.hid (refAt_pos h hl nd hk hid)
  obtain ⟨a, cap, hcap, c0, -, -, -, hcell⟩ := h.own
  obtain ⟨g0, ha, -, -, ⟨-, -, d2⟩, -⟩ := hcell k _ (List.getElem?_eq_getElem hk)
  subst ha
  have HC := Lib.hid hcell
  have hbF : b ∈ F := by obtain ⟨_, _, _, _, _, _, _, rfl, _⟩ := h; simp
  have hbl := h.lt b hbF
  obtain ⟨vL, vG, Fl, Fg, hb, -, hf, -, -, r2, -⟩ := h
  obtain ⟨af, capf, rfl, hcapf⟩ := hf.shape
  have b1 := hb.cell 1
  have fz0 := hb.froz 0
  have fz1 := hb.froz 1
  simp at b1
  have HB := Lib.hid hb
  have HF := Lib.hid hf
  have HBF := Lib.hid hbF
  have HLg : Hid ((m.gone.map eu).length = m.gone.length) := List.length_map _
  have HOg : Hid (∀ u ∈ m.gone.map eu, u.oneCell' = true) := fun u hu => by
    obtain ⟨q, _, rfl⟩ := List.mem_map.1 hu; rfl
  clear nd hid hcell hb hf hbF
  generalize hLv : m.L[k].2.2 = hv at *
  clear hLv
  generalize hn : m.L.length = n at *
  have HN := Lib.hid hn
  generalize hng : m.gone.length = ng at *
  have HNG := Lib.hid hng
  clear hn hng
  have hg0l : g0 < w.heap.size := World.block_lt_of_cell? w _ d2
  go_enter Try.func31, Try.ntmps31
  go_wp2_with fail
  refine AT.out.mono ?_
  rintro e w' ⟨rfl, rfl⟩
  go_wp2
  go_loopw [6, 7] (fun o s wr => ∃ (j : Nat) (F' : List Nat), s = .int .i64 j ∧ j ≤ n ∧ Hid (Sl wr 78 3 o ((m.L.take j).eraseIdx k).length (recs thg ((m.L.take j).eraseIdx k)) F') ∧ Hid (Mod [] w wr) ∧ Hid (∀ q ∈ F', w.heap.size ≤ q)) (fun _ s _ => n - (intOf s).toNat)
  case atStart => exact ⟨0, [], rfl, Nat.zero_le _, by show Sl _ _ _ _ _ _ _; simpa [recs] using Sl.nil w 78 3, Mod.refl _ _, by show ∀ q ∈ [], _; simp⟩
  case round =>
    obtain ⟨j, F', rfl, hjn, S1, M1, G1⟩ := hrel
    have c0r : wr.cell? ⟨b, 0, none⟩ = some (.slice (some ⟨g0, 0, none⟩) n cap) := (M1.out.cell (a := ⟨b, 0, none⟩) hbl (by simp)).trans c0
    obtain ⟨a1, cap1, rfl, hcap1⟩ := S1.out.shape
    have hql := erase_len (L := m.L) j k
    generalize hq : ((m.L.take j).eraseIdx k).length = q at *
    have HQ := Lib.hid hq
    clear hq
    by_cases hlt : j < n
    · have hlt' : j < m.L.length := by rw [HN.out]; exact hlt
      obtain ⟨g, e, _, _, ⟨x0, x1, x2⟩, _⟩ := HC.out j _ (List.getElem?_eq_getElem hlt')
      simp at e
      subst e
      have y0 := (M1.out.cell (a := ⟨g0, j * 3, none⟩) hg0l (by simp)).trans x0
      have y1 := (M1.out.cell (a := ⟨g0, j * 3 + 1, none⟩) hg0l (by simp)).trans x1
      have y2 := (M1.out.cell (a := ⟨g0, j * 3 + 2, none⟩) hg0l (by simp)).trans x2
      have hst := erase_step (k := k) hlt'
      unfold eu at y0
      have TH : Hid (thg m.L[j] = [.int .u32 (m.L[j].1 : Int), .int .i64 m.L[j].2.1, .int .i64 m.L[j].2.2]) := rfl
      clear x0 x1 x2
      by_cases hjk : j = k
      · subst hjk
        have HE : Hid ((m.L.take (j + 1)).eraseIdx j = (m.L.take j).eraseIdx j) := by show _ = _; rw [hst]; simp
        have hb0 : (((j : Int)) != (j : Int)) = false := by simp
        clear hst y0 y1 y2
        go_wp2
        go_roundw
        case rel => exact ⟨j + 1, F', rfl, hlt, by rw [HE.out, HQ.out]; exact S1, M1, G1⟩
        case measure => simp only [intOf]; omega
      · have HE : Hid ((m.L.take (j + 1)).eraseIdx k = (m.L.take j).eraseIdx k ++ [m.L[j]]) := by show _ = _; rw [hst, if_neg hjk]
        have hb0 : (((j : Int)) != (k : Int)) = true := by rw [bne_iff_ne]; omega
        generalize m.L[j] = t at *
        obtain ⟨t0, t1, t2⟩ := t
        simp only at y0 y1 y2 TH
        have hlen1 : Hid (((m.L.take j).eraseIdx k ++ [(t0, t1, t2)]).length = q + 1) := by show _ = _; rw [List.length_append, HQ.out]; rfl
        generalize ht0 : (t0 : Int) = ti at *
        clear hst hjk
        go_wp2_with (at_builtin; refine wpList_append_sl _ rfl _ _ 48 rfl 78 i0 (.agg #[.int .u32 0, .int .i64 0, .int .i64 0]) 3 24 Try.underlying48 hi hz0 hz1 hz2 rfl (by decide) _ q (recs thg ((m.L.take j).eraseIdx k)) F' rfl (S1.out.mod (S := []) (by (repeat (first | exact Mod.refl _ _ | apply Mod.drew | apply Mod.drewN | apply Mod.alloc | refine Mod.setCell ?_ _ _ (by first | simp | (simp; omega))))) (by simp)) ⟨_, 0, none⟩ 1 1 [.int .u32 ti, .int .i64 t1, .int .i64 t2] (by decide) rfl rfl (by intro j u hu; exact list_new_at _ _ _ _ (by simp) j u hu) (by intro u hu; simp at hu; rcases hu with rfl | rfl | rfl <;> rfl) (by unfold maxLen; omega) (by omega) ?_; intro v' w3 F3 hs3 hm3 hf3)
        go_roundw
        case rel =>
          refine ⟨j + 1, F3, rfl, hlt, ?_, ?_, ?_⟩
          · show Sl _ _ _ _ _ _ _
            rw [HE.out, hlen1.out, recs_append]
            have : recs thg [(t0, t1, t2)] = [.int .u32 ti, .int .i64 t1, .int .i64 t2] := by simp [recs, TH.out]
            rw [this]; exact hs3
          · exact (M1.out.trans (S' := []) (by (repeat (first | exact Mod.refl _ _ | apply Mod.drew | apply Mod.drewN | apply Mod.alloc | refine Mod.setCell ?_ _ _ (by first | simp | (simp; omega))))) (by simp)).trans hm3 (fun i hi hm => by have := G1.out i hm; omega)
          · intro x hx
            rcases hf3 x hx with hh | hh
            · exact G1.out x hh
            · have h1 := M1.out.size
              simp at hh; omega
        case measure => simp only [intOf]; omega
    · obtain rfl : j = n := by omega
      have HE : Hid ((m.L.take j).eraseIdx k = m.L.eraseIdx k) := by show _ = _; rw [List.take_of_length_le (by rw [HN.out]; exact Nat.le_refl _)]
      have b1r : wr.cell? ⟨b, 1, none⟩ = some (.slice af ng capf) := (M1.out.cell (a := ⟨b, 1, none⟩) hbl (by simp)).trans b1
      have f0r : wr.frozen? ⟨b, 0, none⟩ = false := (M1.out.froz (a := ⟨b, 0, none⟩) hbl (by simp)).trans fz0
      have f1r : wr.frozen? ⟨b, 1, none⟩ = false := (M1.out.froz (a := ⟨b, 1, none⟩) hbl (by simp)).trans fz1
      have hblr : b < wr.heap.size := Nat.lt_of_lt_of_le hbl M1.out.size
      have HFr := Lib.hid (HF.out.mod M1.out (by simp))
      have HBr := Lib.hid (HB.out.mod M1.out (by simp))
      go_wp2_with (at_builtin; first
        | (refine wpList_append_slz _ rfl _ _ 40 rfl 27 j0 (.int .u32 0) 1 4 Try.underlying40 hj hy0 hy1 hy2 rfl (by decide) _ 0 [] [wr.heap.size] rfl (Sl.litAt _ 27 1 0 #[] _ (by simp) (by unfold maxLen; omega) rfl) af ng capf (m.gone.map eu) rfl (by rw [HLg.out]; omega) (gone_src (HFr.out.mod (S := [b]) (by repeat (first | exact Mod.refl _ _ | apply Mod.alloc | refine Mod.setCell ?_ _ _ (by simp))) (fun k hk => by simp; intro e; subst e; exact r2 hk)) HLg.out) HOg.out (by unfold maxLen; omega) (by omega) ?_; intro v5 w5 F5 hs5 hm5 hf5; obtain ⟨F6, hs6, m6, hf6⟩ := NewV.of_emptyAt (w := wr.setCell ⟨b, 0, none⟩ (.slice a1 q cap1)) (by simp) hs5 HLg.out hm5 hf5; rw [HLg.out] at hs6; have z1 : w5.cell? ⟨b, 1, none⟩ = some (.slice af ng capf) := (m6.cell (a := ⟨b, 1, none⟩) (by simpa using hblr) (by simp)).trans (by go_simp); have zf : w5.frozen? ⟨b, 1, none⟩ = false := (m6.froz (a := ⟨b, 1, none⟩) (by simpa using hblr) (by simp)).trans (by go_simp); have hb5 : b < w5.heap.size := Nat.lt_of_lt_of_le hblr (by simpa using m6.size); have hbF6 : b ∉ F6 := fun hm => by have := hf6 b hm; simp at this; omega)
        | (refine wpList_append_sl _ rfl _ _ 40 rfl 27 j0 (.int .u32 0) 1 4 Try.underlying40 hj hy0 hy1 hy2 rfl (by decide) _ ng (m.gone.map eu) F6 rfl (hs6.mod (S := []) (by (repeat (first | exact Mod.refl _ _ | apply Mod.drew | apply Mod.drewN | apply Mod.alloc | refine Mod.setCell ?_ _ _ (by first | simp | (simp; omega))))) (by simp)) ⟨_, 0, none⟩ 1 1 [.int .u32 id] (by decide) rfl rfl (by intro j u hu; exact list_new_at _ _ _ _ (by simp) j u hu) (by intro u hu; simp at hu; rcases hu with rfl; rfl) (by unfold maxLen; omega) (by omega) ?_; intro v7 w7 F7 hs7 hm7 hf7; have n7 := NewV.app m6 hf6 HLg.out (l2 := [.int .u32 id]) (m := 1) rfl ((Mod.refl _ _).alloc _) hs7 hm7 hf7; obtain ⟨a7, c7, rfl⟩ := n7.shape; have N7 := Lib.hid n7; have z2 : w7.cell? ⟨b, 1, none⟩ = some (.slice af ng capf) := (hm7.cell (a := ⟨b, 1, none⟩) (by simp; omega) hbF6).trans (by go_simp); have zf2 : w7.frozen? ⟨b, 1, none⟩ = false := (hm7.froz (a := ⟨b, 1, none⟩) (by simp; omega) hbF6).trans (by go_simp); clear n7 hs7 hm7 hf7 z1 zf))
      go_ret
      have W0s : (wr.setCell ⟨b, 0, none⟩ (.slice a1 q cap1)).heap.size = wr.heap.size := by simp
      obtain ⟨F8, hs8, m8, hf8⟩ := N7.out
      rw [W0s] at hf8
      have hbF' : b ∉ F' := fun hm => by have := G1.out b hm; omega
      have hbF8 : b ∉ F8 := fun hm => by have := hf8 b hm; omega
      have MA : Mod [b] wr (wr.setCell ⟨b, 0, none⟩ (.slice a1 q cap1)) := (Mod.refl _ _).setCell _ _ (by simp)
      have MB : Mod [b] w7 (w7.setCell ⟨b, 1, none⟩ (.slice a7 (m.gone.length + 1) c7)) := (Mod.refl _ _).setCell _ _ (by simp)
      have MW : Mod [b] w (w7.setCell ⟨b, 1, none⟩ (.slice a7 (m.gone.length + 1) c7)) := (((M1.out.mono (S' := [b]) (by simp)).trans MA (fun i _ h => h)).trans m8 (by simp)).trans MB (fun i _ h => h)
      have hlen8 : (m.gone.map eu ++ [Value.int .u32 (id : Int)]).length = m.gone.length + 1 := by simp
      rw [hlen8] at hs8
      refine ⟨rfl, b :: (F' ++ F8), ⟨.slice a1 q cap1, .slice a7 (m.gone.length + 1) c7, F', F8, ?_, ?_, ?_, rfl, hbF', hbF8, ?_⟩, MW.mono (fun i _ hi => by simp at hi; subst hi; exact HBF.out), ?_⟩
      · have h1 := ((HBr.out.set 0 (.slice a1 q cap1)).mod m8 (by simp)).set 1 (.slice a7 (m.gone.length + 1) c7)
        simpa [RM.drop] using h1
      · have h1 := ((S1.out.mod MA (fun k hk => by simp; intro e; subst e; exact hbF' hk)).mod m8 (by simp)).mod MB (fun k hk => by simp; intro e; subst e; exact hbF' hk)
        have e : (m.drop k id).L = (m.L.take j).eraseIdx k := HE.out.symm
        rw [e, HQ.out]
        exact h1
      · have h1 := hs8.mod MB (fun k hk => by simp; intro e; subst e; exact hbF8 hk)
        show Sl _ 27 1 _ (m.gone ++ [id]).length ((m.gone ++ [id]).map eu) _
        rw [List.length_append, List.map_append]
        exact h1
      · intro x hx hx8
        have h1 := S1.out.lt x hx
        have h2 := hf8 x hx8
        omega
      · intro x hx
        simp at hx
        rcases hx with rfl | hx | hx
        · exact .inl HBF.out
        · exact .inr (G1.out x hx)
        · have h1 := hf8 x hx
          have h2 := M1.out.size
          exact .inr (by omega)

/-- What Ids gives, p telling which are in. -/
def idsP (p : Nat → Bool) (n : Nat) : List Int := ((List.range n).filter p).map fun (j : Nat) => (j : Int) + 2
theorem idsP_succ (p : Nat → Bool) (i : Nat) : idsP p (i + 1) = idsP p i ++ (if p i then [(i : Int) + 2] else []) := by
  unfold idsP
  rw [List.range_succ, List.filter_append, List.map_append]
  congr 1
  by_cases h : p i = true <;> simp [h]
theorem idsP_len (p : Nat → Bool) (i : Nat) : (idsP p i).length ≤ i := by
  unfold idsP
  rw [List.length_map]
  exact Nat.le_trans (List.length_filter_le _ _) (by rw [List.length_range]; exact Nat.le_refl _)

set_option maxRecDepth 100000 in
set_option maxHeartbeats 4000000 in
theorem refIds_c {w : World} {b : Nat} {m : RM} {F : List Nat} (h : IsRef w b m F) (hl : m.L.length ≤ 100000) (hw : m.new ≤ 100000) (p : Nat → Bool) (hp : ∀ j, j < m.new → (p j = true ↔ ∃ t ∈ m.L, t.1 = j + 2)) :
    Calls Try.prog 33 #[.pointer (some ⟨b, 0, none⟩)] w fun e w' => ∃ v', e = .returned v' ∧ NewV 27 w ((idsP p m.new).map ei) w' v' := by
  obtain ⟨j0, hj, hy0, hy1, hy2⟩ := info_parts I.Try.info27'
  obtain ⟨a, cap, -, -, c2, -, -, -⟩ := h.own
  have hbF : b ∈ F := by obtain ⟨_, _, _, _, _, _, _, rfl, _⟩ := h; simp
  have hbl := h.lt b hbF
  have H := Lib.hid h
  have HL := Lib.hid hl
  have HP := Lib.hid hp
  clear h hl hp
  generalize hnw : m.new = n at *
  have HNW := Lib.hid hnw
  clear hnw
  go_enter Try.func33, Try.ntmps33
  go_wp2_with fail
  go_loopw [3, 4] (fun o s wr => ∃ j : Nat, s = .int .u32 ((j : Int) + 2) ∧ j ≤ n ∧ NewV 27 w ((idsP p j).map ei) wr o) (fun _ s _ => n + 2 - (intOf s).toNat)
  case atStart => exact ⟨0, rfl, Nat.zero_le _, by simpa [idsP] using NewV.nil 27 (Mod.refl _ _)⟩
  case round =>
    obtain ⟨j, rfl, hjn, nv⟩ := hrel
    have c2r : wr.cell? ⟨b, 2, none⟩ = some (.int .u32 n) := (nv.mod.cell (a := ⟨b, 2, none⟩) hbl (by simp)).trans c2
    obtain ⟨A, cp, rfl⟩ := nv.shape
    have hm5 : ((idsP p j).map ei).length ≤ n := by rw [List.length_map]; exact Nat.le_trans (idsP_len p j) hjn
    generalize hm0 : ((idsP p j).map ei).length = q at *
    have hlk := Lib.hid hm0
    clear hm0
    have NV := Lib.hid nv
    clear nv
    by_cases hlt : j < n
    · have hsu := idsP_succ p j
      have hpj := HP.out j hlt
      by_cases hin : p j = true
      · rw [if_pos hin] at hsu
        have HS := Lib.hid hsu
        obtain ⟨t, ht, hte⟩ := hpj.1 hin
        obtain ⟨k, hk, rfl⟩ := List.mem_iff_getElem.1 ht
        have AT : Hid (Calls Try.prog 29 #[.pointer (some ⟨b, 0, none⟩), .int .u32 ((j : Int) + 2)] wr fun e w' => (∃ k : Nat, e = .returned (.int .i64 k)) ∧ wr = w') := by
          have h1 := refAt_c (H.out.mod NV.out.mod (by simp)) HL.out (j + 2)
          rw [show (((j + 2 : Nat) : Int)) = (j : Int) + 2 by omega] at h1
          refine h1.mono ?_
          rintro e w' ⟨⟨i, he, hs⟩, hw⟩
          rcases hs with ⟨_, hn⟩ | ⟨k2, hk2, _⟩
          · exact absurd hte (hn _ ht)
          · exact ⟨⟨k2, by rw [he, hk2]⟩, hw⟩
        clear hsu hpj ht hte hin hk
        obtain ⟨F1, hs1, hm1, hf1⟩ := NV.out
        rw [hlk.out] at hs1
        have S1 := Lib.hid hs1
        have M1 := Lib.hid hm1
        have G1 := Lib.hid hf1
        clear hs1 hm1 hf1
        have hsn : Hid (∀ (v' : Value) (w2 w3 : World) (F' : List Nat), Mod [] wr w2 → Sl w3 27 1 v' (q + 1) (((idsP p j).map ei) ++ [.int .u32 ((j : Int) + 2)]) F' → Mod F1 w2 w3 → (∀ q ∈ F', q ∈ F1 ∨ w2.heap.size ≤ q) → NewV 27 w ((idsP p (j + 1)).map ei) w3 v') := fun v' w2 w3 F' m0 q1 q2 q3 => by
          rw [HS.out, List.map_append]
          exact NewV.app M1.out G1.out hlk.out (by simp) m0 q1 q2 q3
        go_wp2_with fail
        refine AT.out.mono ?_
        rintro e w' ⟨⟨k2, rfl⟩, rfl⟩
        go_wp2_with (at_builtin; refine wpList_append_sl _ rfl _ _ 40 rfl 27 j0 (.int .u32 0) 1 4 Try.underlying40 hj hy0 hy1 hy2 rfl (by decide) _ q ((idsP p j).map ei) F1 rfl (Sl.mod S1.out (S := []) (by (repeat (first | exact Mod.refl _ _ | apply Mod.drew | apply Mod.drewN | apply Mod.alloc | refine Mod.setCell ?_ _ _ (by first | simp | (simp; omega))))) (by simp)) ⟨_, 0, none⟩ 1 1 [.int .u32 ((j : Int) + 2)] (by decide) rfl rfl (by intro j u hu; exact list_new_at _ _ _ _ (by simp) j u hu) (by intro u hu; simp at hu; rcases hu with rfl; rfl) (by unfold maxLen; omega) (by omega) ?_; intro v' w3 F' hs3 hm3 hf3)
        have NN := hsn.out v' _ w3 F' (by (repeat (first | exact Mod.refl _ _ | apply Mod.drew | apply Mod.drewN | apply Mod.alloc | refine Mod.setCell ?_ _ _ (by first | simp | (simp; omega))))) hs3 hm3 hf3
        go_roundw
        case rel => exact ⟨j + 1, by go_num, hlt, NN⟩
        case measure => simp only [intOf]; omega
      · rw [if_neg hin, List.append_nil] at hsu
        rw [← hsu] at NV
        have AT : Hid (Calls Try.prog 29 #[.pointer (some ⟨b, 0, none⟩), .int .u32 ((j : Int) + 2)] wr fun e w' => e = .returned (.int .i64 (-1)) ∧ wr = w') := by
          have h1 := refAt_neg (H.out.mod NV.out.mod (by simp)) HL.out (id := j + 2) (fun t ht e => hin (hpj.2 ⟨t, ht, e⟩))
          rwa [show (((j + 2 : Nat) : Int)) = (j : Int) + 2 by omega] at h1
        clear hsu hpj hin
        go_wp2_with fail
        refine AT.out.mono ?_
        rintro e w' ⟨rfl, rfl⟩
        go_wp2
        go_roundw
        case rel => exact ⟨j + 1, by go_num, hlt, NV.out⟩
        case measure => simp only [intOf]; omega
    · obtain rfl : j = n := by omega
      go_wp2
      go_ret
      exact ⟨_, rfl, NV.out⟩
end Go.Proofs.Ytlkakkgmjihlaaa

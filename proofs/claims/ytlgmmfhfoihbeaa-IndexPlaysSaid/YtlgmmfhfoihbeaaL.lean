/- The law IndexPlays: the walk. -/
import Derived.Test.YtlgmmfhfoihbeaaJ
set_option linter.unusedVariables false
set_option linter.unusedSimpArgs false
namespace Go.Proofs.Ytlgmmfhfoihbeaa
open Go.RowKit

theorem St.next {w0 w : World} {bx by_ : Nat} {v : Value} {L : List (Nat × Nat)} {M M' : Nat} (h : St [] w0 w bx by_ v L M) (hM : M ≤ M') : St [] w0 w bx by_ v L M' :=
  Tri.imp h (fun F hF => hF.mono hM (fun _ _ => Iff.rfl)) (fun F hF => hF.mono hM (fun _ _ => Iff.rfl)) (fun F hF => hF)

theorem St.len_x {Z : List Nat} {w0 w : World} {bx by_ : Nat} {v : Value} {L : List (Nat × Nat)} {M : Nat} (h : St Z w0 w bx by_ v L M) : Calls Try.prog 20 #[.pointer (some ⟨bx, 0, none⟩)] w fun e w' => e = .returned (.int .i64 L.length) ∧ w = w' := by
  obtain ⟨_, _, _, ⟨g, j, n, T, h1, _⟩, _⟩ := h; exact F.len_c h1
theorem St.len_y {Z : List Nat} {w0 w : World} {bx by_ : Nat} {v : Value} {L : List (Nat × Nat)} {M : Nat} (h : St Z w0 w bx by_ v L M) : Calls Try.prog 9 #[.pointer (some ⟨by_, 0, none⟩)] w fun e w' => e = .returned (.int .i64 L.length) ∧ w = w' := by
  obtain ⟨_, _, _, _, ⟨g, j, n, T, h1, _⟩, _⟩ := h; exact O.len_c h1
theorem Mem.own {X : List Nat} {w0 w : World} {v : Value} {L : List (Nat × Nat)} (h : OwnG (Mem v L) X w0 w) : ∃ F, Mem v L w F := by
  obtain ⟨F, h, _⟩ := h; exact ⟨F, h⟩
/-- append, done. -/
theorem Mem.snoc {X : List Nat} {w0 w w1 w2 : World} {v v' : Value} {L : List (Nat × Nat)} {k id n : Nat} {F F' : List Nat} (h : Mem v L w F) (M : Mod [] w0 w) (hf : ∀ k ∈ F, w0.heap.size ≤ k ∧ k ∉ X) (hX : ∀ k ∈ X, k < w.heap.size) (hn : L.length = n)
    (hs : Sl w2 43 2 v' (n + 1) (recs pairOf L ++ [.int .u32 k, .int .u32 id]) F') (M1 : Mod [] w w1) (M2 : Mod F w1 w2) (hf' : ∀ k ∈ F', k ∈ F ∨ w1.heap.size ≤ k) : OwnG (Mem v' (L ++ [(k, id)])) X w0 w2 ∧ Keep X w w2 := by
  have hs' : Mem v' (L ++ [(k, id)]) w2 F' := by
    show Sl w2 43 2 v' (L ++ [(k, id)]).length (recs pairOf (L ++ [(k, id)])) F'
    rw [recs_snoc, List.length_append, hn]; exact hs
  have hsz := M1.size
  exact OwnG.mk M hf hX hs' (Mod.trans (M1.mono (by simp)) M2 (fun _ _ h => h)) (fun k hk => by
    rcases hf' k hk with h1 | h1
    · exact .inl h1
    · exact .inr (by omega))

set_option maxRecDepth 100000 in
set_option maxHeartbeats 8000000 in
theorem indexPlays_main (w : World) (a0 : Option Addr) (len cap : Nat) (z : Nat → Nat → Int) (hlen : len ≤ 200) (hw : Recs w a0 len cap [.u8, .u32, .u32] z) :
    Calls Try.prog 4 #[.slice a0 len cap] w fun e w' => e = .returned (.bool true) ∧ Mod [] w w' := by
  obtain ⟨i43, hi43, hz0, hz1, hz2⟩ := info_parts Try.info43
  have HR := Lib.hid hw
  clear hw
  go_enter Try.func4, Try.ntmps4
  go_wp2_with fail
  refine (alive_c w).mono ?_
  rintro e w1 ⟨rfl, M1⟩
  have Z1 := Lib.hid M1
  clear M1
  go_wp2_with fail
  refine (F.own_new [] Z1.out (by simp)).mono ?_
  rintro e w2 ⟨rfl, H2, -⟩
  obtain ⟨X, hX, hst⟩ := Tri.start (F.IsIx.kept _ _ _ _) H2
  have HX := Lib.hid hX
  have HS := Lib.hid hst
  have X2 := Lib.hid H2
  clear H2 hX hst
  generalize w1.heap.size + 1 = bx at *
  go_wp2_with fail
  refine (O.own_new X X2.out.mod HX.out).mono ?_
  rintro e w3 ⟨rfl, H3, K3⟩
  have S3 : Hid (St [] w w3 bx (w2.heap.size + 1) (.slice none 0 0) [] 0) := St.fin (HS.out _ _ w3 H3 K3 (Mem.nil w3)) (by simp [RL]) (by simp [RL]) rfl rfl (Nat.le_refl _) (Nat.le_refl _)
  clear H3 K3 HS HX X2
  generalize w2.heap.size + 1 = by_ at *
  go_wp2_with fail
  go_loopw [5, 6] (fun v u wr => ∃ (i : Nat) (L : List (Nat × Nat)), u = .int .i64 i ∧ i ≤ len ∧ LI L ∧ L.length ≤ i ∧ St [] w wr bx by_ v L i) (fun _ u _ => len - (intOf u).toNat)
  case atStart => exact ⟨0, [], rfl, Nat.zero_le _, ⟨by simp, by simp⟩, Nat.le_refl _, S3.out⟩
  case round =>
    clear S3
    obtain ⟨i, L, rfl, hi, hL, hLi, st⟩ := hrel
    obtain ⟨am, capm, rfl⟩ := st.shape
    have ST := Lib.hid st
    have HL := Lib.hid hL
    clear st hL
    by_cases hlt : i < len
    · obtain ⟨b0, off, rfl, hb0, ⟨c0, c1, c2⟩, f0, f1, f2⟩ := HR.out.at3 i hlt
      have HM : Hid (Mod [] w wr) := Tri.mod ST.out
      rw [← HM.out.cell (a := ⟨b0, _, none⟩) hb0 (by simp)] at c0 c1 c2
      have hb0' : b0 < wr.heap.size := Nat.lt_of_lt_of_le hb0 HM.out.size
      obtain ⟨q0, q1⟩ := bounds_u8 f0
      obtain ⟨q2, q3⟩ := bounds_u32 f1
      obtain ⟨q4, q5⟩ := bounds_u32 f2
      generalize z i 0 = kd at *
      generalize z i 1 = k at *
      generalize z i 2 = id at *
      obtain ⟨kd, rfl⟩ := Int.eq_ofNat_of_zero_le q0
      obtain ⟨k, rfl⟩ := Int.eq_ofNat_of_zero_le q2
      obtain ⟨id, rfl⟩ := Int.eq_ofNat_of_zero_le q4
      have hkb : k ≤ 4294967295 := by omega
      have hidb : id ≤ 4294967295 := by omega
      clear f0 f1 f2 q0 q1 q2 q3 q4 q5
      have B1 : Hid (Blk (wr.alloc (.cells #[.int .u8 kd, .int .u32 k, .int .u32 id] 40)) wr.heap.size #[.int .u8 kd, .int .u32 k, .int .u32 id] 40) := Blk.new _ _ _
      have S1 : Hid (St [wr.heap.size] w (wr.alloc (.cells #[.int .u8 kd, .int .u32 k, .int .u32 id] 40)) bx by_ (.slice am L.length capm) L i) :=
        Tri.add (F.IsIx.kept _ _ _ _) (O.IsIx.kept _ _ _ _) (Mem.kept _ _) ST.out ((Mod.refl _ _).alloc _) _ (Nat.le_refl _) (by simp)
      by_cases hat : ∃ p, p < L.length ∧ (el L p).1 = k
      · obtain ⟨p, hp, hpk⟩ := hat
        have HPK := Lib.hid hpk
        clear hpk
        obtain ⟨Fm, hm⟩ := S1.out.mem
        have A1 := Lib.hid (at_some hm k (by omega) p hp HPK.out (HL.out.first hp HPK.out))
        obtain ⟨gm, capm', hv, _, d1, hgl⟩ := Mem.cell hm p hp
        simp at hv
        obtain ⟨rfl, rfl⟩ := hv
        clear hm ST
        generalize hwas : (el L p).2 = was at *
        have HW : Hid (RL L k was) := by rw [← hwas]; exact RL_at hp HPK.out
        clear hwas
        go_wp2_with fail
        refine A1.out.mono ?_
        rintro e w4 ⟨rfl, rfl⟩
        clear A1
        have hk4 : (kd % 8 = 0 ∨ kd % 8 = 1 ∨ kd % 8 = 2 ∨ kd % 8 = 3) ∨ (kd % 8 = 4 ∨ kd % 8 = 5) ∨ kd % 8 = 6 ∨ kd % 8 = 7 := by omega
        have hk8 : ((kd : Int) % 8) = ((kd % 8 : Nat) : Int) := rfl
        clear hgl
        generalize (wr.alloc (.cells #[.int .u8 kd, .int .u32 k, .int .u32 id] 40)) = wq at *
        generalize wr.heap.size = ga at *
        have a0 := B1.out.cell 0
        have a1 := B1.out.cell 1
        have a2 := B1.out.cell 2
        simp at a0 a1 a2
        rcases hk4 with h | h | h | h
        · obtain ⟨X, ho, hz, back⟩ := Tri.open1 (O.IsIx.kept _ _ _ _) (Mem.kept _ _) S1.out
          have HO := Lib.hid ho
          have HZ := Lib.hid (hz ga (by simp))
          have HB := Lib.hid back
          clear ho hz back
          have RA := Lib.hid (fun id => RL_again (id := id) HL.out hp HPK.out)
          have LA := Lib.hid (HL.out.again hp HPK.out hkb hidb)
          have LE := Lib.hid (len_erase hp)
          clear c0 c1 c2 HR
          rcases h with h | h | h | h
          all_goals
            as_aux_lemma =>
              rw [h] at hk8
              clear h
              go_wp2_with fail
              refine (F.own_put_old HO.out (by omega) k id hkb hidb HW.out (RA.out id)).mono ?_
              rintro e w5 ⟨rfl, H5, K5⟩
              have T5 := Lib.hid (HB.out _ w5 H5 K5).rot
              have B5 := Lib.hid (B1.out.keep K5 HZ.out)
              clear H5 K5 HB HZ HO S1 a0 a1 a2 d1
              have a1 := B5.out.cell 1
              have a2 := B5.out.cell 2
              simp at a1 a2
              obtain ⟨X, ho, hz, back⟩ := Tri.open1 (Mem.kept _ _) (F.IsIx.kept _ _ _ _) T5.out
              have HO := Lib.hid ho
              have HZ := Lib.hid (hz ga (by simp))
              have HB := Lib.hid back
              clear ho hz back
              go_wp2_with fail
              refine (O.own_put_old HO.out (by omega) k id hkb hidb HW.out (RA.out id)).mono ?_
              rintro e w6 ⟨rfl, H6, K6⟩
              have T6 := Lib.hid (HB.out _ w6 H6 K6).rot
              have B6 := Lib.hid (B5.out.keep K6 HZ.out)
              clear H6 K6 HB HZ HO T5 a1 a2
              have a1 := B6.out.cell 1
              have a2 := B6.out.cell 2
              simp at a1 a2
              obtain ⟨X, ho, hz, back⟩ := Tri.open1 (F.IsIx.kept _ _ _ _) (O.IsIx.kept _ _ _ _) T6.out
              obtain ⟨Fm, hm⟩ := Mem.own ho
              have HO := Lib.hid ho
              have HZ := Lib.hid (hz ga (by simp))
              have HB := Lib.hid back
              have WO := Lib.hid (without_c hm (by omega) p hp)
              clear ho hz back hm
              go_wp2_with fail
              refine WO.out.mono ?_
              rintro e w7 ⟨v', rfl, F', hm', M7, fr⟩
              obtain ⟨ho', K7⟩ := HO.out.renew (P' := Mem v' (L.eraseIdx p)) hm' M7 fr
              have T7 := Lib.hid (HB.out _ w7 ho' K7)
              have B7 := Lib.hid (B6.out.keep K7 HZ.out)
              have a1 := B7.out.cell 1
              have a2 := B7.out.cell 2
              simp at a1 a2
              obtain ⟨a3, cap3, rfl, _⟩ := Sl.shape hm'
              clear hm' M7 fr ho' K7 HB HZ HO T6 WO
              obtain ⟨X, ⟨F3, hm, M3, hf3, hX3⟩, hz, back⟩ := Tri.open1 (F.IsIx.kept _ _ _ _) (O.IsIx.kept _ _ _ _) T7.out
              have HM3 := Lib.hid hm
              have HS3 : Hid (Sl w7 43 2 (.slice a3 (L.eraseIdx p).length cap3) (L.eraseIdx p).length (recs pairOf (L.eraseIdx p)) F3) := hm
              have HB := Lib.hid back
              have hl3 : (L.eraseIdx p).length ≤ 1000 := by rw [LE.out]; omega
              have Q1 := Lib.hid M3
              have Q2 := Lib.hid hf3
              have Q3 := Lib.hid hX3
              clear hm back hz T7 M3 hf3 hX3
              generalize hn3 : (L.eraseIdx p).length = n3 at *
              have HN3 := Lib.hid hn3
              clear hn3
              go_wp2_with (at_builtin; refine wpList_append_sl _ rfl _ _ 38 rfl 43 i43 (.agg #[.int .u32 0, .int .u32 0]) 2 8 Try.underlying38 hi43 hz0 hz1 hz2 rfl (by decide) _ n3 (recs pairOf (L.eraseIdx p)) F3 rfl (Sl.mod HS3.out (S := []) (by (repeat (first | exact Mod.refl _ _ | apply Mod.drew | apply Mod.drewN | apply Mod.alloc | refine Mod.setCell ?_ _ _ (by first | simp | (simp; omega))))) (by simp)) ⟨w7.heap.size, 0, none⟩ 1 1 [.int .u32 k, .int .u32 id] (by decide) rfl rfl (by intro j u hu; exact list_new_at _ _ _ _ (by simp) j u hu) (by intro u hu; simp at hu; rcases hu with rfl | rfl <;> rfl) (by unfold maxLen; omega) (by omega) ?_; intro v4 w8 F4 hs4 hm4 hf4; obtain ⟨a4, cap4, rfl, _⟩ := hs4.shape)
              obtain ⟨ho4, K4⟩ := Mem.snoc HM3.out Q1.out Q2.out Q3.out HN3.out hs4 (by (repeat (first | exact Mod.refl _ _ | apply Mod.drew | apply Mod.drewN | apply Mod.alloc | refine Mod.setCell ?_ _ _ (by first | simp | (simp; omega))))) hm4 hf4
              have hl9 : (L.eraseIdx p ++ [(k, id)]).length = n3 + 1 := by rw [List.length_append, HN3.out]; rfl
              have S9 : Hid (St [] w w8 bx by_ (.slice a4 (n3 + 1) cap4) (L.eraseIdx p ++ [(k, id)]) (i + 1)) := St.fin (Tri.rot (HB.out _ w8 ho4 K4)) (fun _ _ => Iff.rfl) (fun _ _ => Iff.rfl) (by rw [hl9, LE.out]; omega) (by rw [hl9, LE.out]; omega) (by omega) (by omega)
              clear ho4 K4 hs4 hm4 hf4 HB Q1 Q2 Q3 a1 a2
              have LX := St.len_x S9.out
              have LY := St.len_y S9.out
              rw [hl9] at LX LY
              have HL9 := Lib.hid hl9
              clear hl9
              have HLX := Lib.hid LX
              have HLY := Lib.hid LY
              clear LX LY
              go_wp2_with (first | (go_at_call 20; refine HLX.out.mono ?_; rintro e w' ⟨rfl, rfl⟩) | (go_at_call 9; refine HLY.out.mono ?_; rintro e w' ⟨rfl, rfl⟩))
              go_roundw
              case rel => exact ⟨i + 1, _, rfl, hlt, LA.out, by rw [HL9.out, LE.out]; omega, S9.out⟩
              case measure => simp [intOf]; omega
        · obtain ⟨X, ho, hz, back⟩ := Tri.open1 (O.IsIx.kept _ _ _ _) (Mem.kept _ _) S1.out
          have HO := Lib.hid ho
          have HZ := Lib.hid (hz ga (by simp))
          have HB := Lib.hid back
          clear ho hz back
          have RE := Lib.hid (RL_erase HL.out hp HPK.out)
          have LA := Lib.hid (HL.out.erase p)
          have LE := Lib.hid (len_erase hp)
          clear c0 c1 c2 HR
          rcases h with h | h
          all_goals
            as_aux_lemma =>
              rw [h] at hk8
              clear h
              go_wp2_with fail
              refine (F.own_drop HO.out (by omega) k hkb HW.out RE.out).mono ?_
              rintro e w5 ⟨rfl, -, H5, K5⟩
              have T5 := Lib.hid (HB.out _ w5 H5 K5).rot
              have B5 := Lib.hid (B1.out.keep K5 HZ.out)
              clear H5 K5 HB HZ HO S1 a0 a1 a2 d1
              have a1 := B5.out.cell 1
              have a2 := B5.out.cell 2
              simp at a1 a2
              obtain ⟨X, ho, hz, back⟩ := Tri.open1 (Mem.kept _ _) (F.IsIx.kept _ _ _ _) T5.out
              have HO := Lib.hid ho
              have HZ := Lib.hid (hz ga (by simp))
              have HB := Lib.hid back
              clear ho hz back
              go_wp2_with fail
              refine (O.own_drop HO.out (by omega) k hkb HW.out RE.out).mono ?_
              rintro e w6 ⟨rfl, -, H6, K6⟩
              have T6 := Lib.hid (HB.out _ w6 H6 K6).rot
              have B6 := Lib.hid (B5.out.keep K6 HZ.out)
              clear H6 K6 HB HZ HO T5 a1 a2
              have a1 := B6.out.cell 1
              have a2 := B6.out.cell 2
              simp at a1 a2
              obtain ⟨X, ho, hz, back⟩ := Tri.open1 (F.IsIx.kept _ _ _ _) (O.IsIx.kept _ _ _ _) T6.out
              obtain ⟨Fm, hm⟩ := Mem.own ho
              have HO := Lib.hid ho
              have HZ := Lib.hid (hz ga (by simp))
              have HB := Lib.hid back
              have WO := Lib.hid (without_c hm (by omega) p hp)
              clear ho hz back hm
              go_wp2_with fail
              refine WO.out.mono ?_
              rintro e w7 ⟨v', rfl, F', hm', M7, fr⟩
              obtain ⟨ho', K7⟩ := HO.out.renew (P' := Mem v' (L.eraseIdx p)) hm' M7 fr
              have T7 := Lib.hid (HB.out _ w7 ho' K7)
              have B7 := Lib.hid (B6.out.keep K7 HZ.out)
              have a1 := B7.out.cell 1
              have a2 := B7.out.cell 2
              simp at a1 a2
              obtain ⟨a3, cap3, rfl, _⟩ := Sl.shape hm'
              clear hm' M7 fr ho' K7 HB HZ HO T6 WO
              have S9 : Hid (St [] w w7 bx by_ (.slice a3 (L.eraseIdx p).length cap3) (L.eraseIdx p) (i + 1)) := St.fin (Tri.rot T7.out) (fun _ _ => Iff.rfl) (fun _ _ => Iff.rfl) LE.out.symm LE.out.symm (by omega) (by omega)
              clear a1 a2 T7
              generalize hn3 : (L.eraseIdx p).length = n3 at *
              have HN3 := Lib.hid hn3
              clear hn3
              have LX := St.len_x S9.out
              have LY := St.len_y S9.out
              rw [HN3.out] at LX LY
              have HLX := Lib.hid LX
              have HLY := Lib.hid LY
              clear LX LY
              go_wp2_with (first | (go_at_call 20; refine HLX.out.mono ?_; rintro e w' ⟨rfl, rfl⟩) | (go_at_call 9; refine HLY.out.mono ?_; rintro e w' ⟨rfl, rfl⟩))
              go_roundw
              case rel => exact ⟨i + 1, _, rfl, hlt, LA.out, by rw [HN3.out, LE.out]; omega, S9.out⟩
              case measure => simp [intOf]; omega
        · as_aux_lemma =>
            obtain ⟨X, ho, hz, back⟩ := Tri.open1 (O.IsIx.kept _ _ _ _) (Mem.kept _ _) S1.out
            have HO := Lib.hid ho
            have HZ := Lib.hid (hz ga (by simp))
            have HB := Lib.hid back
            clear ho hz back
            clear c0 c1 c2 HR
            rw [h] at hk8
            clear h
            go_wp2_with fail
            refine (F.own_get HO.out (by omega) k hkb HW.out).mono ?_
            rintro e w5 ⟨rfl, H5, K5⟩
            have T5 := Lib.hid (HB.out _ w5 H5 K5).rot
            have B5 := Lib.hid (B1.out.keep K5 HZ.out)
            clear H5 K5 HB HZ HO S1 a0 a1 a2 d1
            have a1 := B5.out.cell 1
            have a2 := B5.out.cell 2
            simp at a1 a2
            obtain ⟨X, ho, hz, back⟩ := Tri.open1 (Mem.kept _ _) (F.IsIx.kept _ _ _ _) T5.out
            have HO := Lib.hid ho
            have HZ := Lib.hid (hz ga (by simp))
            have HB := Lib.hid back
            clear ho hz back
            go_wp2_with fail
            refine (O.own_get HO.out (by omega) k hkb HW.out).mono ?_
            rintro e w6 ⟨rfl, H6, K6⟩
            have T6 := Lib.hid (HB.out _ w6 H6 K6).rot
            have B6 := Lib.hid (B5.out.keep K6 HZ.out)
            clear H6 K6 HB HZ HO T5 a1 a2
            have a1 := B6.out.cell 1
            have a2 := B6.out.cell 2
            simp at a1 a2
            have S9 : Hid (St [] w w6 bx by_ (.slice (some ⟨gm, 0, none⟩) L.length capm) L (i + 1)) := St.fin (Tri.rot T6.out) (fun _ _ => Iff.rfl) (fun _ _ => Iff.rfl) rfl rfl (by omega) (by omega)
            clear a1 a2 T6
            have LX := St.len_x S9.out
            have LY := St.len_y S9.out
            skip
            have HLX := Lib.hid LX
            have HLY := Lib.hid LY
            clear LX LY
            go_wp2_with (first | (go_at_call 20; refine HLX.out.mono ?_; rintro e w' ⟨rfl, rfl⟩) | (go_at_call 9; refine HLY.out.mono ?_; rintro e w' ⟨rfl, rfl⟩))
            go_roundw
            case rel => exact ⟨i + 1, _, rfl, hlt, HL.out, by omega, S9.out⟩
            case measure => simp [intOf]; omega
        · as_aux_lemma =>
            obtain ⟨X, ho, hz, back⟩ := Tri.open1 (O.IsIx.kept _ _ _ _) (Mem.kept _ _) S1.out
            have HO := Lib.hid ho
            have HZ := Lib.hid (hz ga (by simp))
            have HB := Lib.hid back
            clear ho hz back
            clear c0 c1 c2 HR
            rw [h] at hk8
            clear h
            by_cases h16 : id % 16 = 0
            · have hi16 : ((id : Int) % 16) = 0 := by omega
              clear h16
              go_wp2_with fail
              refine (F.own_clear HO.out).mono ?_
              rintro e w5 ⟨rfl, H5, K5⟩
              have T5 := Lib.hid (HB.out _ w5 H5 K5).rot
              have B5 := Lib.hid (B1.out.keep K5 HZ.out)
              clear H5 K5 HB HZ HO S1 a0 a1 a2 d1
              have a1 := B5.out.cell 1
              have a2 := B5.out.cell 2
              simp at a1 a2
              obtain ⟨X, ho, hz, back⟩ := Tri.open1 (Mem.kept _ _) (F.IsIx.kept _ _ _ _) T5.out
              have HO := Lib.hid ho
              have HZ := Lib.hid (hz ga (by simp))
              have HB := Lib.hid back
              clear ho hz back
              go_wp2_with fail
              refine (O.own_clear HO.out).mono ?_
              rintro e w6 ⟨rfl, H6, K6⟩
              have T6 := Lib.hid (HB.out _ w6 H6 K6).rot
              have B6 := Lib.hid (B5.out.keep K6 HZ.out)
              clear H6 K6 HB HZ HO T5 a1 a2
              have a1 := B6.out.cell 1
              have a2 := B6.out.cell 2
              simp at a1 a2
              obtain ⟨X, ho, hz, back⟩ := Tri.open1 (F.IsIx.kept _ _ _ _) (O.IsIx.kept _ _ _ _) T6.out
              obtain ⟨ho', K7⟩ := ho.renew (P' := Mem (.slice none 0 0) []) (Mem.nil w6) (Mod.refl [] w6) (by simp)
              have S9 : Hid (St [] w w6 bx by_ (.slice none 0 0) [] (i + 1)) := St.fin (Tri.rot (back _ w6 ho' K7)) (by simp [RL]) (by simp [RL]) rfl rfl (by omega) (by omega)
              clear a1 a2 T6 ho hz back ho' K7
              have LX := St.len_x S9.out
              have LY := St.len_y S9.out
              skip
              have HLX := Lib.hid LX
              have HLY := Lib.hid LY
              clear LX LY
              go_wp2_with (first | (go_at_call 20; refine HLX.out.mono ?_; rintro e w' ⟨rfl, rfl⟩) | (go_at_call 9; refine HLY.out.mono ?_; rintro e w' ⟨rfl, rfl⟩))
              go_roundw
              case rel => exact ⟨i + 1, _, rfl, hlt, ⟨by simp, by simp⟩, by simp, S9.out⟩
              case measure => simp [intOf]; omega
            · have hi16 : (((id : Int) % 16) == 0) = false := by rw [beq_eq_false_iff_ne]; omega
              clear h16
              have S9 : Hid (St [] w wq bx by_ (.slice (some ⟨gm, 0, none⟩) L.length capm) L (i + 1)) := St.fin S1.out (fun _ _ => Iff.rfl) (fun _ _ => Iff.rfl) rfl rfl (by omega) (by omega)
              clear S1 HO HZ HB
              have LX := St.len_x S9.out
              have LY := St.len_y S9.out
              skip
              have HLX := Lib.hid LX
              have HLY := Lib.hid LY
              clear LX LY
              go_wp2_with (first | (go_at_call 20; refine HLX.out.mono ?_; rintro e w' ⟨rfl, rfl⟩) | (go_at_call 9; refine HLY.out.mono ?_; rintro e w' ⟨rfl, rfl⟩))
              go_roundw
              case rel => exact ⟨i + 1, _, rfl, hlt, HL.out, by omega, S9.out⟩
              case measure => simp [intOf]; omega
      · have HN : Hid (∀ id, ¬ RL L k id) := RL_none hat
        obtain ⟨Fm, hm⟩ := S1.out.mem
        have A1 := Lib.hid (at_none hm k (by omega) (ne_none hat))
        clear hm ST hat
        go_wp2_with fail
        refine A1.out.mono ?_
        rintro e w4 ⟨rfl, rfl⟩
        clear A1
        have hk4 : (kd % 8 = 0 ∨ kd % 8 = 1 ∨ kd % 8 = 2 ∨ kd % 8 = 3) ∨ (kd % 8 = 4 ∨ kd % 8 = 5) ∨ kd % 8 = 6 ∨ kd % 8 = 7 := by omega
        have hk8 : ((kd : Int) % 8) = ((kd % 8 : Nat) : Int) := rfl
        generalize (wr.alloc (.cells #[.int .u8 kd, .int .u32 k, .int .u32 id] 40)) = wq at *
        generalize wr.heap.size = ga at *
        have a0 := B1.out.cell 0
        have a1 := B1.out.cell 1
        have a2 := B1.out.cell 2
        simp at a0 a1 a2
        rcases hk4 with h | h | h | h
        · obtain ⟨X, ho, hz, back⟩ := Tri.open1 (O.IsIx.kept _ _ _ _) (Mem.kept _ _) S1.out
          have HO := Lib.hid ho
          have HZ := Lib.hid (hz ga (by simp))
          have HB := Lib.hid back
          clear ho hz back
          have RA := Lib.hid (fun id => RL_snoc (id := id) HN.out)
          have LA := Lib.hid (HL.out.snoc HN.out hkb hidb)
          clear c0 c1 c2 HR
          rcases h with h | h | h | h
          all_goals
            as_aux_lemma =>
              rw [h] at hk8
              clear h
              go_wp2_with fail
              refine (F.own_put_new HO.out (by omega) k id hkb hidb HN.out (RA.out id)).mono ?_
              rintro e w5 ⟨rfl, H5, K5⟩
              have T5 := Lib.hid (HB.out _ w5 H5 K5).rot
              have B5 := Lib.hid (B1.out.keep K5 HZ.out)
              clear H5 K5 HB HZ HO S1 a0 a1 a2
              have a1 := B5.out.cell 1
              have a2 := B5.out.cell 2
              simp at a1 a2
              obtain ⟨X, ho, hz, back⟩ := Tri.open1 (Mem.kept _ _) (F.IsIx.kept _ _ _ _) T5.out
              have HO := Lib.hid ho
              have HZ := Lib.hid (hz ga (by simp))
              have HB := Lib.hid back
              clear ho hz back
              go_wp2_with fail
              refine (O.own_put_new HO.out (by omega) k id hkb hidb HN.out (RA.out id)).mono ?_
              rintro e w6 ⟨rfl, H6, K6⟩
              have T6 := Lib.hid (HB.out _ w6 H6 K6).rot
              have B6 := Lib.hid (B5.out.keep K6 HZ.out)
              clear H6 K6 HB HZ HO T5 a1 a2
              have a1 := B6.out.cell 1
              have a2 := B6.out.cell 2
              simp at a1 a2
              obtain ⟨X, ⟨F3, hm, M3, hf3, hX3⟩, hz, back⟩ := Tri.open1 (F.IsIx.kept _ _ _ _) (O.IsIx.kept _ _ _ _) T6.out
              have HM3 := Lib.hid hm
              have HS3 : Hid (Sl w6 43 2 (.slice am L.length capm) L.length (recs pairOf L) F3) := hm
              have HB := Lib.hid back
              have hl3 : L.length ≤ 1000 := by omega
              have Q1 := Lib.hid M3
              have Q2 := Lib.hid hf3
              have Q3 := Lib.hid hX3
              clear hm back hz T6 M3 hf3 hX3
              go_wp2_with (at_builtin; refine wpList_append_sl _ rfl _ _ 38 rfl 43 i43 (.agg #[.int .u32 0, .int .u32 0]) 2 8 Try.underlying38 hi43 hz0 hz1 hz2 rfl (by decide) _ L.length (recs pairOf L) F3 rfl (Sl.mod HS3.out (S := []) (by (repeat (first | exact Mod.refl _ _ | apply Mod.drew | apply Mod.drewN | apply Mod.alloc | refine Mod.setCell ?_ _ _ (by first | simp | (simp; omega))))) (by simp)) ⟨w6.heap.size, 0, none⟩ 1 1 [.int .u32 k, .int .u32 id] (by decide) rfl rfl (by intro j u hu; exact list_new_at _ _ _ _ (by simp) j u hu) (by intro u hu; simp at hu; rcases hu with rfl | rfl <;> rfl) (by unfold maxLen; omega) (by omega) ?_; intro v4 w8 F4 hs4 hm4 hf4; obtain ⟨a4, cap4, rfl, _⟩ := hs4.shape)
              obtain ⟨ho4, K4⟩ := Mem.snoc HM3.out Q1.out Q2.out Q3.out rfl hs4 (by (repeat (first | exact Mod.refl _ _ | apply Mod.drew | apply Mod.drewN | apply Mod.alloc | refine Mod.setCell ?_ _ _ (by first | simp | (simp; omega))))) hm4 hf4
              have hl9 : (L ++ [(k, id)]).length = L.length + 1 := by rw [List.length_append]; rfl
              have S9 : Hid (St [] w w8 bx by_ (.slice a4 (L.length + 1) cap4) (L ++ [(k, id)]) (i + 1)) := St.fin (Tri.rot (HB.out _ w8 ho4 K4)) (fun _ _ => Iff.rfl) (fun _ _ => Iff.rfl) hl9.symm hl9.symm (by omega) (by omega)
              clear ho4 K4 hs4 hm4 hf4 HB Q1 Q2 Q3 a1 a2
              have LX := St.len_x S9.out
              have LY := St.len_y S9.out
              rw [hl9] at LX LY
              have HL9 := Lib.hid hl9
              clear hl9
              have HLX := Lib.hid LX
              have HLY := Lib.hid LY
              clear LX LY
              go_wp2_with (first | (go_at_call 20; refine HLX.out.mono ?_; rintro e w' ⟨rfl, rfl⟩) | (go_at_call 9; refine HLY.out.mono ?_; rintro e w' ⟨rfl, rfl⟩))
              go_roundw
              case rel => exact ⟨i + 1, _, rfl, hlt, LA.out, by rw [HL9.out]; omega, S9.out⟩
              case measure => simp [intOf]; omega
        · obtain ⟨X, ho, hz, back⟩ := Tri.open1 (O.IsIx.kept _ _ _ _) (Mem.kept _ _) S1.out
          have HO := Lib.hid ho
          have HZ := Lib.hid (hz ga (by simp))
          have HB := Lib.hid back
          clear ho hz back
          have DX := Lib.hid (F.own_drop_none HO.out (by omega) k hkb HN.out)
          obtain ⟨X, ho2, hz2, back2⟩ := Tri.open1 (Mem.kept _ _) (F.IsIx.kept _ _ _ _) (Tri.rot S1.out)
          have DY := Lib.hid (O.own_drop_none ho2 (by omega) k hkb HN.out)
          have S9 : Hid (St [] w wq bx by_ (.slice am L.length capm) L (i + 1)) := St.fin S1.out (fun _ _ => Iff.rfl) (fun _ _ => Iff.rfl) rfl rfl (by omega) (by omega)
          clear c0 c1 c2 HR S1 HO HZ HB ho2 hz2 back2
          rcases h with h | h
          all_goals
            as_aux_lemma =>
              rw [h] at hk8
              clear h
              have LX := St.len_x S9.out
              have LY := St.len_y S9.out
              skip
              have HLX := Lib.hid LX
              have HLY := Lib.hid LY
              clear LX LY
              go_wp2_with (first | (go_at_call 16; refine DX.out.mono ?_; rintro e w' ⟨rfl, rfl⟩) | (go_at_call 10; refine DY.out.mono ?_; rintro e w' ⟨rfl, rfl⟩) | (go_at_call 20; refine HLX.out.mono ?_; rintro e w' ⟨rfl, rfl⟩) | (go_at_call 9; refine HLY.out.mono ?_; rintro e w' ⟨rfl, rfl⟩))
              go_roundw
              case rel => exact ⟨i + 1, _, rfl, hlt, HL.out, by omega, S9.out⟩
              case measure => simp [intOf]; omega
        · as_aux_lemma =>
            obtain ⟨X, ho, hz, back⟩ := Tri.open1 (O.IsIx.kept _ _ _ _) (Mem.kept _ _) S1.out
            have HO := Lib.hid ho
            have HZ := Lib.hid (hz ga (by simp))
            have HB := Lib.hid back
            clear ho hz back
            clear c0 c1 c2 HR
            rw [h] at hk8
            clear h
            go_wp2_with fail
            refine (F.own_get_none HO.out (by omega) k hkb HN.out).mono ?_
            rintro e w5 ⟨rfl, H5, K5⟩
            have T5 := Lib.hid (HB.out _ w5 H5 K5).rot
            have B5 := Lib.hid (B1.out.keep K5 HZ.out)
            clear H5 K5 HB HZ HO S1 a0 a1 a2
            have a1 := B5.out.cell 1
            have a2 := B5.out.cell 2
            simp at a1 a2
            obtain ⟨X, ho, hz, back⟩ := Tri.open1 (Mem.kept _ _) (F.IsIx.kept _ _ _ _) T5.out
            have HO := Lib.hid ho
            have HZ := Lib.hid (hz ga (by simp))
            have HB := Lib.hid back
            clear ho hz back
            go_wp2_with fail
            refine (O.own_get_none HO.out (by omega) k hkb HN.out).mono ?_
            rintro e w6 ⟨rfl, H6, K6⟩
            have T6 := Lib.hid (HB.out _ w6 H6 K6).rot
            have B6 := Lib.hid (B5.out.keep K6 HZ.out)
            clear H6 K6 HB HZ HO T5 a1 a2
            have a1 := B6.out.cell 1
            have a2 := B6.out.cell 2
            simp at a1 a2
            have S9 : Hid (St [] w w6 bx by_ (.slice am L.length capm) L (i + 1)) := St.fin (Tri.rot T6.out) (fun _ _ => Iff.rfl) (fun _ _ => Iff.rfl) rfl rfl (by omega) (by omega)
            clear a1 a2 T6
            have LX := St.len_x S9.out
            have LY := St.len_y S9.out
            skip
            have HLX := Lib.hid LX
            have HLY := Lib.hid LY
            clear LX LY
            go_wp2_with (first | (go_at_call 20; refine HLX.out.mono ?_; rintro e w' ⟨rfl, rfl⟩) | (go_at_call 9; refine HLY.out.mono ?_; rintro e w' ⟨rfl, rfl⟩))
            go_roundw
            case rel => exact ⟨i + 1, _, rfl, hlt, HL.out, by omega, S9.out⟩
            case measure => simp [intOf]; omega
        · as_aux_lemma =>
            obtain ⟨X, ho, hz, back⟩ := Tri.open1 (O.IsIx.kept _ _ _ _) (Mem.kept _ _) S1.out
            have HO := Lib.hid ho
            have HZ := Lib.hid (hz ga (by simp))
            have HB := Lib.hid back
            clear ho hz back
            clear c0 c1 c2 HR
            rw [h] at hk8
            clear h
            by_cases h16 : id % 16 = 0
            · have hi16 : ((id : Int) % 16) = 0 := by omega
              clear h16
              go_wp2_with fail
              refine (F.own_clear HO.out).mono ?_
              rintro e w5 ⟨rfl, H5, K5⟩
              have T5 := Lib.hid (HB.out _ w5 H5 K5).rot
              have B5 := Lib.hid (B1.out.keep K5 HZ.out)
              clear H5 K5 HB HZ HO S1 a0 a1 a2 
              have a1 := B5.out.cell 1
              have a2 := B5.out.cell 2
              simp at a1 a2
              obtain ⟨X, ho, hz, back⟩ := Tri.open1 (Mem.kept _ _) (F.IsIx.kept _ _ _ _) T5.out
              have HO := Lib.hid ho
              have HZ := Lib.hid (hz ga (by simp))
              have HB := Lib.hid back
              clear ho hz back
              go_wp2_with fail
              refine (O.own_clear HO.out).mono ?_
              rintro e w6 ⟨rfl, H6, K6⟩
              have T6 := Lib.hid (HB.out _ w6 H6 K6).rot
              have B6 := Lib.hid (B5.out.keep K6 HZ.out)
              clear H6 K6 HB HZ HO T5 a1 a2
              have a1 := B6.out.cell 1
              have a2 := B6.out.cell 2
              simp at a1 a2
              obtain ⟨X, ho, hz, back⟩ := Tri.open1 (F.IsIx.kept _ _ _ _) (O.IsIx.kept _ _ _ _) T6.out
              obtain ⟨ho', K7⟩ := ho.renew (P' := Mem (.slice none 0 0) []) (Mem.nil w6) (Mod.refl [] w6) (by simp)
              have S9 : Hid (St [] w w6 bx by_ (.slice none 0 0) [] (i + 1)) := St.fin (Tri.rot (back _ w6 ho' K7)) (by simp [RL]) (by simp [RL]) rfl rfl (by omega) (by omega)
              clear a1 a2 T6 ho hz back ho' K7
              have LX := St.len_x S9.out
              have LY := St.len_y S9.out
              skip
              have HLX := Lib.hid LX
              have HLY := Lib.hid LY
              clear LX LY
              go_wp2_with (first | (go_at_call 20; refine HLX.out.mono ?_; rintro e w' ⟨rfl, rfl⟩) | (go_at_call 9; refine HLY.out.mono ?_; rintro e w' ⟨rfl, rfl⟩))
              go_roundw
              case rel => exact ⟨i + 1, _, rfl, hlt, ⟨by simp, by simp⟩, by simp, S9.out⟩
              case measure => simp [intOf]; omega
            · have hi16 : (((id : Int) % 16) == 0) = false := by rw [beq_eq_false_iff_ne]; omega
              clear h16
              have S9 : Hid (St [] w wq bx by_ (.slice am L.length capm) L (i + 1)) := St.fin S1.out (fun _ _ => Iff.rfl) (fun _ _ => Iff.rfl) rfl rfl (by omega) (by omega)
              clear S1 HO HZ HB
              have LX := St.len_x S9.out
              have LY := St.len_y S9.out
              skip
              have HLX := Lib.hid LX
              have HLY := Lib.hid LY
              clear LX LY
              go_wp2_with (first | (go_at_call 20; refine HLX.out.mono ?_; rintro e w' ⟨rfl, rfl⟩) | (go_at_call 9; refine HLY.out.mono ?_; rintro e w' ⟨rfl, rfl⟩))
              go_roundw
              case rel => exact ⟨i + 1, _, rfl, hlt, HL.out, by omega, S9.out⟩
              case measure => simp [intOf]; omega
    · obtain rfl : i = len := by omega
      clear hlt HR
      go_wp2_with fail
      go_loopw [18] (fun v wq => ∃ j : Nat, v = .int .i64 j ∧ j ≤ L.length ∧ St [] w wq bx by_ (.slice am L.length capm) L i) (fun v _ => L.length - (intOf v).toNat)
      case atStart => exact ⟨0, rfl, Nat.zero_le _, ST.out⟩
      case round =>
       as_aux_lemma =>
        clear ST
        obtain ⟨j, rfl, hj, st⟩ := hrel
        have S1 := Lib.hid st
        clear st
        by_cases hjl : j < L.length
        · obtain ⟨Fm, hm⟩ := S1.out.mem
          obtain ⟨gm, capm', hv, d0, d1, hgl⟩ := Mem.cell hm j hjl
          simp at hv
          obtain ⟨rfl, rfl⟩ := hv
          have HE : Hid (RL L (el L j).1 (el L j).2) := RL_at hjl rfl
          have hkb := (HL.out.bd _ (el_mem hjl)).1
          clear hm hgl
          obtain ⟨X, ho, hz, back⟩ := Tri.open1 (O.IsIx.kept _ _ _ _) (Mem.kept _ _) S1.out
          have HO := Lib.hid ho
          have HB := Lib.hid back
          clear ho hz back
          obtain ⟨e1, he1⟩ : ∃ e1, e1 = el L j := ⟨_, rfl⟩
          rw [← he1] at d0 d1 HE hkb
          have HE1 := Lib.hid he1
          clear he1
          obtain ⟨k, was⟩ := e1
          dsimp only at d0 d1 HE hkb
          go_wp2_with fail
          refine (F.own_get HO.out (by omega) k hkb HE.out).mono ?_
          rintro e w5 ⟨rfl, H5, K5⟩
          have T5 := Lib.hid (HB.out _ w5 H5 K5).rot
          clear H5 K5 HB HO S1 d0 d1
          obtain ⟨_, _, _, _, hm5, _⟩ := T5.out
          obtain ⟨gm5, capm5, hv, d0, d1, hgl⟩ := Mem.cell hm5 j hjl
          simp at hv
          obtain ⟨rfl, rfl⟩ := hv
          rw [← HE1.out] at d0 d1
          dsimp only at d0 d1
          clear hm5 hgl
          obtain ⟨X, ho, hz, back⟩ := Tri.open1 (Mem.kept _ _) (F.IsIx.kept _ _ _ _) T5.out
          have HO := Lib.hid ho
          have HB := Lib.hid back
          clear ho hz back
          go_wp2_with fail
          refine (O.own_get HO.out (by omega) k hkb HE.out).mono ?_
          rintro e w6 ⟨rfl, H6, K6⟩
          have T6 := Lib.hid (HB.out _ w6 H6 K6).rot
          clear H6 K6 HB HO T5 d0 d1
          have S9 : Hid (St [] w w6 bx by_ (.slice (some ⟨gm, 0, none⟩) L.length capm) L i) := Tri.rot T6.out
          obtain ⟨Fm6, hm6⟩ := S9.out.mem
          obtain ⟨gm6, capm6, hv, d0, d1, hgl⟩ := Mem.cell hm6 j hjl
          simp at hv
          obtain ⟨rfl, rfl⟩ := hv
          rw [← HE1.out] at d0 d1
          dsimp only at d0 d1
          clear hm6 hgl T6
          go_wp2
          go_roundw
          case rel => exact ⟨j + 1, rfl, hjl, S9.out⟩
          case measure => simp [intOf]; omega
        · obtain rfl : j = L.length := by omega
          have HMM : Hid (Mod [] w wr) := Tri.mod S1.out
          go_wp2
          go_ret
          exact ⟨rfl, Tri.mod S1.out⟩

set_option maxRecDepth 100000 in
set_option maxHeartbeats 1600000 in
theorem indexPlays_long (w : World) (a0 : Option Addr) (len cap : Nat) (h : (200 : Int) < len) :
    Calls Try.prog 4 #[.slice a0 len cap] w fun e w' => e = .returned (.bool true) ∧ Mod [] w w' := by
  go_enter Try.func4, Try.ntmps4
  go_wp2_with fail
  refine (alive_c w).mono ?_
  rintro e w1 ⟨rfl, M1⟩
  have Z1 := Lib.hid M1
  clear M1
  go_wp2_with fail
  go_ret
  exact ⟨rfl, Z1.out⟩

theorem indexPlays_walk (w : World) (a0 : Option Addr) (len cap : Nat) (z : Nat → Nat → Int) (hw : Recs w a0 len cap [.u8, .u32, .u32] z) :
    Calls Try.prog 4 #[.slice a0 len cap] w fun e w' => e = .returned (.bool true) ∧ Mod [] w w' := by
  by_cases h : len ≤ 200
  · exact indexPlays_main w a0 len cap z h hw
  · exact indexPlays_long w a0 len cap (by omega)
end Go.Proofs.Ytlgmmfhfoihbeaa

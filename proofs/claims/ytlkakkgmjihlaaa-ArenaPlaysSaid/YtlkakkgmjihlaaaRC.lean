/- Contracts of the reference arena: Put. -/
import Derived.Test.YtlkakkgmjihlaaaRB
set_option linter.unusedVariables false
set_option linter.unusedSimpArgs false
namespace Go.Proofs.Ytlkakkgmjihlaaa
open Go.RowKit

set_option maxRecDepth 100000 in
set_option maxHeartbeats 1000000 in
theorem refPut_full {w : World} {b : Nat} {m : RM} {F : List Nat} (h : IsRef w b m F) (hn : m.room ≤ m.L.length) (hl : m.L.length ≤ 100000) (x : Int) :
    Calls Try.prog 30 #[.pointer (some ⟨b, 0, none⟩), .int .i64 x] w fun e w' => e = .returned (.int .u32 0) ∧ ∃ d, w' = w.drewN d := by
  obtain ⟨a, cap, hcap, c0, _, c3, _, _⟩ := h.own
  have hd : decide ((m.room : Int) ≤ (m.L.length : Int)) = true := by simp; omega
  clear h
  generalize m.room = room at *
  generalize m.L.length = n at *
  go_enter Try.func30, Try.ntmps30
  go_wp2
  go_quiet (fail)
  go_wp2
  go_ret
  exact ⟨rfl, _, rfl⟩

/-- The last store of Put: the list, one longer. -/
theorem ref_close {w X w1 : World} {b : Nat} {L : List (Nat × Int × Int)} {gone : List Nat} {new room : Nat} {vL vG v1 : Value} {n : Nat} {Fl Fg F' : List Nat} (t : Nat × Int × Int) (hn : n = L.length)
    (MX : Mod [b] w X) (hb : Blk X b #[vL, vG, .int .u32 new, .int .i64 room] 50) (hbw : b < w.heap.size) (hG : Sl X 27 1 vG gone.length (gone.map eu) Fg) (r1 : b ∉ Fl) (r2 : b ∉ Fg) (r3 : ∀ k ∈ Fl, k ∉ Fg)
    (hs1 : Sl w1 78 3 v1 (n + 1) (recs thg L ++ thg t) F') (hm1 : Mod Fl X w1) (hf1 : ∀ k ∈ F', k ∈ Fl ∨ X.heap.size ≤ k) :
    IsRef (w1.setCell ⟨b, 0, none⟩ v1) b ⟨L ++ [t], gone, new, room⟩ (b :: (F' ++ Fg)) ∧ Mod (b :: (Fl ++ Fg)) w (w1.setCell ⟨b, 0, none⟩ v1) ∧ (∀ k ∈ b :: (F' ++ Fg), k ∈ b :: (Fl ++ Fg) ∨ w.heap.size ≤ k) := by
  have hXs := MX.size
  have n1 : b ∉ F' := fun hk => by
    rcases hf1 b hk with h | h
    · exact r1 h
    · omega
  have n2 : ∀ k ∈ F', k ∉ Fg := fun k hk hk2 => by
    rcases hf1 k hk with h | h
    · exact r3 k h hk2
    · have := hG.lt k hk2; omega
  have M1 : Mod [b] w1 (w1.setCell ⟨b, 0, none⟩ v1) := (Mod.refl _ _).setCell _ _ (by simp)
  subst hn
  refine ⟨⟨v1, vG, F', Fg, ?_, ?_, ?_, rfl, n1, r2, n2⟩, ?_, ?_⟩
  · simpa using (hb.mod hm1 r1).set 0 v1
  · have := hs1.mod M1 (fun k hk => by simp; intro e; subst e; exact n1 hk)
    rw [recs_append, List.length_append]
    simpa [recs] using this
  · exact (hG.mod hm1 (fun k hk hk2 => r3 k hk2 hk)).mod M1 (fun k hk => by simp; intro e; subst e; exact r2 hk)
  · refine ((MX.mono (S' := b :: (Fl ++ Fg)) (fun i _ hi => by simp at hi; simp [hi])).trans hm1 (fun i _ hi => by simp [hi])).trans M1 (fun i _ hi => by simp at hi; simp [hi])
  · intro k hk
    simp at hk
    rcases hk with rfl | hk | hk
    · simp
    · rcases hf1 k hk with h | h
      · simp [h]
      · exact .inr (by omega)
    · simp [hk]

theorem Try.infoT : (Try.prog.info? 78).map (fun i => (i.zero, i.size, i.bytes)) = some (some (.agg #[.int .u32 0, .int .i64 0, .int .i64 0]), 3, 24) := by kernel_rfl

set_option maxRecDepth 100000 in
set_option maxHeartbeats 4000000 in
theorem refPut_grow {w : World} {b : Nat} {m : RM} {F : List Nat} (h : IsRef w b m F) (hn : m.L.length < m.room) (hl : m.L.length ≤ 100000) (hw : m.new ≤ 100000) (hg : m.gone = []) (x : Int) :
    Calls Try.prog 30 #[.pointer (some ⟨b, 0, none⟩), .int .i64 x] w fun e w' => e = .returned (.int .u32 m.putId) ∧
      ∃ F', IsRef w' b (m.put x) F' ∧ Mod F w w' ∧ (∀ k ∈ F', k ∈ F ∨ w.heap.size ≤ k) := by
  obtain ⟨i0, hi, hz0, hz1, hz2⟩ := info_parts Try.infoT
  obtain ⟨vc, vf, Fc, Ff, hb, hc, hf', rfl, r1, r2, r3⟩ := h
  have b0 := hb.cell 0
  have b1 := hb.cell 1
  have c2 := hb.cell 2
  have c3 := hb.cell 3
  have fz0 := hb.froz 0
  have fz2 := hb.froz 2
  have hbl := hb.lt
  simp at b0 b1 c2 c3
  obtain ⟨a, cap, rfl, hcap⟩ := hc.shape
  obtain ⟨af, capf, rfl, hcapf⟩ := hf'.shape
  have hg0 : m.gone.length = 0 := by rw [hg]; rfl
  rw [hg0] at b1
  have hd : decide ((m.room : Int) ≤ (m.L.length : Int)) = false := by simp; omega
  have HPid : Hid ((m.putId : Int) = (m.new : Int) + 2) := by show _ = _; unfold RM.putId; rw [hg]; simp
  have HPut : Hid (m.put x = ⟨m.L ++ [(m.new + 2, x, 0)], m.gone, m.new + 1, m.room⟩) := by unfold RM.put; rw [hg]; rfl
  have HB := Lib.hid hb
  have HC := Lib.hid hc
  have HF := Lib.hid hf'
  have HG0 := Lib.hid hg0
  have HS : Hid (∀ W, Mod [b] w W → Sl W 78 3 (.slice a m.L.length cap) m.L.length (recs thg m.L) Fc) := fun W M => HC.out.mod M (fun k hk => by simp; intro e; subst e; exact r1 hk)
  clear hb hc hf' hg hg0
  obtain ⟨room, hrr⟩ : ∃ r, r = m.room := ⟨_, rfl⟩
  obtain ⟨n, hnc⟩ : ∃ r, r = m.L.length := ⟨_, rfl⟩
  obtain ⟨nw, hnw⟩ : ∃ r, r = m.new := ⟨_, rfl⟩
  rw [← hnc] at b0 hn hd hcap HS hl
  rw [← hrr] at c3 hd hn
  rw [← hnw] at c2 hw HPid
  have HN := Lib.hid hnc
  have HNW := Lib.hid hnw
  clear hrr hnc hnw
  go_enter Try.func30, Try.ntmps30
  go_wp2
  go_quiet (fail)
  go_wp2_with (at_builtin; refine wpList_append_sl _ rfl _ _ 48 rfl 78 i0 (.agg #[.int .u32 0, .int .i64 0, .int .i64 0]) 3 24 Try.underlying48 hi hz0 hz1 hz2 rfl (by decide) _ n (recs thg m.L) Fc rfl (HS.out _ (by repeat (first | exact Mod.refl _ _ | apply Mod.drew | apply Mod.drewN | apply Mod.alloc | refine Mod.setCell ?_ _ _ (by simp)))) ⟨_, 0, none⟩ 1 1 [.int .u32 ((nw : Int) + 2), .int .i64 x, .int .i64 0] (by decide) rfl rfl (by intro j u hu; exact list_new_at _ _ _ _ (by simp) j u hu) (by intro u hu; simp at hu; rcases hu with rfl | rfl | rfl <;> rfl) (by unfold maxLen; omega) (by omega) ?_; intro v' w1 F' hs1 hm1 hf1; obtain ⟨a1, cap1, rfl, _⟩ := hs1.shape; have zz : w1.cell? ⟨b, 0, none⟩ = some (.slice a n cap) := (hm1.cell (a := ⟨b, 0, none⟩) (by simp; omega) r1).trans (by go_simp); have z1 := (hm1.froz (a := ⟨b, 0, none⟩) (by simp; omega) r1))
  go_ret
  have hX : Blk (((w.drewN nq).setCell ⟨b, 2, none⟩ (.int .u32 ((nw : Int) + 1))).alloc (.cells #[.int .u32 ((nw : Int) + 2), .int .i64 x, .int .i64 0] 78)) b #[.slice a n cap, .slice af m.gone.length capf, .int .u32 ((nw + 1 : Nat) : Int), .int .i64 m.room] 50 := by
    have := (HB.out.drewN nq).set 2 (.int .u32 ((nw : Int) + 1))
    simp at this
    rw [← HN.out] at this
    exact this.alloc _
  have hGX := HF.out.mod (S := [b]) (w' := ((w.drewN nq).setCell ⟨b, 2, none⟩ (.int .u32 ((nw : Int) + 1))).alloc (.cells #[.int .u32 ((nw : Int) + 2), .int .i64 x, .int .i64 0] 78)) (by repeat (first | exact Mod.refl _ _ | apply Mod.drew | apply Mod.drewN | apply Mod.alloc | refine Mod.setCell ?_ _ _ (by simp))) (fun k hk => by simp; intro e; subst e; exact r2 hk)
  have hC := ref_close (L := m.L) (new := nw + 1) (m.new + 2, x, 0) HN.out (by repeat (first | exact Mod.refl _ _ | apply Mod.drew | apply Mod.drewN | apply Mod.alloc | refine Mod.setCell ?_ _ _ (by simp))) hX hbl hGX r1 r2 r3 (by rw [← HNW.out]; exact hs1) hm1 hf1
  rw [← HNW.out] at hC
  refine ⟨by rw [HPid.out]; rfl, _, ?_, hC.2.1, hC.2.2⟩
  rw [HPut.out, ← HNW.out]
  exact hC.1

set_option maxRecDepth 100000 in
set_option maxHeartbeats 4000000 in
theorem refPut_free {w : World} {b : Nat} {m : RM} {F : List Nat} (h : IsRef w b m F) (hn : m.L.length < m.room) (hl : m.L.length ≤ 100000) (hw : m.new ≤ 100000) (hgl : m.gone.length ≤ 100000) (hg : m.gone ≠ []) (x : Int) :
    Calls Try.prog 30 #[.pointer (some ⟨b, 0, none⟩), .int .i64 x] w fun e w' => e = .returned (.int .u32 m.putId) ∧
      ∃ F', IsRef w' b (m.put x) F' ∧ Mod F w w' ∧ (∀ k ∈ F', k ∈ F ∨ w.heap.size ≤ k) := by
  obtain ⟨i0, hi, hz0, hz1, hz2⟩ := info_parts Try.infoT
  obtain ⟨id, hid⟩ : ∃ id, m.gone.getLast? = some id := by
    cases hl : m.gone.getLast? with
    | none => simp at hl; exact (hg hl).elim
    | some id => exact ⟨id, rfl⟩
  obtain ⟨l, hll⟩ : ∃ l, m.gone.length = l + 1 := ⟨m.gone.length - 1, by have := List.length_pos_iff.2 hg; omega⟩
  obtain ⟨vc, vf, Fc, Ff, hb, hc, hf', rfl, r1, r2, r3⟩ := h
  have b0 := hb.cell 0
  have b1 := hb.cell 1
  have c2 := hb.cell 2
  have c3 := hb.cell 3
  have fz0 := hb.froz 0
  have fz1 := hb.froz 1
  have fz2 := hb.froz 2
  have hbl := hb.lt
  simp at b0 b1 c2 c3
  obtain ⟨a, cap, rfl, hcap⟩ := hc.shape
  obtain ⟨gf, capf, rfl, rfl, hcapf⟩ := hf'.pos (by omega)
  have hgf := hf'.lt gf (by simp)
  have d0 : w.cell? ⟨gf, l, none⟩ = some (.int .u32 id) := by
    rw [(hf'.at l (by omega)).1, List.getElem?_map]
    have : m.gone[l]? = some id := by rw [← hid, List.getLast?_eq_getElem?, hll]; rfl
    rw [this]; rfl
  rw [hll] at b1 hcapf hgl
  have hd : decide ((m.room : Int) ≤ (m.L.length : Int)) = false := by simp; omega
  have HPid : Hid ((m.putId : Int) = (id : Int)) := by show _ = _; unfold RM.putId; rw [hid]
  have HPut : Hid (m.put x = ⟨m.L ++ [(id, x, 0)], m.gone.dropLast, m.new, m.room⟩) := by unfold RM.put; rw [hid]; rfl
  have HGD : Hid (m.gone.dropLast.length = l ∧ m.gone.dropLast.map eu = (m.gone.map eu).take (l * 1)) := ⟨by simp [hll], by rw [List.map_dropLast, List.dropLast_eq_take]; simp [hll]⟩
  have HG : Hid (Sl w 27 1 (.slice (some ⟨gf, 0, none⟩) l capf) m.gone.dropLast.length (m.gone.dropLast.map eu) [gf]) := by
    show Sl _ _ _ _ _ _ _
    have h1 := hf'
    rw [hll] at h1
    have h2 := h1.take l (by omega)
    rw [HGD.out.1, HGD.out.2]; exact h2
  have HB := Lib.hid hb
  have HC := Lib.hid hc
  have HL := Lib.hid hll
  simp at r2 r3
  have HS : Hid (∀ W, Mod [b] w W → Sl W 78 3 (.slice a m.L.length cap) m.L.length (recs thg m.L) Fc) := fun W M => HC.out.mod M (fun k hk => by simp; intro e; subst e; exact r1 hk)
  clear hb hc hf' hg hid hll
  obtain ⟨room, hrr⟩ : ∃ r, r = m.room := ⟨_, rfl⟩
  obtain ⟨n, hnc⟩ : ∃ r, r = m.L.length := ⟨_, rfl⟩
  obtain ⟨nw, hnw⟩ : ∃ r, r = m.new := ⟨_, rfl⟩
  rw [← hnc] at b0 hn hd hcap HS hl
  rw [← hrr] at c3 hd hn
  rw [← hnw] at c2 hw
  have HN := Lib.hid hnc
  have HNW := Lib.hid hnw
  clear hrr hnc hnw
  generalize hidi : (id : Int) = idi at *
  have HIDI := Lib.hid hidi
  clear hidi
  go_enter Try.func30, Try.ntmps30
  go_wp2
  go_quiet (fail)
  go_wp2
  go_quiet (fail)
  go_wp2
  go_region
  all_goals go_wp2_with (at_builtin; refine wpList_append_sl _ rfl _ _ 48 rfl 78 i0 (.agg #[.int .u32 0, .int .i64 0, .int .i64 0]) 3 24 Try.underlying48 hi hz0 hz1 hz2 rfl (by decide) _ n (recs thg m.L) Fc rfl (HS.out _ (by repeat (first | exact Mod.refl _ _ | apply Mod.drew | apply Mod.drewN | apply Mod.alloc | refine Mod.setCell ?_ _ _ (by simp)))) ⟨_, 0, none⟩ 1 1 [.int .u32 idi, .int .i64 x, .int .i64 0] (by decide) rfl rfl (by intro j u hu; exact list_new_at _ _ _ _ (by simp) j u hu) (by intro u hu; simp at hu; rcases hu with rfl | rfl | rfl <;> rfl) (by unfold maxLen; omega) (by omega) ?_; intro v' w1 F' hs1 hm1 hf1; obtain ⟨a1, cap1, rfl, _⟩ := hs1.shape; have zz : w1.cell? ⟨b, 0, none⟩ = some (.slice a n cap) := (hm1.cell (a := ⟨b, 0, none⟩) (by simp; omega) r1).trans (by go_simp); have z1 := (hm1.froz (a := ⟨b, 0, none⟩) (by simp; omega) r1))
  all_goals
    go_ret
    have hset : ∀ N, Blk ((w.drewN N).setCell ⟨b, 1, none⟩ (.slice (some ⟨gf, 0, none⟩) l capf)) b #[.slice a n cap, .slice (some ⟨gf, 0, none⟩) l capf, .int .u32 m.new, .int .i64 m.room] 50 := fun N => by
      have := (HB.out.drewN N).set 1 (.slice (some ⟨gf, 0, none⟩) l capf)
      rw [← HN.out] at this
      simpa using this
    have hC := ref_close (w := w) (L := m.L) (gone := m.gone.dropLast) (new := m.new) (room := m.room) (vL := .slice a n cap) (vG := .slice (some ⟨gf, 0, none⟩) l capf) (Fg := [gf]) (id, x, 0) HN.out (by repeat (first | exact Mod.refl _ _ | apply Mod.drew | apply Mod.drewN | apply Mod.alloc | refine Mod.setCell ?_ _ _ (by simp))) (Blk.alloc (hset _) _) hbl (HG.out.mod (S := [b]) (by repeat (first | exact Mod.refl _ _ | apply Mod.drew | apply Mod.drewN | apply Mod.alloc | refine Mod.setCell ?_ _ _ (by simp))) (by simp; omega)) r1 (by simp; omega) (by simpa using r3) (by unfold thg eu; rw [HIDI.out]; exact hs1) hm1 hf1
    refine ⟨by rw [HPid.out]; rfl, _, ?_, hC.2.1, hC.2.2⟩
    rw [HPut.out]
    exact hC.1

theorem refPut_c {w : World} {b : Nat} {m : RM} {F : List Nat} (h : IsRef w b m F) (hn : m.L.length < m.room) (hl : m.L.length ≤ 100000) (hw : m.new ≤ 100000) (hgl : m.gone.length ≤ 100000) (x : Int) :
    Calls Try.prog 30 #[.pointer (some ⟨b, 0, none⟩), .int .i64 x] w fun e w' => e = .returned (.int .u32 m.putId) ∧
      ∃ F', IsRef w' b (m.put x) F' ∧ Mod F w w' ∧ (∀ k ∈ F', k ∈ F ∨ w.heap.size ≤ k) := by
  by_cases hg : m.gone = []
  · exact refPut_grow h hn hl hw hg x
  · exact refPut_free h hn hl hw hgl hg x
end Go.Proofs.Ytlkakkgmjihlaaa

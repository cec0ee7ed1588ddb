/- Contracts of the arena's methods Put and Drop, at one type of things. -/
import Derived.Test.YtlkakkgmjihlaaaBS
set_option linter.unusedVariables false
set_option linter.unusedSimpArgs false
namespace Go.Proofs.Ytlkakkgmjihlaaa.S
open Go.RowKit

set_option maxRecDepth 100000 in
set_option maxHeartbeats 1000000 in
theorem put_full {w : World} {b : Nat} {A : AR ByteArray} {F : List Nat} (h : IsAr w b A F) (hw : A.WF) (hn : A.room ≤ A.n) (x : ByteArray) :
    Calls Try.prog 9 #[.pointer (some ⟨b, 0, none⟩), .string x] w fun e w' => e = .returned (.tuple #[.int .u32 0, .bool false]) ∧ ∃ d, w' = w.drewN d := by
  obtain ⟨a, cap, _, c2, c3, _⟩ := h.own
  have hd : decide ((A.room : Int) ≤ (A.n : Int)) = true := by simp; omega
  clear h hw
  generalize A.room = room at *
  generalize A.n = n at *
  go_enter Try.func9, Try.ntmps9
  go_wp2
  go_quiet (fail)
  go_wp2
  go_ret2
  exact ⟨rfl, _, rfl⟩

theorem close_free {w : World} {b : Nat} {A : AR ByteArray} {F : List Nat} (h : IsAr w b A F) {l : Nat} (hl : A.free.length = l + 1) {g cap gf capf : Nat}
    (c0 : w.cell? ⟨b, 0, none⟩ = some (.slice (some ⟨g, 0, none⟩) A.cells.length cap)) (b1 : w.cell? ⟨b, 1, none⟩ = some (.slice (some ⟨gf, 0, none⟩) (l + 1) capf)) (nq n : Nat) (x : ByteArray) (i : Nat) (hi : i < A.cells.length) :
    IsAr (((((((w.drewN nq).setCell ⟨b, 2, none⟩ (.int .i64 ((n : Int) + 1))).setCell ⟨b, 1, none⟩ (.slice (some ⟨gf, 0, none⟩) l capf)).setCell ⟨g, i * 3, none⟩ (.string x)).setCell ⟨g, i * 3 + 1, none⟩ (.bool true)).setCell ⟨g, i * 3 + 2, none⟩ (.int .i64 0)).alloc (.cells #[.string x, .bool true, .int .i64 0] 66)).drew
      b { A with cells := A.cells.set i (x, true, 0), free := A.free.dropLast, n := n + 1 } F ∧
    Mod F w (((((((w.drewN nq).setCell ⟨b, 2, none⟩ (.int .i64 ((n : Int) + 1))).setCell ⟨b, 1, none⟩ (.slice (some ⟨gf, 0, none⟩) l capf)).setCell ⟨g, i * 3, none⟩ (.string x)).setCell ⟨g, i * 3 + 1, none⟩ (.bool true)).setCell ⟨g, i * 3 + 2, none⟩ (.int .i64 0)).alloc (.cells #[.string x, .bool true, .int .i64 0] 66)).drew := by
  obtain ⟨vc, vf, Fc, Ff, hb, hc, hf, rfl, r1, r2, r3⟩ := h
  rw [hb.cell] at c0 b1
  simp at c0 b1
  subst c0 b1
  obtain rfl := hc.block
  rw [hl] at hf
  obtain rfl := hf.block
  simp at r1 r2 r3
  generalize hW1 : ((w.drewN nq).setCell ⟨b, 2, none⟩ (.int .i64 ((n : Int) + 1))).setCell ⟨b, 1, none⟩ (.slice (some ⟨gf, 0, none⟩) l capf) = W1
  have M1 : Mod [b] w W1 := by subst hW1; exact ((((Mod.refl [b] w).drewN nq).setCell _ _ (by simp)).setCell _ _ (by simp))
  have hb1 : Blk W1 b #[.slice (some ⟨g, 0, none⟩) A.cells.length cap, .slice (some ⟨gf, 0, none⟩) l capf, .int .i64 ((n : Int) + 1), .int .i64 A.room] 64 := by
    subst hW1; simpa using ((hb.drewN nq).set 2 (.int .i64 ((n : Int) + 1))).set 1 (.slice (some ⟨gf, 0, none⟩) l capf)
  have hc1 := hc.mod M1 (by simp; omega)
  have hf1 := (hf.mod M1 (by simp; omega)).take l (by omega)
  have hc2 := ((hc1.set (i * 3) (.string x)).set (i * 3 + 1) (.bool true)).set (i * 3 + 2) (.int .i64 0)
  rw [recs_set3 cellOf cellOf_len A.cells i hi (x, true, 0) _ _ _ rfl] at hc2
  generalize hW2 : ((W1.setCell ⟨g, i * 3, none⟩ (.string x)).setCell ⟨g, i * 3 + 1, none⟩ (.bool true)).setCell ⟨g, i * 3 + 2, none⟩ (.int .i64 0) = W2 at hc2
  have M2 : Mod [g] W1 W2 := by subst hW2; exact (((Mod.refl [g] W1).setCell _ _ (by simp)).setCell _ _ (by simp)).setCell _ _ (by simp)
  have M3 : Mod [] W2 (W2.alloc (.cells #[.string x, .bool true, .int .i64 0] 66)).drew := ((Mod.refl [] W2).alloc _).drew
  have M : Mod [b, g, gf] w (W2.alloc (.cells #[.string x, .bool true, .int .i64 0] 66)).drew :=
    ((M1.mono (S' := [b, g, gf]) (fun i _ hi => by simp at hi ⊢; omega)).trans M2 (fun i _ hi => by simp at hi ⊢; omega)).trans M3 (by simp)
  refine ⟨⟨.slice (some ⟨g, 0, none⟩) A.cells.length cap, .slice (some ⟨gf, 0, none⟩) l capf, [g], [gf], ?_, ?_, ?_, rfl, by simp; omega, by simp; omega, by simp; omega⟩, M⟩
  · have := (hb1.mod M2 (by simp; omega)).mod M3 (by simp)
    simpa using this
  · have := hc2.mod M3 (by simp)
    simpa using this
  · have := (hf1.mod M2 (by simp; omega)).mod M3 (by simp)
    have hd : (A.free.dropLast).length = l := by simp [hl]
    rw [hd]
    have e : List.take (l * 1) (A.free.map fun (i : Nat) => Value.int .u32 (i : Int)) = A.free.dropLast.map fun (i : Nat) => Value.int .u32 (i : Int) := by
      rw [List.map_dropLast, List.dropLast_eq_take]; simp [hl]
    rw [← e]
    exact this

set_option maxRecDepth 100000 in
set_option maxHeartbeats 2000000 in
theorem put_free {w : World} {b : Nat} {A : AR ByteArray} {F : List Nat} (h : IsAr w b A F) (hw : A.WF) (hn : A.n < A.room) (x : ByteArray) (hf : A.free ≠ []) :
    Calls Try.prog 9 #[.pointer (some ⟨b, 0, none⟩), .string x] w fun e w' => e = .returned (.tuple #[.int .u32 A.putId, .bool true]) ∧
      ∃ F', IsAr w' b (A.put x) F' ∧ Mod F w w' ∧ (∀ k ∈ F', k ∈ F ∨ w.heap.size ≤ k) := by
  obtain ⟨id, hid⟩ : ∃ id, A.free.getLast? = some id := by
    cases hl : A.free.getLast? with
    | none => simp at hl; exact (hf hl).elim
    | some id => exact ⟨id, rfl⟩
  have hmem : id ∈ A.free := List.mem_of_getLast? hid
  obtain ⟨g1, y0, hh0, g2⟩ := (hw.free id).1 hmem
  obtain ⟨g, cap, c0, hlt, ⟨d0, d1, d2⟩, ⟨e0, e1, e2⟩, hgF, hgb⟩ := h.cell g2
  obtain ⟨_, _, cx, c2, c3, fz⟩ := h.own
  clear cx
  have fz0 := fz 0
  have fz1 := fz 1
  have fz2 := fz 2
  have hlen : A.cells.length ≤ 1048576 := by have := hw.len; have := hw.room; omega
  have hroom : A.room ≤ 1048576 := hw.room
  obtain ⟨l, hl⟩ : ∃ l, A.free.length = l + 1 := ⟨A.free.length - 1, by have := List.length_pos_iff.2 hf; omega⟩
  have hll : l ≤ 1048576 := by have := hw.sum; omega
  obtain ⟨gf, capf, b1, b2, hcapf, hgfb, hgfg, hgfl⟩ : ∃ gf capf, w.cell? ⟨b, 1, none⟩ = some (.slice (some ⟨gf, 0, none⟩) (l + 1) capf) ∧ w.cell? ⟨gf, l, none⟩ = some (.int .u32 id) ∧ l + 1 ≤ capf ∧ gf ≠ b ∧ gf ≠ g ∧ gf < w.heap.size := by
    obtain ⟨vc, vf, Fc, Ff, hb, hc, hf', rfl, r1, r2, r3⟩ := h
    obtain ⟨gf, capf, rfl, rfl, hcap⟩ := hf'.pos (by omega)
    refine ⟨gf, capf, by rw [hb.cell, ← hl]; rfl, ?_, by omega, fun e => by subst e; simp at r2, fun e => ?_, hf'.lt gf (by simp)⟩
    rotate_left
    · subst e
      have h1 := hc.pos (by omega)
      obtain ⟨g', cap', h2, h3, _⟩ := h1
      rw [hb.cell, h2] at c0
      simp at c0
      exact r3 gf (by rw [h3]; simp [c0.1]) (by simp)
    rw [(hf'.at l (by omega)).1, List.getElem?_map]
    have : A.free[l]? = some id := by rw [← hid, List.getLast?_eq_getElem?, hl]; rfl
    rw [this]; rfl
  have hbl : b < w.heap.size := h.lt b (by obtain ⟨vc, vf, Fc, Ff, _, _, _, rfl, _⟩ := h; simp)
  have hgl : g < w.heap.size := h.lt g hgF
  have H := Lib.hid h
  have HW := Lib.hid hw
  have HID := Lib.hid hid
  have G2 := Lib.hid g2
  have HL := Lib.hid hl
  have hd : decide ((A.room : Int) ≤ (A.n : Int)) = false := by simp; omega
  have hidn : id = (id - 2) + 2 := by omega
  have HPid : Hid (A.putId = id) := by unfold AR.putId; rw [hid]; rfl
  have HPut : Hid (A.put x = { A with cells := A.cells.set (id - 2) (x, true, 0), free := A.free.dropLast, n := A.n + 1 }) := by unfold AR.put; rw [hid]; rfl
  clear h hw hid g2 hl hf fz hmem
  obtain ⟨i, hi⟩ : ∃ i, i = id - 2 := ⟨_, rfl⟩
  rw [← hi] at d0 d1 d2 e0 e1 e2 hlt
  have hie : (id : Int) = (i : Int) + 2 := by omega
  rw [hie] at b2
  have HI := Lib.hid hi
  have HIE := Lib.hid hie
  clear hi hie hidn g1
  obtain ⟨n, hnn⟩ : ∃ n, n = A.n := ⟨_, rfl⟩
  obtain ⟨room, hrr⟩ : ∃ r, r = A.room := ⟨_, rfl⟩
  obtain ⟨nc, hnc⟩ : ∃ r, r = A.cells.length := ⟨_, rfl⟩
  rw [← hnn] at c2 hd hn
  rw [← hrr] at c3 hd hn hroom
  have C0 := Lib.hid c0
  have LT := Lib.hid hlt
  rw [← hnc] at c0 hlt hlen
  have HN := Lib.hid hnn
  clear hnn hrr hnc
  go_enter Try.func9, Try.ntmps9
  go_wp2
  go_quiet (fail)
  go_wp2
  go_region
  go_wp2
  go_ret2
  have hl2 := HL.out
  have hC := close_free H.out hl2 C0.out b1 nq n x i LT.out
  refine ⟨?_, F, ?_, hC.2, fun k hk => .inl hk⟩
  · rw [HPid.out, HIE.out]; rfl
  · rw [HPut.out, ← HI.out, ← HN.out]; exact hC.1
theorem close_grow {w X w1 : World} {b : Nat} {A : AR ByteArray} {a a1 af : Option Addr} {cap cap1 capf : Nat} {Fc Ff F' : List Nat}
    (hb : Blk w b #[.slice a A.cells.length cap, .slice af A.free.length capf, .int .i64 A.n, .int .i64 A.room] 64)
    (hc : Sl w 66 3 (.slice a A.cells.length cap) A.cells.length (recs cellOf A.cells) Fc) (hf : Sl w 27 1 (.slice af A.free.length capf) A.free.length (A.free.map fun (i : Nat) => .int .u32 (i : Int)) Ff)
    (r1 : b ∉ Fc) (r2 : b ∉ Ff) (r3 : ∀ k ∈ Fc, k ∉ Ff) (hfr : A.free = []) (x : ByteArray) (n : Nat) (MX : Mod [b] w X)
    (hbX : Blk X b #[.slice a A.cells.length cap, .slice af 0 capf, .int .i64 ((n : Int) + 1), .int .i64 A.room] 64)
    (hs1 : Sl w1 66 3 (.slice a1 (A.cells.length + 1) cap1) (A.cells.length + 1) (recs cellOf A.cells ++ [.string x, .bool true, .int .i64 0]) F') (hm1 : Mod Fc X w1) (hf1 : ∀ k ∈ F', k ∈ Fc ∨ X.heap.size ≤ k) :
    IsAr (w1.setCell ⟨b, 0, none⟩ (.slice a1 (A.cells.length + 1) cap1)) b { A with cells := A.cells ++ [(x, true, 0)], n := n + 1 } (b :: (F' ++ Ff)) ∧
    Mod (b :: (Fc ++ Ff)) w (w1.setCell ⟨b, 0, none⟩ (.slice a1 (A.cells.length + 1) cap1)) ∧ (∀ k ∈ b :: (F' ++ Ff), k ∈ b :: (Fc ++ Ff) ∨ w.heap.size ≤ k) := by
  have hbl := hb.lt
  have hXs := MX.size
  have n1 : b ∉ F' := fun hk => by
    rcases hf1 b hk with h | h
    · exact r1 h
    · omega
  have n2 : ∀ k ∈ F', k ∉ Ff := fun k hk hk2 => by
    rcases hf1 k hk with h | h
    · exact r3 k h hk2
    · have := hf.lt k hk2; omega
  have M1 : Mod [b] w1 (w1.setCell ⟨b, 0, none⟩ (.slice a1 (A.cells.length + 1) cap1)) := (Mod.refl _ _).setCell _ _ (by simp)
  refine ⟨⟨.slice a1 (A.cells.length + 1) cap1, .slice af A.free.length capf, F', Ff, ?_, ?_, ?_, rfl, n1, r2, n2⟩, ?_, ?_⟩
  · have := (hbX.mod hm1 r1).set 0 (.slice a1 (A.cells.length + 1) cap1)
    rw [hfr]
    simpa using this
  · have := hs1.mod M1 (fun k hk => by simp; intro e; subst e; exact n1 hk)
    rw [recs_append]
    simpa [recs, cellOf] using this
  · exact ((hf.mod MX (fun k hk => by simp; intro e; subst e; exact r2 hk)).mod hm1 (fun k hk hk2 => r3 k hk2 hk)).mod M1 (fun k hk => by simp; intro e; subst e; exact r2 hk)
  · refine ((MX.mono (S' := b :: (Fc ++ Ff)) (fun i _ hi => by simp at hi; simp [hi])).trans hm1 (fun i _ hi => by simp [hi])).trans M1 (fun i _ hi => by simp at hi; simp [hi])
  · intro k hk
    simp at hk
    rcases hk with rfl | hk | hk
    · simp
    · rcases hf1 k hk with h | h
      · simp [h]
      · exact .inr (by omega)
    · simp [hk]

theorem Try.infoC : (Try.prog.info? 66).map (fun i => (i.zero, i.size, i.bytes)) = some (some (.agg #[.string ByteArray.empty, .bool false, .int .i64 0]), 3, 32) := by kernel_rfl

set_option maxRecDepth 100000 in
set_option maxHeartbeats 2000000 in
theorem put_grow {w : World} {b : Nat} {A : AR ByteArray} {F : List Nat} (h : IsAr w b A F) (hw : A.WF) (hn : A.n < A.room) (x : ByteArray) (hf : A.free = []) :
    Calls Try.prog 9 #[.pointer (some ⟨b, 0, none⟩), .string x] w fun e w' => e = .returned (.tuple #[.int .u32 A.putId, .bool true]) ∧
      ∃ F', IsAr w' b (A.put x) F' ∧ Mod F w w' ∧ (∀ k ∈ F', k ∈ F ∨ w.heap.size ≤ k) := by
  have hlen : A.cells.length < A.room := by have := hw.sum; rw [hf] at this; simp at this; omega
  have hroom : A.room ≤ 1048576 := hw.room
  obtain ⟨vc, vf, Fc, Ff, hb, hc, hf', rfl, r1, r2, r3⟩ := h
  have b0 := hb.cell 0
  have b1 := hb.cell 1
  have c2 := hb.cell 2
  have c3 := hb.cell 3
  have fz0 := hb.froz 0
  have fz2 := hb.froz 2
  have hbl := hb.lt
  simp at b0 b1 c2 c3
  obtain ⟨a, cap, rfl, hcap⟩ := hc.shape
  obtain ⟨af, capf, rfl, hcapf⟩ := hf'.shape
  rw [hf] at b1
  simp at b1
  have hd : decide ((A.room : Int) ≤ (A.n : Int)) = false := by simp; omega
  have HPid : Hid (A.putId = A.cells.length + 2) := by unfold AR.putId; rw [hf]; rfl
  have HPut : Hid (A.put x = { A with cells := A.cells ++ [(x, true, 0)], n := A.n + 1 }) := by unfold AR.put; rw [hf]; rfl
  have HB := Lib.hid hb
  have HC := Lib.hid hc
  have HF := Lib.hid hf'
  have HFR := Lib.hid hf
  have HS : Hid (∀ W, Mod [b] w W → Sl W 66 3 (.slice a A.cells.length cap) A.cells.length (recs cellOf A.cells) Fc) := fun W M => HC.out.mod M (fun k hk => by simp; intro e; subst e; exact r1 hk)
  clear hb hc hf' hf hw
  obtain ⟨n, hnn⟩ : ∃ n, n = A.n := ⟨_, rfl⟩
  obtain ⟨room, hrr⟩ : ∃ r, r = A.room := ⟨_, rfl⟩
  obtain ⟨nc, hnc⟩ : ∃ r, r = A.cells.length := ⟨_, rfl⟩
  rw [← hnn] at c2 hd hn
  rw [← hrr] at c3 hd hn hroom hlen
  rw [← hnc] at b0 hlen HS
  have HN := Lib.hid hnn
  have HNC := Lib.hid hnc
  obtain ⟨i0, hi, hz0, hz1, hz2⟩ := info_parts Try.infoC
  clear hnn hrr hnc
  go_enter Try.func9, Try.ntmps9
  go_wp2
  go_quiet (fail)
  go_wp2
  go_region_law (refine step_append_sl rfl _ _ 62 rfl 66 i0 (.agg #[.string ByteArray.empty, .bool false, .int .i64 0]) 3 32 Try.underlying62 hi hz0 hz1 hz2 rfl (by decide) _ nc (recs cellOf A.cells) Fc rfl (HS.out _ (by repeat (first | exact Mod.refl _ _ | apply Mod.drew | apply Mod.drewN | apply Mod.alloc | refine Mod.setCell ?_ _ _ (by simp)))) ⟨w.heap.size + 1, 0, none⟩ 1 1 [.string x, .bool true, .int .i64 0] (by decide) rfl rfl (by intro j u hu; first | exact list_new_at _ _ _ _ (by simp) j u hu | exact list_new_at_drew _ _ _ _ (by simp) j u hu) (by intro u hu; simp at hu; rcases hu with rfl | rfl | rfl <;> rfl) (by unfold maxLen; omega) (by omega) ?_; intro v' w1 F' hs1 hm1 hf1; obtain ⟨a1, cap1, rfl, _⟩ := hs1.shape; have z0 := hm1.cell (a := ⟨b, 0, none⟩) (by simp; omega) r1; have z1 := hm1.froz (a := ⟨b, 0, none⟩) (by simp; omega) r1)
  all_goals
    have zz : w1.cell? ⟨b, 0, none⟩ = some (.slice a nc cap) := z0.trans (by go_simp)
    clear z0 z1
    go_wp2
    go_ret2
    have hC := close_grow HB.out HC.out HF.out r1 r2 r3 HFR.out x n (by repeat (first | exact Mod.refl _ _ | apply Mod.drew | apply Mod.drewN | apply Mod.alloc | refine Mod.setCell ?_ _ _ (by simp))) (by
      have := (HB.out.drewN nq).set 2 (.int .i64 ((n : Int) + 1))
      simp at this
      rw [HFR.out] at this
      exact ((this.alloc _).alloc _).drew) (by rw [← HNC.out]; exact hs1) hm1 hf1
    rw [← HNC.out] at hC
    refine ⟨by rw [HPid.out, ← HNC.out]; rfl, _, ?_, hC.2.1, hC.2.2⟩
    rw [HPut.out, ← HN.out]
    exact hC.1

theorem drop_none {w : World} {b : Nat} {A : AR ByteArray} {F : List Nat} (h : IsAr w b A F) (hw : A.WF) (id : Nat) (hu : id ≤ 4294967295) (hx : ¬ (2 ≤ id ∧ A.live (id - 2))) :
    Calls Try.prog 11 #[.pointer (some ⟨b, 0, none⟩), .int .u32 id] w fun e w' => e = .returned (.bool false) ∧ w = w' := by
  have AT := Lib.hid (at_none h hw id hu hx)
  clear hx
  go_enter Try.func11, Try.ntmps11
  go_wp2_with fail
  refine AT.out.mono ?_
  rintro e w' ⟨rfl, rfl⟩
  go_wp2
  go_ret
  exact ⟨rfl, rfl⟩

theorem drop_held {w : World} {b : Nat} {A : AR ByteArray} {F : List Nat} (h : IsAr w b A F) (hw : A.WF) (id : Nat) (h2 : 2 ≤ id) {x : ByteArray} {k : Int} (hx : A.cells[id - 2]? = some (x, true, k)) (hk : 0 < k) :
    Calls Try.prog 11 #[.pointer (some ⟨b, 0, none⟩), .int .u32 id] w fun e w' => e = .returned (.bool false) ∧ w = w' := by
  obtain ⟨g, cap, c0, hat⟩ := at_live h hw id h2 hx
  obtain ⟨g', cap', c0', hlt, ⟨_, _, d2⟩, _⟩ := h.cell hx
  rw [c0] at c0'
  simp at c0'
  obtain ⟨rfl, rfl⟩ := c0'
  have AT := Lib.hid hat
  clear hat c0 h hx hw
  generalize (id - 2) * 3 = p at *
  go_enter Try.func11, Try.ntmps11
  go_wp2_with fail
  refine AT.out.mono ?_
  rintro e w' ⟨rfl, rfl⟩
  go_wp2
  go_ret
  exact ⟨rfl, rfl⟩

theorem Try.info27' : (Try.prog.info? 27).map (fun i => (i.zero, i.size, i.bytes)) = some (some (.int .u32 0), 1, 4) := by kernel_rfl

/-- What Drop leaves. -/
theorem close_drop {w X w1 : World} {b g : Nat} {A : AR ByteArray} {af a1 : Option Addr} {cap cap1 capf : Nat} {Ff F' : List Nat} {i : Nat} (hi : i < A.cells.length)
    (hb : Blk w b #[.slice (some ⟨g, 0, none⟩) A.cells.length cap, .slice af A.free.length capf, .int .i64 A.n, .int .i64 A.room] 64)
    (hc : Sl w 66 3 (.slice (some ⟨g, 0, none⟩) A.cells.length cap) A.cells.length (recs cellOf A.cells) [g]) (hf : Sl w 27 1 (.slice af A.free.length capf) A.free.length (A.free.map fun (i : Nat) => .int .u32 (i : Int)) Ff)
    (r1 : b ≠ g) (r2 : b ∉ Ff) (r3 : g ∉ Ff) (id : Nat) (n : Nat) (hn : (A.n : Int) - 1 = n) (MX : X = ((w.setCell ⟨g, i * 3, none⟩ (.string ByteArray.empty)).setCell ⟨g, i * 3 + 1, none⟩ (.bool false)).setCell ⟨g, i * 3 + 2, none⟩ (.int .i64 0))
    (hs1 : Sl w1 27 1 (.slice a1 (A.free.length + 1) cap1) (A.free.length + 1) ((A.free.map fun (i : Nat) => .int .u32 (i : Int)) ++ [.int .u32 id]) F') (hm1 : Mod Ff (X.alloc (.cells #[.int .u32 id] 27)) w1) (hf1 : ∀ k ∈ F', k ∈ Ff ∨ (X.alloc (.cells #[.int .u32 id] 27)).heap.size ≤ k) :
    IsAr ((w1.setCell ⟨b, 1, none⟩ (.slice a1 (A.free.length + 1) cap1)).setCell ⟨b, 2, none⟩ (.int .i64 n)) b { A with cells := A.cells.set i (ByteArray.empty, false, 0), free := A.free ++ [id], n := n } (b :: ([g] ++ F')) ∧
    Mod (b :: ([g] ++ Ff)) w ((w1.setCell ⟨b, 1, none⟩ (.slice a1 (A.free.length + 1) cap1)).setCell ⟨b, 2, none⟩ (.int .i64 n)) ∧ (∀ k ∈ b :: ([g] ++ F'), k ∈ b :: ([g] ++ Ff) ∨ w.heap.size ≤ k) := by
  have hbl := hb.lt
  have hgl := hc.lt g (by simp)
  have M0 : Mod [g] w X := by subst MX; exact (((Mod.refl [g] w).setCell _ _ (by simp)).setCell _ _ (by simp)).setCell _ _ (by simp)
  have hXs := M0.size
  have hc0 := ((hc.set (i * 3) (.string ByteArray.empty)).set (i * 3 + 1) (.bool false)).set (i * 3 + 2) (.int .i64 0)
  rw [recs_set3 cellOf cellOf_len A.cells i hi (ByteArray.empty, false, 0) _ _ _ rfl, ← MX] at hc0
  have hsz : (X.alloc (.cells #[.int .u32 id] 27)).heap.size = X.heap.size + 1 := by simp
  rw [hsz] at hf1
  have n1 : b ∉ F' := fun hk => by
    rcases hf1 b hk with h | h
    · exact r2 h
    · omega
  have n2 : g ∉ F' := fun hk => by
    rcases hf1 g hk with h | h
    · exact r3 h
    · omega
  have M1 : Mod [] X (X.alloc (.cells #[.int .u32 id] 27)) := (Mod.refl _ _).alloc _
  have M2 : Mod [b] w1 ((w1.setCell ⟨b, 1, none⟩ (.slice a1 (A.free.length + 1) cap1)).setCell ⟨b, 2, none⟩ (.int .i64 n)) := ((Mod.refl _ _).setCell _ _ (by simp)).setCell _ _ (by simp)
  refine ⟨⟨.slice (some ⟨g, 0, none⟩) A.cells.length cap, .slice a1 (A.free.length + 1) cap1, [g], F', ?_, ?_, ?_, rfl, by simp; exact r1, n1, by simp; exact n2⟩, ?_, ?_⟩
  · have := ((((hb.mod M0 (by simp; omega)).mod M1 (by simp)).mod hm1 r2).set 1 (.slice a1 (A.free.length + 1) cap1)).set 2 (.int .i64 n)
    simpa using this
  · have := ((hc0.mod M1 (by simp)).mod hm1 (by simp; exact r3)).mod M2 (by simp; omega)
    simpa using this
  · have := hs1.mod M2 (fun k hk => by simp; intro e; subst e; exact n1 hk)
    simpa using this
  · refine (((M0.mono (S' := b :: ([g] ++ Ff)) (fun i _ hi => by simp at hi; simp [hi])).trans M1 (fun i _ hi => by simp at hi)).trans hm1 (fun i _ hi => by simp [hi])).trans M2 (fun i _ hi => by simp at hi; simp [hi])
  · intro k hk
    simp at hk
    rcases hk with rfl | rfl | hk
    · simp
    · simp
    · rcases hf1 k hk with h | h
      · simp [h]
      · exact .inr (by omega)

set_option maxRecDepth 100000 in
set_option maxHeartbeats 2000000 in
theorem drop_live {w : World} {b : Nat} {A : AR ByteArray} {F : List Nat} (h : IsAr w b A F) (hw : A.WF) (id : Nat) (h2 : 2 ≤ id) {x : ByteArray} {k : Int} (hx : A.cells[id - 2]? = some (x, true, k)) (hk : k ≤ 0) :
    Calls Try.prog 11 #[.pointer (some ⟨b, 0, none⟩), .int .u32 id] w fun e w' => e = .returned (.bool true) ∧ ∃ F', IsAr w' b (A.drop ByteArray.empty id) F' ∧ Mod F w w' ∧ (∀ k ∈ F', k ∈ F ∨ w.heap.size ≤ k) := by
  obtain ⟨g, cap, c0, hat⟩ := at_live h hw id h2 hx
  obtain ⟨g', cap', c0', hlt, ⟨d0, d1, d2⟩, ⟨e0, e1, e2⟩, hgF, hgb⟩ := h.cell hx
  rw [c0] at c0'
  simp at c0'
  obtain ⟨rfl, rfl⟩ := c0'
  have hpos := hw.pos ⟨x, k, hx⟩
  have hlen : A.cells.length ≤ 1048576 := by have := hw.len; have := hw.room; omega
  have hroom := hw.room
  have hsum := hw.sum
  have AT := Lib.hid hat
  obtain ⟨vc, vf, Fc, Ff, hb, hc, hf, rfl, r1, r2, r3⟩ := h
  rw [hb.cell] at c0
  simp at c0
  subst c0
  obtain rfl := hc.block
  have b1 := hb.cell 1
  have b2 := hb.cell 2
  have z1 := hb.froz 1
  have z2 := hb.froz 2
  have hbl := hb.lt
  have hgl := hc.lt g (by simp)
  simp at b1 b2
  obtain ⟨af, capf, rfl, hcapf⟩ := hf.shape
  simp at r1 r3
  obtain ⟨i, hi⟩ : ∃ i, i = id - 2 := ⟨_, rfl⟩
  rw [← hi] at d0 d1 d2 e0 e1 e2 hlt AT
  have HI := Lib.hid hi
  have HB := Lib.hid hb
  have HC := Lib.hid hc
  have HF := Lib.hid hf
  have HLT := Lib.hid hlt
  have HD : Hid (A.drop ByteArray.empty id = { A with cells := A.cells.set i (ByteArray.empty, false, 0), free := A.free ++ [id], n := A.n - 1 }) := by rw [hi]; rfl
  have HS : Hid (∀ W, Mod [g] w W → Sl W 27 1 (.slice af A.free.length capf) A.free.length (A.free.map fun (i : Nat) => .int .u32 (i : Int)) Ff) := fun W M => HF.out.mod M (fun k hk => by simp; intro e; subst e; exact r3 hk)
  clear hat hx hw hb hc hf hi
  obtain ⟨n, hnn⟩ : ∃ n, n = A.n := ⟨_, rfl⟩
  obtain ⟨nf, hnf⟩ : ∃ n, n = A.free.length := ⟨_, rfl⟩
  rw [← hnn] at b2 hpos hsum
  rw [← hnf] at b1 HS hsum
  have HN := Lib.hid hnn
  have HNF := Lib.hid hnf
  obtain ⟨i0, hi0, hz0, hz1, hz2⟩ := info_parts Try.info27'
  clear hnn hnf hcapf
  go_enter Try.func11, Try.ntmps11
  go_wp2_with fail
  refine AT.out.mono ?_
  rintro e w' ⟨rfl, rfl⟩
  go_wp2_with (at_builtin; refine wpList_append_sl _ rfl _ _ 40 rfl 27 i0 (.int .u32 0) 1 4 Try.underlying40 hi0 hz0 hz1 hz2 rfl (by decide) _ nf _ Ff rfl (HS.out _ (by repeat (first | exact Mod.refl _ _ | apply Mod.drew | apply Mod.drewN | apply Mod.alloc | refine Mod.setCell ?_ _ _ (by simp)))) ⟨w.heap.size, 0, none⟩ 1 1 [.int .u32 id] (by decide) rfl rfl (by intro j u hu; exact list_new_at _ _ _ _ (by simp) j u hu) (by intro u hu; simp at hu; subst hu; rfl) (by unfold maxLen; omega) (by omega) ?_; intro v' w1 F' hs1 hm1 hf1; obtain ⟨a1, cap1, rfl, _⟩ := hs1.shape; have y1 : w1.cell? ⟨b, 1, none⟩ = some (.slice af nf capf) := (hm1.cell (a := ⟨b, 1, none⟩) (by simp; omega) r2).trans (by go_simp); have y2 : w1.cell? ⟨b, 2, none⟩ = some (.int .i64 n) := (hm1.cell (a := ⟨b, 2, none⟩) (by simp; omega) r2).trans (by go_simp); have y3 : w1.frozen? ⟨b, 1, none⟩ = false := (hm1.froz (a := ⟨b, 1, none⟩) (by simp; omega) r2).trans (by go_simp); have y4 : w1.frozen? ⟨b, 2, none⟩ = false := (hm1.froz (a := ⟨b, 2, none⟩) (by simp; omega) r2).trans (by go_simp))
  go_ret
  obtain ⟨m, hm⟩ : ∃ m, n = m + 1 := ⟨n - 1, by omega⟩
  have hC := close_drop HLT.out HB.out HC.out HF.out r1 r2 r3 id m (by rw [← HN.out]; omega) rfl (by rw [← HNF.out]; exact hs1) hm1 hf1
  rw [← HNF.out] at hC
  have e1 : (n : Int) - 1 = m := by omega
  have e2 : A.n - 1 = m := by rw [← HN.out]; omega
  rw [e1]
  refine ⟨rfl, _, ?_, hC.2.1, hC.2.2⟩
  rw [HD.out, e2]
  exact hC.1
end Go.Proofs.Ytlkakkgmjihlaaa.S

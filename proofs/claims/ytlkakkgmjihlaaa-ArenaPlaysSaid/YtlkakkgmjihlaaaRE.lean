/- One act on both. -/
import Derived.Test.YtlkakkgmjihlaaaRD
set_option linter.unusedVariables false
set_option linter.unusedSimpArgs false
namespace Go.Proofs.Ytlkakkgmjihlaaa
open Go.RowKit

/-- The arena (block b), the reference (br), an act in its box (bx). -/
structure PW (w0 W : World) (b br bx : Nat) (kd : Int) (id : Nat) (x : Int) (A : AR Int) (m : RM) (Fr : List Nat) : Prop where
  ref : IsRef W br m Fr
  f0 : ∀ k ∈ Fr, w0.heap.size ≤ k
  own : I.Own (bx :: Fr) w0 W b A
  box : Blk W bx #[.int .u8 kd, .int .u32 id, .int .i64 x] 53
  bxF : bx ∉ Fr
  bx0 : w0.heap.size ≤ bx

section
variable {w0 W W' : World} {b br bx : Nat} {kd : Int} {id : Nat} {x : Int} {A A' : AR Int} {m m' : RM} {Fr Fr' : List Nat}
theorem PW.same (h : PW w0 W b br bx kd id x A m Fr) (M : Mod [] W W') : PW w0 W' b br bx kd id x A m Fr :=
  ⟨h.ref.mod M (by simp), h.f0, h.own.same M, h.box.mod M (by simp), h.bxF, h.bx0⟩
theorem PW.arena (h : PW w0 W b br bx kd id x A m Fr) (o : I.Own (bx :: Fr) w0 W' b A') (k : Keep (bx :: Fr) W W') : PW w0 W' b br bx kd id x A' m Fr :=
  ⟨h.ref.keep k (fun q hq => by simp [hq]), h.f0, o, h.box.keep k (by simp), h.bxF, h.bx0⟩
theorem PW.refd (h : PW w0 W b br bx kd id x A m Fr) (r : IsRef W' br m' Fr') (M : Mod Fr W W') (hF : ∀ k ∈ Fr', k ∈ Fr ∨ W.heap.size ≤ k) : PW w0 W' b br bx kd id x A m' Fr' := by
  have hb := h.box.lt
  have hM := h.own.mod.size
  refine ⟨r, fun k hk => ?_, h.own.other M (fun k hk => ⟨h.f0 k hk, .inl (by simp [hk])⟩) (fun k hk => ?_), h.box.mod M h.bxF, fun hm => ?_, h.bx0⟩
  · rcases hF k hk with q | q
    · exact h.f0 k q
    · omega
  · rcases List.mem_cons.1 hk with rfl | hk
    · exact ⟨.inl (by simp), Nat.lt_of_lt_of_le hb M.size⟩
    · exact ⟨(hF k hk).imp (fun q => by simp [q]) (fun q => q), r.lt k hk⟩
  · rcases hF bx hm with q | q
    · exact h.bxF q
    · omega
theorem PW.cells (h : PW w0 W b br bx kd id x A m Fr) : W.cell? ⟨bx, 0, none⟩ = some (.int .u8 kd) ∧ W.cell? ⟨bx, 1, none⟩ = some (.int .u32 id) ∧ W.cell? ⟨bx, 2, none⟩ = some (.int .i64 x) := by
  have h0 := h.box.cell 0
  have h1 := h.box.cell 1
  have h2 := h.box.cell 2
  simp at h0 h1 h2
  exact ⟨h0, h1, h2⟩

/-- A field of one of the reference's things is written. -/
theorem IsRef.field {w : World} {b : Nat} {m : RM} {F : List Nat} (h : IsRef w b m F) {i : Nat} {t t' : Nat × Int × Int} (hi : m.L[i]? = some t) {g cap : Nat}
    (c0 : w.cell? ⟨b, 0, none⟩ = some (.slice (some ⟨g, 0, none⟩) m.L.length cap)) (j : Nat) (hj : j < 3) (u : Value) (hc : thg t' = (thg t).set j u) :
    IsRef (w.setCell ⟨g, i * 3 + j, none⟩ u) b (m.setAt i t') F ∧ Mod F w (w.setCell ⟨g, i * 3 + j, none⟩ u) := by
  obtain ⟨vL, vG, Fl, Fg, hb, hL, hG, rfl, r1, r2, r3⟩ := h
  obtain ⟨hlt, he⟩ := List.getElem?_eq_some_iff.1 hi
  rw [hb.cell] at c0
  simp at c0
  subst c0
  obtain rfl := hL.block
  simp at r1 r3
  have M : Mod [g] w (w.setCell ⟨g, i * 3 + j, none⟩ u) := (Mod.refl _ _).setCell _ _ (by simp)
  refine ⟨⟨.slice (some ⟨g, 0, none⟩) m.L.length cap, vG, [g], Fg, hb.mod M (by simp; omega), ?_, hG.mod M (fun k hk => by simp; intro e; subst e; exact r3 hk), rfl, by simp; omega, r2, by simp; exact r3⟩, M.mono (fun k _ hk => by simp at hk; simp [hk])⟩
  have := hL.set (i * 3 + j) u
  rw [recs_set1 thg thg_len m.L i j hlt hj t' u (by rw [he]; exact hc)] at this
  simpa [RM.setAt] using this
end

/-- The pair, K acts behind. -/
def PP (K : Nat) (w0 w : World) (b br : Nat) (A : AR Int) (m : RM) : Prop := Rel K A m ∧ ∃ Fr, IsRef w br m Fr ∧ (∀ k ∈ Fr, w0.heap.size ≤ k) ∧ I.Own Fr w0 w b A

theorem PP.box {K : Nat} {w0 w : World} {b br : Nat} {A : AR Int} {m : RM} (h : PP K w0 w b br A m) (kd : Int) (id : Nat) (x : Int) :
    ∃ Fr, PW w0 (w.alloc (.cells #[.int .u8 kd, .int .u32 id, .int .i64 x] 53)) b br w.heap.size kd id x A m Fr := by
  obtain ⟨_, Fr, hr, h0, ho⟩ := h
  have M : Mod [] w (w.alloc (.cells #[.int .u8 kd, .int .u32 id, .int .i64 x] 53)) := (Mod.refl _ _).alloc _
  refine ⟨Fr, hr.mod M (by simp), h0, ho.other M (by simp) (fun k hk => ?_), Blk.new _ _ _, fun hm => by have := hr.lt _ hm; omega, ho.mod.size⟩
  rcases List.mem_cons.1 hk with rfl | hk
  · exact ⟨.inr (Nat.le_refl _), by simp⟩
  · exact ⟨.inl hk, by have := hr.lt k hk; simp; omega⟩
theorem PP.of {K : Nat} {w0 W : World} {b br bx : Nat} {kd : Int} {id : Nat} {x : Int} {A : AR Int} {m : RM} {Fr : List Nat} (h : PW w0 W b br bx kd id x A m Fr) (r : Rel K A m) : PP K w0 W b br A m :=
  ⟨r, Fr, h.ref, h.f0, h.own.other (Mod.refl [] W) (by simp) (fun k hk => ⟨.inl (by simp [hk]), h.ref.lt k hk⟩)⟩

-- KINDS
set_option maxRecDepth 100000 in
set_option maxHeartbeats 8000000 in
theorem play_k0 {K : Nat} {w0 w : World} {b br : Nat} {A : AR Int} {m : RM} (hK : K ≤ 100) (h : PP K w0 w b br A m) (kd : Nat) (hkd : kd ≤ 255) (id : Nat) (hid : id ≤ 4294967295) (x : Int) (kc : kd % 6 = 0) :
    Calls Try.prog 20 #[.pointer (some ⟨b, 0, none⟩), .pointer (some ⟨br, 0, none⟩), .agg #[.int .u8 kd, .int .u32 id, .int .i64 x]] w fun e w' => e = .returned (.bool true) ∧ ∃ A' m', PP (K + 1) w0 w' b br A' m' := by
  obtain ⟨Fr, P0⟩ := h.box kd id x
  have rel := h.1
  have hll : m.L.length ≤ 100000 := by have h1 := rel.len; have h2 := rel.wf.sum; have h3 := rel.small; omega
  obtain ⟨x0, x1, x2⟩ := P0.cells
  have AT := Lib.hid (refAt_c P0.ref hll id)
  have HP := Lib.hid P0
  have REL := Lib.hid rel
  have HLL := Lib.hid hll
  have hroom : m.L.length = A.n ∧ m.room = A.room ∧ m.new ≤ 100000 ∧ m.gone.length ≤ 100000 := by
    have h1 := REL.out.len; have h2 := REL.out.room; have h3 := REL.out.new; have h4 := REL.out.gone; have h5 := REL.out.small; have h6 := REL.out.wf.sum
    rw [h4]; omega
  have HRM := Lib.hid hroom
  have MORE := Lib.hid REL.out.more
  have KC := Lib.hid kc
  clear h P0 rel hll hroom kc
  go_enter Try.func20, Try.ntmps20
  go_wp2_with fail
  generalize w.alloc (.cells #[.int .u8 (kd : Int), .int .u32 (id : Int), .int .i64 x] 53) = w1 at *
  generalize w.heap.size = bx at *
  refine AT.out.mono ?_
  rintro e w' ⟨⟨i, rfl, hs⟩, rfl⟩
  have HS := Lib.hid hs
  clear hs AT
  have kc := KC.out
  have hb0 : (((kd : Int) % 6) == 0) = true := by rw [beq_iff_eq]; omega
  clear kc
  by_cases hn : A.n < A.room
  · have RP := Lib.hid (REL.out.put hn x)
    have hpe := REL.out.putId
    have hpl := REL.out.wf.putId_low
    have HN := Lib.hid hn
    clear hn
    go_wp2_with fail
    refine (I.own_put HP.out.own HN.out x).mono ?_
    rintro e w2 ⟨rfl, o2, k2⟩
    have P2 := Lib.hid (HP.out.arena o2 k2)
    obtain ⟨-, -, y2⟩ := P2.out.cells
    have RC := refPut_c P2.out.ref (by have := HRM.out; have := HN.out; omega) HLL.out HRM.out.2.2.1 HRM.out.2.2.2 x
    rw [hpe] at RC
    have hgt : (0 : Int) < (A.putId : Int) := by omega
    have HRC := Lib.hid RC
    clear o2 k2 RC hpe hpl
    generalize (A.putId : Int) = pid at *
    have hbe : (pid == pid) = true := by simp
    go_wp2_with fail
    refine HRC.out.mono ?_
    rintro e w3 ⟨rfl, Fr', r3, m3, f3⟩
    have P3 := Lib.hid (P2.out.refd r3 m3 f3)
    clear r3 m3 f3
    go_wp2
    go_ret
    exact ⟨rfl, _, _, PP.of P3.out RP.out⟩
  · have HN := Lib.hid hn
    clear hn
    go_wp2_with fail
    refine (I.own_put_full HP.out.own (by have := HN.out; omega) x).mono ?_
    rintro e w2 ⟨rfl, o2, k2⟩
    have P2 := Lib.hid (HP.out.arena o2 k2)
    obtain ⟨-, -, y2⟩ := P2.out.cells
    clear o2 k2
    go_wp2_with fail
    refine (refPut_full P2.out.ref (by have := HRM.out; have := HN.out; omega) HLL.out x).mono ?_
    rintro e w3 ⟨rfl, d, hd⟩
    have P3 : Hid (PW w0 w3 b br bx kd id x A m Fr) := by show PW _ _ _ _ _ _ _ _ _ _ _; rw [hd]; exact P2.out.same ((Mod.refl _ _).drewN d)
    clear hd
    go_wp2
    go_ret
    exact ⟨rfl, _, _, PP.of P3.out MORE.out⟩

set_option maxRecDepth 100000 in
set_option maxHeartbeats 8000000 in
theorem play_k1 {K : Nat} {w0 w : World} {b br : Nat} {A : AR Int} {m : RM} (hK : K ≤ 100) (h : PP K w0 w b br A m) (kd : Nat) (hkd : kd ≤ 255) (id : Nat) (hid : id ≤ 4294967295) (x : Int) (kc : kd % 6 = 1) :
    Calls Try.prog 20 #[.pointer (some ⟨b, 0, none⟩), .pointer (some ⟨br, 0, none⟩), .agg #[.int .u8 kd, .int .u32 id, .int .i64 x]] w fun e w' => e = .returned (.bool true) ∧ ∃ A' m', PP (K + 1) w0 w' b br A' m' := by
  obtain ⟨Fr, P0⟩ := h.box kd id x
  have rel := h.1
  have hll : m.L.length ≤ 100000 := by have h1 := rel.len; have h2 := rel.wf.sum; have h3 := rel.small; omega
  obtain ⟨x0, x1, x2⟩ := P0.cells
  have AT := Lib.hid (refAt_c P0.ref hll id)
  have HP := Lib.hid P0
  have REL := Lib.hid rel
  have HLL := Lib.hid hll
  have hroom : m.L.length = A.n ∧ m.room = A.room ∧ m.new ≤ 100000 ∧ m.gone.length ≤ 100000 := by
    have h1 := REL.out.len; have h2 := REL.out.room; have h3 := REL.out.new; have h4 := REL.out.gone; have h5 := REL.out.small; have h6 := REL.out.wf.sum
    rw [h4]; omega
  have HRM := Lib.hid hroom
  have MORE := Lib.hid REL.out.more
  have KC := Lib.hid kc
  clear h P0 rel hll hroom kc
  go_enter Try.func20, Try.ntmps20
  go_wp2_with fail
  generalize w.alloc (.cells #[.int .u8 (kd : Int), .int .u32 (id : Int), .int .i64 x] 53) = w1 at *
  generalize w.heap.size = bx at *
  refine AT.out.mono ?_
  rintro e w' ⟨⟨i, rfl, hs⟩, rfl⟩
  have HS := Lib.hid hs
  clear hs AT
  have kc := KC.out
  have hb0 : (((kd : Int) % 6) == 0) = false := by rw [beq_eq_false_iff_ne]; omega
  have hb1 : (((kd : Int) % 6) == 1) = true := by rw [beq_iff_eq]; omega
  clear kc
  rcases HS.out with ⟨rfl, hno⟩ | ⟨k, rfl, hk, hki⟩
  · have NO := Lib.hid (REL.out.at_neg hno)
    have NOT := Lib.hid hno
    clear hno HS
    go_wp2_with fail
    refine (I.own_get_none HP.out.own id hid NO.out).mono ?_
    rintro e w2 ⟨rfl, rfl⟩
    go_wp2
    go_ret
    exact ⟨rfl, _, _, PP.of HP.out MORE.out⟩
  · obtain ⟨h2, hx⟩ := REL.out.at_pos hk hki
    have hh := REL.out.held _ (List.getElem_mem hk)
    obtain ⟨ra, rcap, hrc, c0, -, -, -, hcell⟩ := HP.out.ref.own
    obtain ⟨g, hga, hgF, hgb, ⟨d0, d1, d2⟩, ⟨z1, z2⟩⟩ := hcell k _ (List.getElem?_eq_getElem hk)
    subst hga
    have HK := Lib.hid hk
    have HKI := Lib.hid hki
    have HX := Lib.hid hx
    have H2 := Lib.hid h2
    have HGE : Hid (m.L[k]? = some m.L[k]) := List.getElem?_eq_getElem hk
    have hkn : k < m.L.length := hk
    have hln := HLL.out
    clear hcell hki hx h2 d0
    generalize hLk : m.L[k] = t at *
    clear hLk
    obtain ⟨t0, tx, th⟩ := t
    simp only at d1 d2 HX hh
    have hgl : g < w1.heap.size := World.block_lt_of_cell? w1 _ d2
    clear HS hk
    have HC0 := Lib.hid c0
    have HGF := Lib.hid hgF
    clear hgF
    generalize hln' : m.L.length = n at *
    have HLN := Lib.hid hln'
    have ht0 : t0 = id := HKI.out
    subst ht0
    have hgx : g ≠ bx := fun e => HP.out.bxF (by rw [← e]; exact HGF.out)
    have hxg : bx ≠ g := fun e => hgx e.symm
    clear hln'
    have hbe : (tx == tx) = true := by simp
    clear hgx hxg HLN z1 z2 d2 hh hgb
    go_wp2_with fail
    refine (I.own_get HP.out.own t0 H2.out HX.out).mono ?_
    rintro e w2 ⟨rfl, rfl⟩
    go_wp2
    go_ret
    exact ⟨rfl, _, _, PP.of HP.out MORE.out⟩

set_option maxRecDepth 100000 in
set_option maxHeartbeats 8000000 in
theorem play_k2 {K : Nat} {w0 w : World} {b br : Nat} {A : AR Int} {m : RM} (hK : K ≤ 100) (h : PP K w0 w b br A m) (kd : Nat) (hkd : kd ≤ 255) (id : Nat) (hid : id ≤ 4294967295) (x : Int) (kc : kd % 6 = 2) :
    Calls Try.prog 20 #[.pointer (some ⟨b, 0, none⟩), .pointer (some ⟨br, 0, none⟩), .agg #[.int .u8 kd, .int .u32 id, .int .i64 x]] w fun e w' => e = .returned (.bool true) ∧ ∃ A' m', PP (K + 1) w0 w' b br A' m' := by
  obtain ⟨Fr, P0⟩ := h.box kd id x
  have rel := h.1
  have hll : m.L.length ≤ 100000 := by have h1 := rel.len; have h2 := rel.wf.sum; have h3 := rel.small; omega
  obtain ⟨x0, x1, x2⟩ := P0.cells
  have AT := Lib.hid (refAt_c P0.ref hll id)
  have HP := Lib.hid P0
  have REL := Lib.hid rel
  have HLL := Lib.hid hll
  have hroom : m.L.length = A.n ∧ m.room = A.room ∧ m.new ≤ 100000 ∧ m.gone.length ≤ 100000 := by
    have h1 := REL.out.len; have h2 := REL.out.room; have h3 := REL.out.new; have h4 := REL.out.gone; have h5 := REL.out.small; have h6 := REL.out.wf.sum
    rw [h4]; omega
  have HRM := Lib.hid hroom
  have MORE := Lib.hid REL.out.more
  have KC := Lib.hid kc
  clear h P0 rel hll hroom kc
  go_enter Try.func20, Try.ntmps20
  go_wp2_with fail
  generalize w.alloc (.cells #[.int .u8 (kd : Int), .int .u32 (id : Int), .int .i64 x] 53) = w1 at *
  generalize w.heap.size = bx at *
  refine AT.out.mono ?_
  rintro e w' ⟨⟨i, rfl, hs⟩, rfl⟩
  have HS := Lib.hid hs
  clear hs AT
  have kc := KC.out
  have hb0 : (((kd : Int) % 6) == 0) = false := by rw [beq_eq_false_iff_ne]; omega
  have hb1 : (((kd : Int) % 6) == 1) = false := by rw [beq_eq_false_iff_ne]; omega
  have hb2 : (((kd : Int) % 6) == 2) = true := by rw [beq_iff_eq]; omega
  clear kc
  rcases HS.out with ⟨rfl, hno⟩ | ⟨k, rfl, hk, hki⟩
  · have NO := Lib.hid (REL.out.at_neg hno)
    have NOT := Lib.hid hno
    clear hno HS
    go_wp2_with fail
    refine (I.own_set_none HP.out.own id hid NO.out x).mono ?_
    rintro e w2 ⟨rfl, rfl⟩
    go_wp2
    go_ret
    exact ⟨rfl, _, _, PP.of HP.out MORE.out⟩
  · obtain ⟨h2, hx⟩ := REL.out.at_pos hk hki
    have hh := REL.out.held _ (List.getElem_mem hk)
    obtain ⟨ra, rcap, hrc, c0, -, -, -, hcell⟩ := HP.out.ref.own
    obtain ⟨g, hga, hgF, hgb, ⟨d0, d1, d2⟩, ⟨z1, z2⟩⟩ := hcell k _ (List.getElem?_eq_getElem hk)
    subst hga
    have HK := Lib.hid hk
    have HKI := Lib.hid hki
    have HX := Lib.hid hx
    have H2 := Lib.hid h2
    have HGE : Hid (m.L[k]? = some m.L[k]) := List.getElem?_eq_getElem hk
    have hkn : k < m.L.length := hk
    have hln := HLL.out
    clear hcell hki hx h2 d0
    generalize hLk : m.L[k] = t at *
    clear hLk
    obtain ⟨t0, tx, th⟩ := t
    simp only at d1 d2 HX hh
    have hgl : g < w1.heap.size := World.block_lt_of_cell? w1 _ d2
    clear HS hk
    have HC0 := Lib.hid c0
    have HGF := Lib.hid hgF
    clear hgF
    generalize hln' : m.L.length = n at *
    have HLN := Lib.hid hln'
    have ht0 : t0 = id := HKI.out
    subst ht0
    have hgx : g ≠ bx := fun e => HP.out.bxF (by rw [← e]; exact HGF.out)
    have hxg : bx ≠ g := fun e => hgx e.symm
    clear hln'
    have W2 : Hid (∀ W, PW w0 W b br bx kd t0 x A m Fr → W.cell? ⟨br, 0, none⟩ = some (.slice (some ⟨g, 0, none⟩) n rcap) → PW w0 (W.setCell ⟨g, k * 3 + 1, none⟩ (.int .i64 (x))) b br bx kd t0 x A (m.setAt k (t0, x, th)) Fr) := fun W p c => by
      obtain ⟨q1, q2⟩ := p.ref.field HGE.out (t' := (t0, x, th)) (by rw [HLN.out]; exact c) 1 (by omega) (.int .i64 (x)) rfl
      exact p.refd q1 q2 (fun k hk => .inl hk)
    obtain ⟨hk', hke⟩ := List.getElem?_eq_some_iff.1 HGE.out
    have RP := Lib.hid (REL.out.setAt hk' (by rw [hke]) x th hh.1 (by omega))
    clear hk' hke
    go_wp2
    go_region
    all_goals go_wp2_with fail
    all_goals
      have P2 := Lib.hid (W2.out _ (HP.out.same ((Mod.refl _ _).drew)) (by exact c0))
      refine (I.own_set P2.out.own t0 H2.out HX.out x).mono ?_
      rintro e w2 ⟨rfl, o2, k2⟩
      have P3 := Lib.hid (P2.out.arena o2 k2)
      clear o2 k2
      go_wp2
      go_ret
      exact ⟨rfl, _, _, PP.of P3.out RP.out⟩

set_option maxRecDepth 100000 in
set_option maxHeartbeats 8000000 in
theorem play_k3 {K : Nat} {w0 w : World} {b br : Nat} {A : AR Int} {m : RM} (hK : K ≤ 100) (h : PP K w0 w b br A m) (kd : Nat) (hkd : kd ≤ 255) (id : Nat) (hid : id ≤ 4294967295) (x : Int) (kc : kd % 6 = 3) :
    Calls Try.prog 20 #[.pointer (some ⟨b, 0, none⟩), .pointer (some ⟨br, 0, none⟩), .agg #[.int .u8 kd, .int .u32 id, .int .i64 x]] w fun e w' => e = .returned (.bool true) ∧ ∃ A' m', PP (K + 1) w0 w' b br A' m' := by
  obtain ⟨Fr, P0⟩ := h.box kd id x
  have rel := h.1
  have hll : m.L.length ≤ 100000 := by have h1 := rel.len; have h2 := rel.wf.sum; have h3 := rel.small; omega
  obtain ⟨x0, x1, x2⟩ := P0.cells
  have AT := Lib.hid (refAt_c P0.ref hll id)
  have HP := Lib.hid P0
  have REL := Lib.hid rel
  have HLL := Lib.hid hll
  have hroom : m.L.length = A.n ∧ m.room = A.room ∧ m.new ≤ 100000 ∧ m.gone.length ≤ 100000 := by
    have h1 := REL.out.len; have h2 := REL.out.room; have h3 := REL.out.new; have h4 := REL.out.gone; have h5 := REL.out.small; have h6 := REL.out.wf.sum
    rw [h4]; omega
  have HRM := Lib.hid hroom
  have MORE := Lib.hid REL.out.more
  have KC := Lib.hid kc
  clear h P0 rel hll hroom kc
  go_enter Try.func20, Try.ntmps20
  go_wp2_with fail
  generalize w.alloc (.cells #[.int .u8 (kd : Int), .int .u32 (id : Int), .int .i64 x] 53) = w1 at *
  generalize w.heap.size = bx at *
  refine AT.out.mono ?_
  rintro e w' ⟨⟨i, rfl, hs⟩, rfl⟩
  have HS := Lib.hid hs
  clear hs AT
  have kc := KC.out
  have hb0 : (((kd : Int) % 6) == 0) = false := by rw [beq_eq_false_iff_ne]; omega
  have hb1 : (((kd : Int) % 6) == 1) = false := by rw [beq_eq_false_iff_ne]; omega
  have hb2 : (((kd : Int) % 6) == 2) = false := by rw [beq_eq_false_iff_ne]; omega
  have hb3 : (((kd : Int) % 6) == 3) = true := by rw [beq_iff_eq]; omega
  clear kc
  rcases HS.out with ⟨rfl, hno⟩ | ⟨k, rfl, hk, hki⟩
  · have NO := Lib.hid (REL.out.at_neg hno)
    have NOT := Lib.hid hno
    clear hno HS
    have D2 : Hid (∀ W, Mod [] w1 W → Calls Try.prog 31 #[.pointer (some ⟨br, 0, none⟩), .int .u32 id] W fun e w' => e = .returned (.bool false) ∧ W = w') := fun W M => refDrop_none (HP.out.same M).ref HLL.out NOT.out
    have D1 : Hid (∀ W, Mod [] w1 W → Calls Try.prog 16 #[.pointer (some ⟨b, 0, none⟩), .int .u32 id] W fun e w' => e = .returned (.bool false) ∧ W = w') := fun W M => I.own_drop_none (HP.out.same M).own id hid NO.out
    go_wp2
    go_region_with (first | (go_at_call 16; refine (D1.out _ (by (repeat (first | exact Mod.refl _ _ | apply Mod.drew | apply Mod.drewN | apply Mod.alloc | refine Mod.setCell ?_ _ _ (by first | simp | (simp; omega)))))).mono ?_; rintro e w' ⟨rfl, rfl⟩) | (go_at_call 31; refine (D2.out _ (by (repeat (first | exact Mod.refl _ _ | apply Mod.drew | apply Mod.drewN | apply Mod.alloc | refine Mod.setCell ?_ _ _ (by first | simp | (simp; omega)))))).mono ?_; rintro e w' ⟨rfl, rfl⟩))
    all_goals
      go_wp2
      go_ret
      exact ⟨rfl, _, _, PP.of (HP.out.same (by (repeat (first | exact Mod.refl _ _ | apply Mod.drew | apply Mod.drewN | apply Mod.alloc | refine Mod.setCell ?_ _ _ (by first | simp | (simp; omega)))))) MORE.out⟩
  · obtain ⟨h2, hx⟩ := REL.out.at_pos hk hki
    have hh := REL.out.held _ (List.getElem_mem hk)
    obtain ⟨ra, rcap, hrc, c0, -, -, -, hcell⟩ := HP.out.ref.own
    obtain ⟨g, hga, hgF, hgb, ⟨d0, d1, d2⟩, ⟨z1, z2⟩⟩ := hcell k _ (List.getElem?_eq_getElem hk)
    subst hga
    have HK := Lib.hid hk
    have HKI := Lib.hid hki
    have HX := Lib.hid hx
    have H2 := Lib.hid h2
    have HGE : Hid (m.L[k]? = some m.L[k]) := List.getElem?_eq_getElem hk
    have hkn : k < m.L.length := hk
    have hln := HLL.out
    clear hcell hki hx h2 d0
    generalize hLk : m.L[k] = t at *
    clear hLk
    obtain ⟨t0, tx, th⟩ := t
    simp only at d1 d2 HX hh
    have hgl : g < w1.heap.size := World.block_lt_of_cell? w1 _ d2
    clear HS hk
    have HC0 := Lib.hid c0
    have HGF := Lib.hid hgF
    clear hgF
    generalize hln' : m.L.length = n at *
    have HLN := Lib.hid hln'
    have ht0 : t0 = id := HKI.out
    subst ht0
    have hgx : g ≠ bx := fun e => HP.out.bxF (by rw [← e]; exact HGF.out)
    have hxg : bx ≠ g := fun e => hgx e.symm
    clear hln'
    obtain ⟨hk', hke⟩ := List.getElem?_eq_some_iff.1 HGE.out
    clear hgx hxg z1 z2 d1 d2 hgb
    by_cases hth : 0 < th
    · have D2 : Hid (∀ W, Mod [] w1 W → Calls Try.prog 31 #[.pointer (some ⟨br, 0, none⟩), .int .u32 t0] W fun e w' => e = .returned (.bool false) ∧ W = w') := fun W M => refDrop_held (HP.out.same M).ref (by rw [HLN.out]; exact HLL.out) REL.out.nd hk' (by rw [hke]) (by rw [hke]; exact hth)
      have D1 : Hid (∀ W, Mod [] w1 W → Calls Try.prog 16 #[.pointer (some ⟨b, 0, none⟩), .int .u32 t0] W fun e w' => e = .returned (.bool false) ∧ W = w') := fun W M => I.own_drop_held (HP.out.same M).own t0 H2.out HX.out hth
      clear hk' hke hth hh c0
      go_wp2
      go_region_with (first | (go_at_call 16; refine (D1.out _ (by (repeat (first | exact Mod.refl _ _ | apply Mod.drew | apply Mod.drewN | apply Mod.alloc | refine Mod.setCell ?_ _ _ (by first | simp | (simp; omega)))))).mono ?_; rintro e w' ⟨rfl, rfl⟩) | (go_at_call 31; refine (D2.out _ (by (repeat (first | exact Mod.refl _ _ | apply Mod.drew | apply Mod.drewN | apply Mod.alloc | refine Mod.setCell ?_ _ _ (by first | simp | (simp; omega)))))).mono ?_; rintro e w' ⟨rfl, rfl⟩))
      all_goals
        go_wp2
        go_ret
        exact ⟨rfl, _, _, PP.of (HP.out.same (by (repeat (first | exact Mod.refl _ _ | apply Mod.drew | apply Mod.drewN | apply Mod.alloc | refine Mod.setCell ?_ _ _ (by first | simp | (simp; omega)))))) MORE.out⟩
    · have D1 : Hid (∀ W, Mod [] w1 W → Calls Try.prog 16 #[.pointer (some ⟨b, 0, none⟩), .int .u32 t0] W fun e w' => e = .returned (.bool true) ∧ PW w0 w' b br bx kd t0 x (A.drop 0 t0) m Fr) := fun W M => by
        have p := HP.out.same M
        exact (I.own_drop p.own t0 H2.out HX.out (by omega)).mono fun e w' ⟨he, o, q⟩ => ⟨he, p.arena o q⟩
      have D2 : Hid (∀ W, PW w0 W b br bx kd t0 x (A.drop 0 t0) m Fr → Calls Try.prog 31 #[.pointer (some ⟨br, 0, none⟩), .int .u32 t0] W fun e w' => e = .returned (.bool true) ∧ ∃ Fr', PW w0 w' b br bx kd t0 x (A.drop 0 t0) (m.drop k t0) Fr') := fun W p =>
        (refDrop_live p.ref (by rw [HLN.out]; exact HLL.out) HRM.out.2.2.2 REL.out.nd hk' (by rw [hke]) (by rw [hke]; show th ≤ 0; omega)).mono fun e w' ⟨he, F', r1, r2, r3⟩ => ⟨he, F', p.refd r1 r2 r3⟩
      have RP := Lib.hid (REL.out.drop hk' (by rw [hke]) (id := t0))
      clear hk' hke hth hh c0
      go_wp2
      go_region_with (first | (go_at_call 16; refine (D1.out _ (by (repeat (first | exact Mod.refl _ _ | apply Mod.drew | apply Mod.drewN | apply Mod.alloc | refine Mod.setCell ?_ _ _ (by first | simp | (simp; omega)))))).mono ?_; rintro e w2 ⟨rfl, p2⟩; obtain ⟨-, y1, -⟩ := p2.cells; have P2 := Lib.hid p2; clear p2) | (go_at_call 31; refine (D2.out _ P2.out).mono ?_; rintro e w3 ⟨rfl, Fr3, p3⟩; have P3 := Lib.hid p3; clear p3))
      all_goals
        go_wp2
        go_ret
        exact ⟨rfl, _, _, PP.of P3.out RP.out⟩

set_option maxRecDepth 100000 in
set_option maxHeartbeats 8000000 in
theorem play_k4 {K : Nat} {w0 w : World} {b br : Nat} {A : AR Int} {m : RM} (hK : K ≤ 100) (h : PP K w0 w b br A m) (kd : Nat) (hkd : kd ≤ 255) (id : Nat) (hid : id ≤ 4294967295) (x : Int) (kc : kd % 6 = 4) :
    Calls Try.prog 20 #[.pointer (some ⟨b, 0, none⟩), .pointer (some ⟨br, 0, none⟩), .agg #[.int .u8 kd, .int .u32 id, .int .i64 x]] w fun e w' => e = .returned (.bool true) ∧ ∃ A' m', PP (K + 1) w0 w' b br A' m' := by
  obtain ⟨Fr, P0⟩ := h.box kd id x
  have rel := h.1
  have hll : m.L.length ≤ 100000 := by have h1 := rel.len; have h2 := rel.wf.sum; have h3 := rel.small; omega
  obtain ⟨x0, x1, x2⟩ := P0.cells
  have AT := Lib.hid (refAt_c P0.ref hll id)
  have HP := Lib.hid P0
  have REL := Lib.hid rel
  have HLL := Lib.hid hll
  have hroom : m.L.length = A.n ∧ m.room = A.room ∧ m.new ≤ 100000 ∧ m.gone.length ≤ 100000 := by
    have h1 := REL.out.len; have h2 := REL.out.room; have h3 := REL.out.new; have h4 := REL.out.gone; have h5 := REL.out.small; have h6 := REL.out.wf.sum
    rw [h4]; omega
  have HRM := Lib.hid hroom
  have MORE := Lib.hid REL.out.more
  have KC := Lib.hid kc
  clear h P0 rel hll hroom kc
  go_enter Try.func20, Try.ntmps20
  go_wp2_with fail
  generalize w.alloc (.cells #[.int .u8 (kd : Int), .int .u32 (id : Int), .int .i64 x] 53) = w1 at *
  generalize w.heap.size = bx at *
  refine AT.out.mono ?_
  rintro e w' ⟨⟨i, rfl, hs⟩, rfl⟩
  have HS := Lib.hid hs
  clear hs AT
  have kc := KC.out
  have hb0 : (((kd : Int) % 6) == 0) = false := by rw [beq_eq_false_iff_ne]; omega
  have hb1 : (((kd : Int) % 6) == 1) = false := by rw [beq_eq_false_iff_ne]; omega
  have hb2 : (((kd : Int) % 6) == 2) = false := by rw [beq_eq_false_iff_ne]; omega
  have hb3 : (((kd : Int) % 6) == 3) = false := by rw [beq_eq_false_iff_ne]; omega
  have hb4 : (((kd : Int) % 6) == 4) = true := by rw [beq_iff_eq]; omega
  clear kc
  rcases HS.out with ⟨rfl, hno⟩ | ⟨k, rfl, hk, hki⟩
  · have NO := Lib.hid (REL.out.at_neg hno)
    have NOT := Lib.hid hno
    clear hno HS
    go_wp2_with fail
    refine (I.own_hold_none HP.out.own id hid NO.out).mono ?_
    rintro e w2 ⟨rfl, rfl⟩
    go_wp2
    go_ret
    exact ⟨rfl, _, _, PP.of HP.out MORE.out⟩
  · obtain ⟨h2, hx⟩ := REL.out.at_pos hk hki
    have hh := REL.out.held _ (List.getElem_mem hk)
    obtain ⟨ra, rcap, hrc, c0, -, -, -, hcell⟩ := HP.out.ref.own
    obtain ⟨g, hga, hgF, hgb, ⟨d0, d1, d2⟩, ⟨z1, z2⟩⟩ := hcell k _ (List.getElem?_eq_getElem hk)
    subst hga
    have HK := Lib.hid hk
    have HKI := Lib.hid hki
    have HX := Lib.hid hx
    have H2 := Lib.hid h2
    have HGE : Hid (m.L[k]? = some m.L[k]) := List.getElem?_eq_getElem hk
    have hkn : k < m.L.length := hk
    have hln := HLL.out
    clear hcell hki hx h2 d0
    generalize hLk : m.L[k] = t at *
    clear hLk
    obtain ⟨t0, tx, th⟩ := t
    simp only at d1 d2 HX hh
    have hgl : g < w1.heap.size := World.block_lt_of_cell? w1 _ d2
    clear HS hk
    have HC0 := Lib.hid c0
    have HGF := Lib.hid hgF
    clear hgF
    generalize hln' : m.L.length = n at *
    have HLN := Lib.hid hln'
    have ht0 : t0 = id := HKI.out
    subst ht0
    have hgx : g ≠ bx := fun e => HP.out.bxF (by rw [← e]; exact HGF.out)
    have hxg : bx ≠ g := fun e => hgx e.symm
    clear hln'
    have W2 : Hid (∀ W, PW w0 W b br bx kd t0 x A m Fr → W.cell? ⟨br, 0, none⟩ = some (.slice (some ⟨g, 0, none⟩) n rcap) → PW w0 (W.setCell ⟨g, k * 3 + 2, none⟩ (.int .i64 (th + 1))) b br bx kd t0 x A (m.setAt k (t0, tx, th + 1)) Fr) := fun W p c => by
      obtain ⟨q1, q2⟩ := p.ref.field HGE.out (t' := (t0, tx, th + 1)) (by rw [HLN.out]; exact c) 2 (by omega) (.int .i64 (th + 1)) rfl
      exact p.refd q1 q2 (fun k hk => .inl hk)
    obtain ⟨hk', hke⟩ := List.getElem?_eq_some_iff.1 HGE.out
    have RP := Lib.hid (REL.out.setAt hk' (by rw [hke]) tx (th + 1) (by omega) (by omega))
    clear hk' hke
    go_wp2_with fail
    have P2 := Lib.hid (W2.out _ HP.out c0)
    refine (I.own_hold P2.out.own t0 H2.out HX.out hh.1 (by omega)).mono ?_
    rintro e w2 ⟨rfl, o2, k2⟩
    have P3 := Lib.hid (P2.out.arena o2 k2)
    clear o2 k2
    go_wp2
    go_ret
    exact ⟨rfl, _, _, PP.of P3.out RP.out⟩

set_option maxRecDepth 100000 in
set_option maxHeartbeats 8000000 in
theorem play_k5 {K : Nat} {w0 w : World} {b br : Nat} {A : AR Int} {m : RM} (hK : K ≤ 100) (h : PP K w0 w b br A m) (kd : Nat) (hkd : kd ≤ 255) (id : Nat) (hid : id ≤ 4294967295) (x : Int) (kc : kd % 6 = 5) :
    Calls Try.prog 20 #[.pointer (some ⟨b, 0, none⟩), .pointer (some ⟨br, 0, none⟩), .agg #[.int .u8 kd, .int .u32 id, .int .i64 x]] w fun e w' => e = .returned (.bool true) ∧ ∃ A' m', PP (K + 1) w0 w' b br A' m' := by
  obtain ⟨Fr, P0⟩ := h.box kd id x
  have rel := h.1
  have hll : m.L.length ≤ 100000 := by have h1 := rel.len; have h2 := rel.wf.sum; have h3 := rel.small; omega
  obtain ⟨x0, x1, x2⟩ := P0.cells
  have AT := Lib.hid (refAt_c P0.ref hll id)
  have HP := Lib.hid P0
  have REL := Lib.hid rel
  have HLL := Lib.hid hll
  have hroom : m.L.length = A.n ∧ m.room = A.room ∧ m.new ≤ 100000 ∧ m.gone.length ≤ 100000 := by
    have h1 := REL.out.len; have h2 := REL.out.room; have h3 := REL.out.new; have h4 := REL.out.gone; have h5 := REL.out.small; have h6 := REL.out.wf.sum
    rw [h4]; omega
  have HRM := Lib.hid hroom
  have MORE := Lib.hid REL.out.more
  have KC := Lib.hid kc
  clear h P0 rel hll hroom kc
  go_enter Try.func20, Try.ntmps20
  go_wp2_with fail
  generalize w.alloc (.cells #[.int .u8 (kd : Int), .int .u32 (id : Int), .int .i64 x] 53) = w1 at *
  generalize w.heap.size = bx at *
  refine AT.out.mono ?_
  rintro e w' ⟨⟨i, rfl, hs⟩, rfl⟩
  have HS := Lib.hid hs
  clear hs AT
  have kc := KC.out
  have hb0 : (((kd : Int) % 6) == 0) = false := by rw [beq_eq_false_iff_ne]; omega
  have hb1 : (((kd : Int) % 6) == 1) = false := by rw [beq_eq_false_iff_ne]; omega
  have hb2 : (((kd : Int) % 6) == 2) = false := by rw [beq_eq_false_iff_ne]; omega
  have hb3 : (((kd : Int) % 6) == 3) = false := by rw [beq_eq_false_iff_ne]; omega
  have hb4 : (((kd : Int) % 6) == 4) = false := by rw [beq_eq_false_iff_ne]; omega
  clear kc
  rcases HS.out with ⟨rfl, hno⟩ | ⟨k, rfl, hk, hki⟩
  · have NO := Lib.hid (REL.out.at_neg hno)
    have NOT := Lib.hid hno
    clear hno HS
    go_wp2_with fail
    refine (I.own_let_none HP.out.own id hid NO.out).mono ?_
    rintro e w2 ⟨rfl, rfl⟩
    go_wp2
    go_ret
    exact ⟨rfl, _, _, PP.of HP.out MORE.out⟩
  · obtain ⟨h2, hx⟩ := REL.out.at_pos hk hki
    have hh := REL.out.held _ (List.getElem_mem hk)
    obtain ⟨ra, rcap, hrc, c0, -, -, -, hcell⟩ := HP.out.ref.own
    obtain ⟨g, hga, hgF, hgb, ⟨d0, d1, d2⟩, ⟨z1, z2⟩⟩ := hcell k _ (List.getElem?_eq_getElem hk)
    subst hga
    have HK := Lib.hid hk
    have HKI := Lib.hid hki
    have HX := Lib.hid hx
    have H2 := Lib.hid h2
    have HGE : Hid (m.L[k]? = some m.L[k]) := List.getElem?_eq_getElem hk
    have hkn : k < m.L.length := hk
    have hln := HLL.out
    clear hcell hki hx h2 d0
    generalize hLk : m.L[k] = t at *
    clear hLk
    obtain ⟨t0, tx, th⟩ := t
    simp only at d1 d2 HX hh
    have hgl : g < w1.heap.size := World.block_lt_of_cell? w1 _ d2
    clear HS hk
    have HC0 := Lib.hid c0
    have HGF := Lib.hid hgF
    clear hgF
    generalize hln' : m.L.length = n at *
    have HLN := Lib.hid hln'
    have ht0 : t0 = id := HKI.out
    subst ht0
    have hgx : g ≠ bx := fun e => HP.out.bxF (by rw [← e]; exact HGF.out)
    have hxg : bx ≠ g := fun e => hgx e.symm
    clear hln'
    by_cases hth : 0 < th
    · have W2 : Hid (∀ W, PW w0 W b br bx kd t0 x A m Fr → W.cell? ⟨br, 0, none⟩ = some (.slice (some ⟨g, 0, none⟩) n rcap) → PW w0 (W.setCell ⟨g, k * 3 + 2, none⟩ (.int .i64 (th - 1))) b br bx kd t0 x A (m.setAt k (t0, tx, th - 1)) Fr) := fun W p c => by
        obtain ⟨q1, q2⟩ := p.ref.field HGE.out (t' := (t0, tx, th - 1)) (by rw [HLN.out]; exact c) 2 (by omega) (.int .i64 (th - 1)) rfl
        exact p.refd q1 q2 (fun k hk => .inl hk)
      obtain ⟨hk', hke⟩ := List.getElem?_eq_some_iff.1 HGE.out
      have RP := Lib.hid (REL.out.setAt hk' (by rw [hke]) tx (th - 1) (by omega) (by omega))
      clear hk' hke
      go_wp2_with fail
      have P2 := Lib.hid (W2.out _ HP.out c0)
      refine (I.own_let P2.out.own t0 H2.out HX.out (by omega) (by omega)).mono ?_
      rintro e w2 ⟨rfl, o2, k2⟩
      have P3 := Lib.hid (P2.out.arena o2 k2)
      clear o2 k2
      go_wp2
      go_ret
      exact ⟨rfl, _, _, PP.of P3.out RP.out⟩
    · obtain rfl : th = 0 := by omega
      go_wp2_with fail
      refine (I.own_let_free HP.out.own t0 H2.out HX.out).mono ?_
      rintro e w2 ⟨rfl, rfl⟩
      go_wp2
      go_ret
      exact ⟨rfl, _, _, PP.of HP.out MORE.out⟩

/-- One act on both. -/
theorem play_c {K : Nat} {w0 w : World} {b br : Nat} {A : AR Int} {m : RM} (hK : K ≤ 100) (h : PP K w0 w b br A m) (kd : Nat) (hkd : kd ≤ 255) (id : Nat) (hid : id ≤ 4294967295) (x : Int) :
    Calls Try.prog 20 #[.pointer (some ⟨b, 0, none⟩), .pointer (some ⟨br, 0, none⟩), .agg #[.int .u8 kd, .int .u32 id, .int .i64 x]] w fun e w' => e = .returned (.bool true) ∧ ∃ A' m', PP (K + 1) w0 w' b br A' m' := by
  have hkc : kd % 6 = 0 ∨ kd % 6 = 1 ∨ kd % 6 = 2 ∨ kd % 6 = 3 ∨ kd % 6 = 4 ∨ kd % 6 = 5 := by omega
  rcases hkc with kc | kc | kc | kc | kc | kc
  · exact play_k0 hK h kd hkd id hid x kc
  · exact play_k1 hK h kd hkd id hid x kc
  · exact play_k2 hK h kd hkd id hid x kc
  · exact play_k3 hK h kd hkd id hid x kc
  · exact play_k4 hK h kd hkd id hid x kc
  · exact play_k5 hK h kd hkd id hid x kc
end Go.Proofs.Ytlkakkgmjihlaaa

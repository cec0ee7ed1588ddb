/- Collect, Len. -/
import Derived.Test.YtlkakkgmjihlaaaQC
import Derived.Test.YtlkakkgmjihlaaaCI
set_option linter.unusedVariables false
set_option linter.unusedSimpArgs false
namespace Go.Proofs.Ytlkakkgmjihlaaa
open Go.RowKit Go.Shelf
attribute [local go_sem] Oper.semAt_some

theorem wpListIn_append_sl {F : Fence} {nn : Nat} {P : Program} (w : World) {ops : Array Oper} {rest : List Oper} {o : Oper} {a : Act} {Q : Exit → Act → World → Prop} (hgd : o.guard = none) (s x : Operand) (t : TypeId)
    (ho : o.op = .call { callee := .builtin .append, args := #[s, x], argTypes := #[t, t] })
    (e : TypeId) (i : TypeInfo) (z : Value) (size bytes : Nat) (ht : P.underlying t = some (.slice e)) (hi : P.info? e = some i) (hz : i.zero = some z)
    (hsize : i.size = size) (hby : i.bytes = bytes) (hzs : z.cells.size = size) (hsz : 0 < size)
    (v : Value) (n : Nat) (xs : List Value) (G : List Nat) (hs : a.eval s = v) (hown : Sl w e size v n xs G)
    (ad : Addr) (m c : Nat) (news : List Value) (hm : 0 < m) (hx : a.eval x = .slice (some ad) m c) (hl : news.length = m * size) (hnews : ∀ j u, news[j]? = some u → w.cell? (ad.add j) = some u) (h1 : ∀ u ∈ news, u.oneCell' = true)
    (h63 : n + m ≤ maxLen) (hbytes : (n + m) * bytes ≤ 140737488355328)
    (h : ∀ v' w' F', Sl w' e size v' (n + m) (xs ++ news) F' → Mod G w w' → (∀ k ∈ F', k ∈ G ∨ w.heap.size ≤ k) → wpListIn F nn P ops Q rest (a.put o.dst v') w') : wpListIn F nn P ops Q (o :: rest) a w := by
  refine wpListIn_plain hgd fun K hK' => ?_
  obtain ⟨v', w', F', hr, h2, h3, h4⟩ := run_append_sl (P := P) w t o.type e i z size bytes ht hi hz hsize hby hzs hsz v n xs G hown ad m c news hm hl hnews h1 h63 hbytes
  unfold Oper.wpIn
  refine ⟨?_, ?_⟩
  · simp [Oper.about, ho, resolve, Target.leads, Sem.run_pure]
  · rw [Oper.semAt_plain F _ _ (by rw [ho]; intro c hc'; cases hc')]
    simp [execOp, ho, resolve, invoke, builtin, hs, hx, hr, Result.andThen]
    exact hK' _ _ (h v' w' F' h2 h3 h4)


/-- What Collect's loop keeps: the box bx holds a slice of what has come; w0: where Collect began; B: the heap's size where the loop began. -/
structure Co (w0 : World) (bx B : Nat) (X : List Nat) (pre : List Int) (V : World) : Prop where
  own : ∃ v F, Blk V bx #[v] 40 ∧ Sl V 27 1 v pre.length (pre.map ei) F ∧ ∀ k ∈ F, B ≤ k ∧ k ∉ X ∧ k ≠ bx
  nx : bx ∉ X
  mod : Mod [] w0 V
  above : ∀ k ∈ X, B ≤ k
  bB : w0.heap.size ≤ bx ∧ bx < B
  size : B ≤ V.heap.size

theorem Co.step {w0 : World} {bx B : Nat} {X X' : List Nat} {pre : List Int} {A V : World} (h : Co w0 bx B X pre A) (m : Mod X A V) (hX : ∀ k ∈ X', (k ∈ X ∨ A.heap.size ≤ k) ∧ k < V.heap.size) : Co w0 bx B X' pre V := by
  obtain ⟨v, F, h1, h2, h3⟩ := h.own
  have hl := h.bB
  have hB := h.size
  refine ⟨⟨v, F, h1.mod m h.nx, h2.mod m (fun k hk => (h3 k hk).2.1), fun k hk => ⟨(h3 k hk).1, fun hm => ?_, (h3 k hk).2.2⟩⟩, fun hm => ?_, h.mod.trans m (fun i hi hm => by have := h.above i hm; omega), fun k hk => ?_, hl, Nat.le_trans hB m.size⟩
  · rcases (hX k hm).1 with q | q
    · exact (h3 k hk).2.1 q
    · have := h2.lt k hk; omega
  · rcases (hX bx hm).1 with q | q
    · exact h.nx q
    · have := h1.lt; omega
  · rcases (hX k hk).1 with q | q
    · exact h.above k q
    · omega

set_option maxRecDepth 100000 in
set_option maxHeartbeats 4000000 in
theorem collect_v {sv : Value} {g : Nat} {lb : Array Value} {R : List Nat} {L : List Int} {w : World} (hsv : NoneTo sv g lb) (hs : Seq Try.prog g lb ei R L w) (n : Int) (hn2 : n ≤ 9223372036854775807) (hlen : (tk L n).length ≤ 100000) :
    Calls Try.prog 25 #[sv, .int .i64 n] w fun e w' => ∃ v', e = .returned v' ∧ NewV 27 w ((tk L n).map ei) w' v' := by
  obtain ⟨i0, hi, hz0, hz1, hz2⟩ := info_parts I.Try.info27'
  have TC := Lib.hid (take_v hsv (hs.mod (w' := w.alloc (.cells #[.slice none 0 0] 40)) ((Mod.refl [] _).alloc _) (by simp)) n hn2)
  have HR := Lib.hid hs.1
  have HLEN := Lib.hid hlen
  clear hs hn2 hlen
  refine (callsIn_wide (n := 0)).1 (callsIn_of_wp_marks Try.func25 rfl trivial ?_ rfl)
  simp only [Try.ntmps25, List.size_toArray, List.length_cons, List.length_nil, Nat.reduceAdd, Nat.reduceSub, Array.replicate_succ, Array.replicate_zero, List.push_toArray, List.append_toArray, List.nil_append, List.cons_append]
  gi_wp2
  refine ⟨trivial, rfl, ?_⟩
  refine ((callsIn_wide (n := 0)).2 TC.out).mono ?_
  rintro e w2 ⟨lb2, rfl, ⟨R2, hs2, hR2⟩, m2⟩
  have S2 := Lib.hid hs2
  have M2 := Lib.hid m2
  have HR2 := Lib.hid hR2
  have b2 : Hid (Blk w2 w.heap.size #[.slice none 0 0] 40) := (Blk.new _ _ _).mod m2 (by simp)
  have hz2' : w.heap.size + 1 ≤ w2.heap.size := by have := m2.size; simpa using this
  clear hs2 m2 hR2 TC
  gi_wp2
  have hR3 : Hid (∀ k ∈ R2, k ≠ w.heap.size) := fun k hk e => by
    rcases HR2.out k hk with q | q
    · have := HR.out k q; omega
    · simp at q; omega
  refine wpIn_range (gf := 36) (lb := lb2) rfl S2.out rfl (fun X pre V => Co w w.heap.size w2.heap.size X pre V) (fun _ _ _ _ => False)
    (fun X X' s A V h m hX => h.step m hX) (fun _ _ _ _ _ _ h _ _ => h)
    ⟨⟨_, [], b2.out, Sl.nil _ _ _, by simp⟩, by simp, (Mod.refl [] w).alloc (.cells #[.slice none 0 0] 40) |>.trans M2.out (by simp), by simp, ⟨Nat.le_refl _, by omega⟩, Nat.le_refl _⟩
    (fun x => { tmps := #[sv, .int .i64 n, undef, undef, .slice none 0 0, .pointer (some ⟨w.heap.size, 0, none⟩), .int .u32 x, sv, .int .i64 n, .func (.func 36) #[] lb2, .int .u32 x, undef, undef, undef, undef, undef], defers := [] })
    ?assign ?body ?done ?stop
  case assign =>
    intro l2 x V K hK
    gi_wp2
    exact hK
  case body =>
    rintro l2 X pre x rest V hL hc hX hkR
    have HC := Lib.hid hc
    obtain ⟨v, F, hb, hsl, hf⟩ := hc.own
    obtain ⟨a, cap, rfl, _⟩ := hsl.shape
    have cb := hb.cell 0
    simp at cb
    have fb := hb.froz 0
    have hpl : pre.length ≤ 100000 := by
      have h1 := HLEN.out
      rw [hL, List.length_append] at h1; omega
    have hbl := hb.lt
    have HB := Lib.hid hb
    have HSL := Lib.hid hsl
    have HF := Lib.hid hf
    have HL := Lib.hid hL
    have HX := Lib.hid hX
    clear hb hsl hf hL hX hkR hc
    have hbF : Hid (w.heap.size ∉ F) := fun hm => (HF.out _ hm).2.2 rfl
    generalize hm0 : pre.length = m0 at *
    have HM0 := Lib.hid hm0
    clear hm0
    gi_wp2_with (gi_at_builtin; refine wpListIn_append_sl _ rfl _ _ 40 rfl 27 i0 (.int .u32 0) 1 4 Try.underlying40 hi hz0 hz1 hz2 rfl (by decide) _ m0 (pre.map ei) F rfl (Sl.mod HSL.out (S := []) (by (repeat (first | exact Mod.refl _ _ | apply Mod.drew | apply Mod.drewN | apply Mod.alloc | refine Mod.setCell ?_ _ _ (by first | simp | (simp; omega))))) (by simp)) ⟨V.heap.size, 0, none⟩ 1 1 [.int .u32 x] (by decide) rfl rfl (by intro j u hu; exact list_new_at _ _ _ _ (by simp) j u hu) (by intro u hu; simp at hu; rcases hu with rfl; rfl) (by unfold maxLen; omega) (by omega) ?_; intro v' w1 F' hs1 hm1 hf1; obtain ⟨g', cap', rfl, _, _⟩ := Sl.pos hs1 (by omega); have cb1 := ((HB.out.alloc _).mod hm1 hbF.out).cell 0; have fb1 := ((HB.out.alloc _).mod hm1 hbF.out).froz 0; simp at cb1)
    have hsV : V.heap.size + 1 ≤ w1.heap.size := by have := hm1.size; simpa using this
    have MV : Mod (w.heap.size :: F) V (w1.setCell ⟨w.heap.size, 0, none⟩ (.slice (some ⟨g', 0, none⟩) (m0 + 1) cap')) :=
      (((Mod.refl (w.heap.size :: F) V).alloc _).trans hm1 (fun k _ hk => by simp [hk])).setCell _ _ (by simp)
    have hF'n : ∀ k ∈ F', w2.heap.size ≤ k ∧ k ∉ X ∧ k ≠ w.heap.size := by
      intro k hk
      rcases hf1 k hk with q | q
      · exact HF.out k q
      · have q' : V.heap.size + 1 ≤ k := by simpa using q
        have h1 := HC.out.size
        refine ⟨by omega, fun hm => by have := HX.out k hm; omega, by omega⟩
    refine ⟨MV.size, MV.keep fun k hk => ?_, ⟨⟨_, F', by simpa using ((HB.out.alloc _).mod hm1 hbF.out).set 0 (.slice (some ⟨g', 0, none⟩) (m0 + 1) cap'), ?_, hF'n⟩, HC.out.nx, HC.out.mod.trans MV (fun k hk hm => ?_), HC.out.above, HC.out.bB, Nat.le_trans HC.out.size MV.size⟩⟩
    · rcases List.mem_append.1 hk with q | q
      · have h1 := S2.out.1 k q
        have h2 := HC.out.size
        refine ⟨by omega, fun hm => ?_⟩
        rcases List.mem_cons.1 hm with e | e
        · exact hR3.out k q e
        · have := (HF.out k e).1; omega
      · refine ⟨HX.out k q, fun hm => ?_⟩
        rcases List.mem_cons.1 hm with e | e
        · exact HC.out.nx (e ▸ q)
        · exact (HF.out k e).2.1 q
    · rw [List.map_append, List.length_append, HM0.out]
      exact hs1.mod (S := [w.heap.size]) ((Mod.refl _ _).setCell _ _ (by simp)) (fun k hk hm => (hF'n k hk).2.2 (by simpa using hm))
    · rcases List.mem_cons.1 hm with e | e
      · omega
      · have := (HF.out k e).1; omega
  case done =>
    rintro D X V hD hab hc hkR hK
    have hc' := hc.step (X' := []) ((Mod.refl X V).putObj D (.deferred none) (fun _ => hD)) (by simp)
    obtain ⟨v, F, hb, hsl, hf⟩ := hc.own
    have cb := hb.cell 0
    simp at cb
    have HC := Lib.hid hc
    have HC' := Lib.hid hc'
    have HSL := Lib.hid hsl
    have HF := Lib.hid hf
    clear hc hc' hb hsl hf hab hkR
    gi_wp2
    refine ⟨by simp, .inl ⟨_, _, rfl, run_takeDeferred hK, ?_⟩⟩
    refine ⟨_, results_tmp rfl _ _ _, _, rfl, F, ?_, HC'.out.mod, fun k hk => ?_⟩
    · have h1 := HSL.out.mod (S := X) ((Mod.refl X V).putObj D (.deferred none) (fun _ => hD)) (fun k hk => (HF.out k hk).2.1)
      rw [List.length_map]; exact h1
    · have h1 := (HF.out k hk).1
      have h2 := HC.out.bB
      omega
  case stop => exact fun _ _ _ _ _ _ _ _ h _ _ => h.elim
theorem collect_c {g : Nat} {lb : Array Value} {R : List Nat} {L : List Int} {w : World} (hs : Seq Try.prog g lb ei R L w) (n : Int) (hn2 : n ≤ 9223372036854775807) (hlen : (tk L n).length ≤ 100000) :
    Calls Try.prog 25 #[.func (.func g) #[] lb, .int .i64 n] w fun e w' => ∃ v', e = .returned v' ∧ NewV 27 w ((tk L n).map ei) w' v' := collect_v (.func g lb) hs n hn2 hlen
end Go.Proofs.Ytlkakkgmjihlaaa

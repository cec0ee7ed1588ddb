/- Slices of one-cell elements: 'Rv w v l F': the value v is a slice whose cells are l, in the block that F lists; 'NewV': a new one; append of any source. -/
import Derived.Test.YtkldjllnnbablaaDoorSl
set_option linter.unusedVariables false
set_option linter.unusedSimpArgs false
namespace Go.Proofs.YtkldjllnnbablaaDoor
open Go.RowKit

/-- v is a slice that reads as l; its cells lie in a block of F. -/
def Rv (w : World) (v : Value) (l : List Value) (F : List Nat) : Prop :=
  ∃ A cap, v = .slice A l.length cap ∧ l.length ≤ cap ∧ (0 < l.length → ∃ b off, A = some ⟨b, off, none⟩ ∧ b ∈ F ∧ ∀ i c, l[i]? = some c → w.cell? ⟨b, off + i, none⟩ = some c)

theorem Rv.keep {w w' : World} {v : Value} {l : List Value} {F : List Nat} (h : Rv w v l F) (m : Keep F w w') : Rv w' v l F := by
  obtain ⟨A, cap, e, hc, hr⟩ := h
  refine ⟨A, cap, e, hc, fun h0 => ?_⟩
  obtain ⟨b, off, e1, hb, hcell⟩ := hr h0
  exact ⟨b, off, e1, hb, fun i c hi => (World.cell?_of_block (m b hb)).trans (hcell i c hi)⟩
theorem Rv.lt {w : World} {v : Value} {l : List Value} {F : List Nat} (h : Rv w v l F) : ∃ F', Rv w v l F' ∧ ∀ k ∈ F', k < w.heap.size ∧ k ∈ F := by
  obtain ⟨A, cap, e, hc, hr⟩ := h
  rcases Nat.eq_zero_or_pos l.length with h0 | h0
  · exact ⟨[], ⟨A, cap, e, hc, fun h => by omega⟩, by simp⟩
  · obtain ⟨b, off, e1, hb, hcell⟩ := hr h0
    refine ⟨[b], ⟨A, cap, e, hc, fun _ => ⟨b, off, e1, by simp, hcell⟩⟩, fun k hk => ?_⟩
    simp at hk; subst hk
    exact ⟨World.block_lt_of_cell? w _ (hcell 0 l[0] (List.getElem?_eq_getElem h0)), hb⟩
/-- Steps that leave the blocks as they were. -/
theorem Rv.mod {S : List Nat} {w w' : World} {v : Value} {l : List Value} {F : List Nat} (h : Rv w v l F) (m : Mod S w w') (hd : ∀ k ∈ F, k ∉ S) : Rv w' v l F := by
  obtain ⟨F', h', hF⟩ := h.lt
  have h2 := h'.keep (m.keep (X := F') (fun k hk => ⟨(hF k hk).1, hd k (hF k hk).2⟩))
  obtain ⟨A, cap, e, hc, hr⟩ := h2
  refine ⟨A, cap, e, hc, fun h0 => ?_⟩
  obtain ⟨b, off, e1, hb, hcell⟩ := hr h0
  exact ⟨b, off, e1, (hF b hb).2, hcell⟩
theorem Rv.drewN {w : World} {v : Value} {l : List Value} {F : List Nat} (h : Rv w v l F) (n : Nat) : Rv (w.drewN n) v l F := h
theorem Rv.nil (w : World) : Rv w (.slice none 0 0) [] [] := ⟨none, 0, rfl, Nat.le_refl _, fun h => absurd h (by simp)⟩
theorem Rv.of_sl {w : World} {v : Value} {l : List Value} {n : Nat} {F : List Nat} {E : Nat} (h : Sl w E 1 v n l F) (hn : n = l.length) : Rv w v l F := by
  subst hn
  rcases h.2 with ⟨rfl, h0, rfl⟩ | ⟨g, cap, cur, rfl, rfl, hb, hc, _, _, _⟩
  · rw [List.length_eq_zero_iff.1 h0]; exact Rv.nil w
  · refine ⟨_, cap, rfl, hc, fun h0 => ⟨g, 0, rfl, by simp, fun i c hi => ?_⟩⟩
    have hil : i < l.length := (List.getElem?_eq_some_iff.1 hi).1
    have := (h.at i (by omega)).1
    rw [hi] at this
    simpa using this
theorem Rv.shape {w : World} {v : Value} {l : List Value} {F : List Nat} (h : Rv w v l F) : ∃ A cap, v = .slice A l.length cap ∧ l.length ≤ cap := by
  obtain ⟨A, cap, e, hc, _⟩ := h; exact ⟨A, cap, e, hc⟩
theorem Rv.at {w : World} {A : Option Addr} {n cap : Nat} {l : List Value} {F : List Nat} (h : Rv w (.slice A n cap) l F) (i : Nat) (hi : i < l.length) :
    ∃ b off, A = some ⟨b, off, none⟩ ∧ w.cell? ⟨b, off + i, none⟩ = some l[i] := by
  obtain ⟨A', cap', e, _, hr⟩ := h
  simp at e
  obtain ⟨rfl, rfl, rfl⟩ := e
  obtain ⟨b, off, e1, hb, hcell⟩ := hr (by omega)
  exact ⟨b, off, e1, hcell i _ (List.getElem?_eq_getElem hi)⟩
/-- An address once for all. -/
theorem Rv.addr {w : World} {A : Option Addr} {n cap : Nat} {l : List Value} {F : List Nat} (h : Rv w (.slice A n cap) l F) (h0 : 0 < l.length) :
    ∃ b off, A = some ⟨b, off, none⟩ ∧ b ∈ F ∧ ∀ i, (hi : i < l.length) → w.cell? ⟨b, off + i, none⟩ = some l[i] := by
  obtain ⟨A', cap', e, _, hr⟩ := h
  simp at e
  obtain ⟨rfl, rfl, rfl⟩ := e
  obtain ⟨b, off, e1, hb, hcell⟩ := hr h0
  exact ⟨b, off, e1, hb, fun i hi => hcell i _ (List.getElem?_eq_getElem hi)⟩
theorem Rv.len {w : World} {A : Option Addr} {n cap : Nat} {l : List Value} {F : List Nat} (h : Rv w (.slice A n cap) l F) : n = l.length ∧ n ≤ cap := by
  obtain ⟨A', cap', e, hc, _⟩ := h
  simp at e
  exact ⟨e.2.1, by omega⟩
/-- Cut at its head: the address as the model gives it. -/
theorem Rv.drop {w : World} {A : Option Addr} {n cap : Nat} {l : List Value} {F : List Nat} (h : Rv w (.slice A n cap) l F) (k : Nat) (hk : k ≤ n) (A' : Option Addr)
    (hA : k < n → A' = A.map (·.add k)) : Rv w (.slice A' (n - k) (cap - k)) (l.drop k) F := by
  obtain ⟨hn, hc⟩ := h.len
  subst hn
  refine ⟨A', cap - k, by rw [List.length_drop], by rw [List.length_drop]; omega, fun h0 => ?_⟩
  rw [List.length_drop] at h0
  obtain ⟨b, off, rfl, hb, hcell⟩ := h.addr (by omega)
  refine ⟨b, off + k, ?_, hb, fun i c hi => ?_⟩
  · rw [hA (by omega)]; simp [Addr.add]
  · rw [List.getElem?_drop] at hi
    have hil := (List.getElem?_eq_some_iff.1 hi)
    rw [Nat.add_assoc, hcell (k + i) hil.1, hil.2]
theorem Rv.take {w : World} {A : Option Addr} {n cap : Nat} {l : List Value} {F : List Nat} (h : Rv w (.slice A n cap) l F) (k : Nat) (hk : k ≤ n) : Rv w (.slice A k cap) (l.take k) F := by
  obtain ⟨hn, hc⟩ := h.len
  subst hn
  refine ⟨A, cap, by rw [List.length_take]; congr 1; omega, by rw [List.length_take]; omega, fun h0 => ?_⟩
  rw [List.length_take] at h0
  obtain ⟨b, off, rfl, hb, hcell⟩ := h.addr (by omega)
  refine ⟨b, off, rfl, hb, fun i c hi => ?_⟩
  rw [List.getElem?_take] at hi
  split at hi
  · have hil := (List.getElem?_eq_some_iff.1 hi)
    rw [hcell i hil.1, hil.2]
  · simp at hi
/-- As a source of cells. -/
theorem Rv.src {w : World} {A : Option Addr} {n cap : Nat} {l : List Value} {F : List Nat} (h : Rv w (.slice A n cap) l F) : 0 < n → ∃ a, A = some a ∧ ∀ j u, l[j]? = some u → w.cell? (a.add j) = some u := by
  intro h0
  obtain ⟨hn, hc⟩ := h.len
  obtain ⟨b, off, rfl, hb, hcell⟩ := h.addr (by omega)
  refine ⟨_, rfl, fun j u hu => ?_⟩
  have hj := List.getElem?_eq_some_iff.1 hu
  have e : ((⟨b, off, none⟩ : Addr).add j) = ⟨b, off + j, none⟩ := by unfold Addr.add; split <;> simp_all
  rw [e, hcell j hj.1, hj.2]

/-- append of any source: nil, empty or not. -/
theorem run_append_slz {P : Program} (w : World) (t ty e : TypeId) (i : TypeInfo) (z : Value) (size bytes : Nat) (ht : P.underlying t = some (.slice e)) (hi : P.info? e = some i) (hz : i.zero = some z)
    (hsize : i.size = size) (hby : i.bytes = bytes) (hzs : z.cells.size = size) (hsz : 0 < size)
    (v : Value) (n : Nat) (xs : List Value) (F : List Nat) (hown : Sl w e size v n xs F)
    (A : Option Addr) (m c : Nat) (news : List Value) (hl : news.length = m * size) (hnews : 0 < m → ∃ a, A = some a ∧ ∀ j u, news[j]? = some u → w.cell? (a.add j) = some u) (h1 : ∀ u ∈ news, u.oneCell' = true)
    (h63 : n + m ≤ maxLen) (hbytes : (n + m) * bytes ≤ 140737488355328) :
    ∃ v' w' F', (Builtin.append_ #[t, t] ty #[v, .slice A m c]).run P w = .ok v' w' ∧ Sl w' e size v' (n + m) (xs ++ news) F' ∧ Mod F w w' ∧ (∀ k ∈ F', k ∈ F ∨ w.heap.size ≤ k) := by
  rcases Nat.eq_zero_or_pos m with h0 | h0
  · subst h0
    have hn : news = [] := List.eq_nil_of_length_eq_zero (by simpa using hl)
    subst hn
    have hc0 : ∀ (a : Addr) (j : Nat) (u : Value), ([] : List Value)[j]? = some u → w.cell? (a.add j) = some u := by intro a j u hu; simp at hu
    rcases A with _ | a
    · refine ⟨v, w, F, ?_, by simpa using hown, Mod.refl _ _, fun k hk => .inl hk⟩
      rcases hown.2 with ⟨rfl, rfl, _⟩ | ⟨g, cap, cur, rfl, _, _, hnc, _⟩
      · simp [Builtin.append_, run_underlying ht, sizeOf, typeInfo, hi, Builtin.lenOf, Builtin.firstCells]
      · simp [Builtin.append_, run_underlying ht, sizeOf, typeInfo, hi, Builtin.lenOf, Builtin.firstCells, hnc, storeCells]
    · rcases hown.2 with ⟨rfl, rfl, rfl⟩ | ⟨g, cap, cur, rfl, rfl, hg, hnc, hcm, hcs, htake⟩
      · obtain ⟨v', w', hr, h2, h3, h4⟩ := run_append_own (P := P) w w.heap.size t ty e i z size bytes ht hi hz hsize hby hzs hsz _ 0 xs ⟨hown.1, .inl ⟨rfl, rfl⟩⟩ a 0 c [] hl (hc0 a) h1 h63 hbytes (Nat.le_refl _)
        have hv := h4.2 ⟨rfl, rfl⟩
        subst hv
        exact ⟨_, w', [], hr, ⟨h2.1, .inl ⟨rfl, rfl, rfl⟩⟩, (Mod.refl _ _).grown h3 (fun k hk => by simp [Value.ownBlock] at hk), by simp⟩
      · obtain ⟨w', hr, h2, h3⟩ := run_append_fits (P := P) w 0 t ty e i size ht hi hsize g n cap xs hown.own a 0 c [] hl (hc0 a) h1 hnc
        rcases h2.2 with ⟨hv, _⟩ | ⟨g', cap', cur', hv, _, hg', r⟩
        · simp at hv
        · refine ⟨_, w', [g'], hr, ⟨h2.1, .inr ⟨g', cap', cur', hv, rfl, hg', r⟩⟩, (Mod.refl _ _).grown h3 (fun k hk _ => by simp at hk; simp [hk]), fun k hk => ?_⟩
          simp at hv
          simp at hk
          subst hk
          exact .inl (by simp [hv.1])
  · obtain ⟨a, rfl, hn⟩ := hnews h0
    exact run_append_sl w t ty e i z size bytes ht hi hz hsize hby hzs hsz v n xs F hown a m c news h0 hl hn h1 h63 hbytes

theorem wpList_append_slz {P : Program} (w : World) {ops : Array Oper} {rest : List Oper} {o : Oper} {a : Act} {Q : Exit → Act → World → Prop} (hgd : o.guard = none) (s x : Operand) (t : TypeId)
    (ho : o.op = .call { callee := .builtin .append, args := #[s, x], argTypes := #[t, t] })
    (e : TypeId) (i : TypeInfo) (z : Value) (size bytes : Nat) (ht : P.underlying t = some (.slice e)) (hi : P.info? e = some i) (hz : i.zero = some z)
    (hsize : i.size = size) (hby : i.bytes = bytes) (hzs : z.cells.size = size) (hsz : 0 < size)
    (v : Value) (n : Nat) (xs : List Value) (F : List Nat) (hs : a.eval s = v) (hown : Sl w e size v n xs F)
    (A : Option Addr) (m c : Nat) (news : List Value) (hx : a.eval x = .slice A m c) (hl : news.length = m * size) (hnews : 0 < m → ∃ a, A = some a ∧ ∀ j u, news[j]? = some u → w.cell? (a.add j) = some u) (h1 : ∀ u ∈ news, u.oneCell' = true)
    (h63 : n + m ≤ maxLen) (hbytes : (n + m) * bytes ≤ 140737488355328)
    (h : ∀ v' w' F', Sl w' e size v' (n + m) (xs ++ news) F' → Mod F w w' → (∀ k ∈ F', k ∈ F ∨ w.heap.size ≤ k) → wpList P ops Q rest (a.put o.dst v') w') : wpList P ops Q (o :: rest) a w := by
  refine wpList_plain hgd fun K hK => ?_
  obtain ⟨v', w', F', hr, h2, h3, h4⟩ := run_append_slz (P := P) w t o.type e i z size bytes ht hi hz hsize hby hzs hsz v n xs F hown A m c news hl hnews h1 h63 hbytes
  unfold Oper.wp execOp
  simp only [ho, resolve, invoke, builtin, Sem.run_bind, Sem.run_pure, Result.andThen_ok, List.map_toArray, List.map_cons, List.map_nil, hs, hx, hr]
  exact hK _ _ (h v' w' F' h2 h3 h4)


/-- v' is a new slice of the cells xs, of element type E; nothing that lay has turned. -/
def NewV (E : Nat) (w : World) (xs : List Value) (w' : World) (v' : Value) : Prop := ∃ F', Sl w' E 1 v' xs.length xs F' ∧ Mod [] w w' ∧ ∀ k ∈ F', w.heap.size ≤ k

section
variable {E : Nat}
theorem NewV.rv {w w' : World} {l : List Value} {v' : Value} (h : NewV E w l w' v') : ∃ F, Rv w' v' l F ∧ ∀ k ∈ F, w.heap.size ≤ k := by
  obtain ⟨F, hs, _, hf⟩ := h; exact ⟨F, Rv.of_sl hs rfl, hf⟩
theorem NewV.mod {w w' : World} {l : List Value} {v' : Value} (h : NewV E w l w' v') : Mod [] w w' := by
  obtain ⟨F, _, hm, _⟩ := h; exact hm
theorem NewV.shape {w w' : World} {l : List Value} {v' : Value} (h : NewV E w l w' v') : ∃ A cap, v' = .slice A l.length cap := by
  obtain ⟨F, hs, _, _⟩ := h; obtain ⟨A, cap, e, _⟩ := hs.shape; exact ⟨A, cap, e⟩
theorem NewV.after {w0 w w' : World} {l : List Value} {v' : Value} (h : NewV E w l w' v') (m : Mod [] w0 w) : NewV E w0 l w' v' := by
  obtain ⟨F, hs, hm, hf⟩ := h; exact ⟨F, hs, m.trans hm (by simp), fun k hk => Nat.le_trans m.size (hf k hk)⟩
theorem NewV.later {w w1 w2 : World} {l : List Value} {v : Value} (h : NewV E w l w1 v) (m : Mod [] w1 w2) : NewV E w l w2 v := by
  obtain ⟨F, hs, hm, hf⟩ := h; exact ⟨F, hs.mod m (by simp), hm.trans m (by simp), hf⟩
theorem NewV.nil (E : Nat) {w w' : World} (m : Mod [] w w') : NewV E w [] w' (.slice none 0 0) := ⟨[], Sl.nil _ _ _, m, by simp⟩
/-- Behind an empty literal. -/
theorem NewV.of_empty {w w1 : World} {l : List Value} {n : Nat} {v' : Value} {F' : List Nat} (hs1 : Sl w1 E 1 v' (0 + n) ([] ++ l) F') (hn : l.length = n) (hm1 : Mod [w.heap.size] (w.alloc (.cells #[] E)) w1)
    (hf1 : ∀ k ∈ F', k ∈ [w.heap.size] ∨ (w.alloc (.cells #[] E)).heap.size ≤ k) : NewV E w l w1 v' := by
  refine ⟨F', by rw [hn]; simpa using hs1, Mod.trans (S' := [w.heap.size]) ((Mod.refl [] _).alloc _) hm1 (by intro i hi hm; simp at hm; omega), fun k hk => ?_⟩
  rcases hf1 k hk with h1 | h1
  · simp at h1; omega
  · simp at h1; omega
/-- Behind what was new. -/
theorem NewV.app {w w1 w0 w2 : World} {l l2 : List Value} {n m : Nat} {v' : Value} {F F' : List Nat} (hm : Mod [] w w1) (hf : ∀ k ∈ F, w.heap.size ≤ k) (hn : l.length = n) (hm2 : l2.length = m) (m0 : Mod [] w1 w0)
    (hs : Sl w2 E 1 v' (n + m) (l ++ l2) F') (hm1 : Mod F w0 w2) (hf1 : ∀ k ∈ F', k ∈ F ∨ w0.heap.size ≤ k) : NewV E w (l ++ l2) w2 v' := by
  refine ⟨F', ?_, (hm.trans m0 (by simp)).trans hm1 (fun i hi hx => by have := hf i hx; omega), fun k hk => ?_⟩
  · rw [List.length_append, hn, hm2]; exact hs
  · rcases hf1 k hk with h | h
    · exact hf k h
    · have := hm.size; have := m0.size; omega
end
end Go.Proofs.YtkldjllnnbablaaDoor

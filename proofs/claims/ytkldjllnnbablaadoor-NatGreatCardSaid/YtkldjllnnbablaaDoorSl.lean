/- Slices of the call's own: 'Sl w E size v n xs F': the value v is a slice of n elements of type E, 'size' cells each, whose cells are xs; F lists its block. Laws on append, make, reslicing, stores. -/
import Derived.Test.YtkldjllnnbablaaDoorCommon
set_option linter.unusedVariables false
set_option linter.unusedSimpArgs false
namespace Go.Proofs.YtkldjllnnbablaaDoor
open Go.RowKit

/-- v is nil, or begins at the head of block g (F = [g]), whose first cells are xs. -/
def Sl (w : World) (E size : Nat) (v : Value) (n : Nat) (xs : List Value) (F : List Nat) : Prop :=
  xs.length = n * size ∧
  ((v = .slice none 0 0 ∧ n = 0 ∧ F = []) ∨
   ∃ g cap cur, v = .slice (some ⟨g, 0, none⟩) n cap ∧ F = [g] ∧ Blk w g cur E ∧ n ≤ cap ∧ cap ≤ maxLen ∧ cur.size = cap * size ∧ cur.toList.take (n * size) = xs)

section
variable {w : World} {E size : Nat} {v : Value} {n : Nat} {xs : List Value} {F : List Nat}

theorem Sl.nil (w : World) (E size : Nat) : Sl w E size (.slice none 0 0) 0 [] [] := ⟨by simp, .inl ⟨rfl, rfl, rfl⟩⟩

theorem Sl.own (h : Sl w E size v n xs F) : w.ownsRow 0 E size v n xs := by
  refine ⟨h.1, ?_⟩
  rcases h.2 with ⟨a, b, _⟩ | ⟨g, cap, cur, a, _, hb, r⟩
  · exact .inl ⟨a, b⟩
  · exact .inr ⟨g, cap, cur, a, Nat.zero_le _, hb, r⟩

theorem Sl.ownBlock (h : Sl w E size v n xs F) : ∀ k, v.ownBlock = some k → k ∈ F := by
  intro k hk
  rcases h.2 with ⟨a, _, _⟩ | ⟨g, cap, cur, a, b, _⟩
  · subst a; simp [Value.ownBlock] at hk
  · subst a; subst b; simp [Value.ownBlock] at hk; simp [hk]

theorem Sl.lt (h : Sl w E size v n xs F) : ∀ k ∈ F, k < w.heap.size := by
  intro k hk
  rcases h.2 with ⟨_, _, c⟩ | ⟨g, cap, cur, _, b, hb, _⟩
  · subst c; simp at hk
  · subst b; simp at hk; subst hk; exact hb.lt

theorem Sl.mod {S : List Nat} {w' : World} (h : Sl w E size v n xs F) (m : Mod S w w') (hd : ∀ k ∈ F, k ∉ S) : Sl w' E size v n xs F := by
  refine ⟨h.1, ?_⟩
  rcases h.2 with a | ⟨g, cap, cur, a, b, hb, r⟩
  · exact .inl a
  · exact .inr ⟨g, cap, cur, a, b, hb.mod m (hd g (by simp [b])), r⟩

theorem Sl.keep {w' : World} (h : Sl w E size v n xs F) (m : Keep F w w') : Sl w' E size v n xs F := by
  refine ⟨h.1, ?_⟩
  rcases h.2 with a | ⟨g, cap, cur, a, b, hb, r⟩
  · exact .inl a
  · exact .inr ⟨g, cap, cur, a, b, hb.keep m (by simp [b]), r⟩

theorem Sl.shape (h : Sl w E size v n xs F) : ∃ a cap, v = .slice a n cap ∧ n ≤ cap := by
  rcases h.2 with ⟨a, b, _⟩ | ⟨g, cap, cur, a, _, _, c, _⟩
  · exact ⟨none, 0, by rw [a, b], by omega⟩
  · exact ⟨_, cap, a, c⟩

theorem Sl.pos (h : Sl w E size v n xs F) (hn : 0 < n) : ∃ g cap, v = .slice (some ⟨g, 0, none⟩) n cap ∧ F = [g] ∧ n ≤ cap := by
  rcases h.2 with ⟨a, b, _⟩ | ⟨g, cap, cur, a, b, _, c, _⟩
  · omega
  · exact ⟨g, cap, a, b, c⟩

theorem Sl.at {g cap : Nat} (h : Sl w E size (.slice (some ⟨g, 0, none⟩) n cap) n xs F) (j : Nat) (hj : j < n * size) : w.cell? ⟨g, j, none⟩ = xs[j]? ∧ w.frozen? ⟨g, j, none⟩ = false ∧ F = [g] := by
  have h1 := h.own
  refine ⟨h1.cellAt j hj, h1.frozenAt j, ?_⟩
  rcases h.2 with ⟨a, _, _⟩ | ⟨g', cap', cur, a, b, _⟩
  · simp at a
  · simp only [Value.slice.injEq, Option.some.injEq, Addr.mk.injEq, and_true, true_and] at a
    rw [b, a.1]

theorem Sl.block {g cap : Nat} (h : Sl w E size (.slice (some ⟨g, 0, none⟩) n cap) n xs F) : F = [g] := by
  rcases h.2 with ⟨a, _, _⟩ | ⟨g', cap', cur, a, b, _⟩
  · simp at a
  · simp only [Value.slice.injEq, Option.some.injEq, Addr.mk.injEq, and_true, true_and] at a
    rw [b, a.1]

/-- A store of one cell. -/
theorem Sl.set {g cap : Nat} (h : Sl w E size (.slice (some ⟨g, 0, none⟩) n cap) n xs F) (j : Nat) (u : Value) : Sl (w.setCell ⟨g, j, none⟩ u) E size (.slice (some ⟨g, 0, none⟩) n cap) n (xs.set j u) F := by
  refine ⟨by simpa using h.1, ?_⟩
  rcases h.2 with ⟨a, _, _⟩ | ⟨g', cap', cur, a, b, hb, c1, c2, c3, c4⟩
  · simp at a
  · simp only [Value.slice.injEq, Option.some.injEq, Addr.mk.injEq, and_true, true_and] at a
    obtain ⟨rfl, rfl⟩ := a
    exact .inr ⟨g, cap, _, rfl, b, hb.set j u, c1, c2, by simpa using c3, by rw [Array.toList_setIfInBounds, ← c4, List.take_set]⟩

/-- Resliced: the first k. -/
theorem Sl.take {g cap : Nat} (h : Sl w E size (.slice (some ⟨g, 0, none⟩) n cap) n xs F) (k : Nat) (hk : k ≤ n) : Sl w E size (.slice (some ⟨g, 0, none⟩) k cap) k (xs.take (k * size)) F := by
  have hks : k * size ≤ n * size := Nat.mul_le_mul_right _ hk
  refine ⟨by rw [List.length_take, h.1]; omega, ?_⟩
  rcases h.2 with ⟨a, _, _⟩ | ⟨g', cap', cur, a, b, hb, c1, c2, c3, c4⟩
  · simp at a
  · simp only [Value.slice.injEq, Option.some.injEq, Addr.mk.injEq, and_true, true_and] at a
    obtain ⟨rfl, rfl⟩ := a
    exact .inr ⟨g, cap, cur, rfl, b, hb, by omega, c2, c3, by rw [← c4, List.take_take]; congr 1; omega⟩

theorem Sl.made (w : World) (E size n : Nat) (z : Array Value) (hm : n ≤ maxLen) : Sl (w.alloc (.cells (madeCells z (n * size)) E)) E size (.slice (some ⟨w.heap.size, 0, none⟩) n n) n (madeCells z (n * size)).toList [w.heap.size] :=
  ⟨by simp [size_madeCells], .inr ⟨_, n, _, rfl, rfl, Blk.new _ _ _, Nat.le_refl _, hm, size_madeCells _ _, by rw [List.take_of_length_le]; simp [size_madeCells]⟩⟩

/-- A slice literal, boxed or not: a new block known whole. -/
theorem Sl.lit (w : World) (E size n : Nat) (cs : Array Value) (hm : n ≤ maxLen) (hs : cs.size = n * size) : Sl (w.alloc (.cells cs E)) E size (.slice (some ⟨w.heap.size, 0, none⟩) n n) n cs.toList [w.heap.size] :=
  ⟨by simpa using hs, .inr ⟨_, n, _, rfl, rfl, Blk.new _ _ _, Nat.le_refl _, hm, hs, by rw [List.take_of_length_le]; simp [hs]⟩⟩
end

/-- append of m ≥ 1 elements that lie elsewhere. -/
theorem run_append_sl {P : Program} (w : World) (t ty e : TypeId) (i : TypeInfo) (z : Value) (size bytes : Nat) (ht : P.underlying t = some (.slice e)) (hi : P.info? e = some i) (hz : i.zero = some z)
    (hsize : i.size = size) (hby : i.bytes = bytes) (hzs : z.cells.size = size) (hsz : 0 < size)
    (v : Value) (n : Nat) (xs : List Value) (F : List Nat) (hown : Sl w e size v n xs F)
    (a : Addr) (m c : Nat) (news : List Value) (hm : 0 < m) (hl : news.length = m * size) (hnews : ∀ j u, news[j]? = some u → w.cell? (a.add j) = some u) (h1 : ∀ u ∈ news, u.oneCell' = true)
    (h63 : n + m ≤ maxLen) (hbytes : (n + m) * bytes ≤ 140737488355328) :
    ∃ v' w' F', (Builtin.append_ #[t, t] ty #[v, .slice (some a) m c]).run P w = .ok v' w' ∧ Sl w' e size v' (n + m) (xs ++ news) F' ∧ Mod F w w' ∧ (∀ k ∈ F', k ∈ F ∨ w.heap.size ≤ k) := by
  rcases hown.2 with ⟨rfl, rfl, rfl⟩ | ⟨g, cap, cur, rfl, rfl, hg, hnc, hcm, hcs, htake⟩
  · obtain ⟨v', w', hr, h2, h3, h4⟩ := run_append_own (P := P) w w.heap.size t ty e i z size bytes ht hi hz hsize hby hzs hsz _ 0 xs (by
      refine ⟨hown.1, .inl ⟨rfl, rfl⟩⟩) a m c news hl hnews h1 h63 hbytes (Nat.le_refl _)
    rcases h2.2 with ⟨hv, hn⟩ | ⟨g, cap, cur, hv, hb, hg, r⟩
    · omega
    · refine ⟨v', w', [g], hr, ⟨h2.1, .inr ⟨g, cap, cur, hv, rfl, hg, r⟩⟩, (Mod.refl _ _).grown h3 (fun k hk => by simp [Value.ownBlock] at hk), fun k hk => ?_⟩
      simp at hk; subst hk; exact .inr hb
  · by_cases hroom : n + m ≤ cap
    · obtain ⟨w', hr, h2, h3⟩ := run_append_fits (P := P) w 0 t ty e i size ht hi hsize g n cap xs hown.own a m c news hl hnews h1 hroom
      rcases h2.2 with ⟨hv, _⟩ | ⟨g', cap', cur', hv, _, hg', r⟩
      · simp at hv
      · refine ⟨_, w', [g'], hr, ⟨h2.1, .inr ⟨g', cap', cur', hv, rfl, hg', r⟩⟩, (Mod.refl _ _).grown h3 (fun k hk _ => by simp at hk; simp [hk]), fun k hk => ?_⟩
        simp at hv
        simp at hk
        subst hk
        exact .inl (by simp [hv.1])
    · have holds : ∀ j u, xs[j]? = some u → w.cell? ((⟨g, 0, none⟩ : Addr).add j) = some u := hown.own.cells (g := g) rfl
      have hsmall : n + m ≤ 9223372036854775807 := by simp only [maxLen] at h63; omega
      subst hsize
      subst hby
      have hlen : (xs ++ news).length = (n + m) * i.size := by rw [List.length_append, hown.1, hl, Nat.add_mul]
      have hr := run_append_grow (P := P) w t ty e i z ht hi hz ⟨g, 0, none⟩ n cap xs hown.1 holds a m c news hl hnews (by omega) (by omega) (growslice_fits (by omega) hbytes)
      refine ⟨_, _, [w.heap.size], hr, ⟨hlen, .inr ⟨w.heap.size, _, _, rfl, rfl, heap_alloc_new w.drew _, grownCap_ge w (n + m) cap e, grownCap_le_maxLen w (n + m) cap e h63, ?_, ?_⟩⟩, ((Mod.refl _ _).drew).alloc _, fun k hk => by simp at hk; subst hk; exact .inr (Nat.le_refl _)⟩
      · have hge := grownCap_ge w (n + m) cap e
        simp only [Array.size_append, List.size_toArray, size_zeroCells, hzs, hown.1, hl, ← Nat.add_mul]
        congr 1
        omega
      · simp only [Array.toList_append, List.append_assoc]
        rw [← List.append_assoc, ← hlen]
        exact List.take_left

theorem wp_append_sl {P : Program} (w : World) {o : Oper} {a : Act} {K : Act → World → Prop} {Q : Exit → Act → World → Prop} (s x : Operand) (t : TypeId)
    (ho : o.op = .call { callee := .builtin .append, args := #[s, x], argTypes := #[t, t] })
    (e : TypeId) (i : TypeInfo) (z : Value) (size bytes : Nat) (ht : P.underlying t = some (.slice e)) (hi : P.info? e = some i) (hz : i.zero = some z)
    (hsize : i.size = size) (hby : i.bytes = bytes) (hzs : z.cells.size = size) (hsz : 0 < size)
    (v : Value) (n : Nat) (xs : List Value) (F : List Nat) (hs : a.eval s = v) (hown : Sl w e size v n xs F)
    (ad : Addr) (m c : Nat) (news : List Value) (hm : 0 < m) (hx : a.eval x = .slice (some ad) m c) (hl : news.length = m * size) (hnews : ∀ j u, news[j]? = some u → w.cell? (ad.add j) = some u) (h1 : ∀ u ∈ news, u.oneCell' = true)
    (h63 : n + m ≤ maxLen) (hbytes : (n + m) * bytes ≤ 140737488355328)
    (h : ∀ v' w' F', Sl w' e size v' (n + m) (xs ++ news) F' → Mod F w w' → (∀ k ∈ F', k ∈ F ∨ w.heap.size ≤ k) → K (a.put o.dst v') w') : o.wp P a w K Q := by
  obtain ⟨v', w', F', hr, h2, h3, h4⟩ := run_append_sl (P := P) w t o.type e i z size bytes ht hi hz hsize hby hzs hsz v n xs F hown ad m c news hm hl hnews h1 h63 hbytes
  unfold Oper.wp execOp
  simp only [ho, resolve, invoke, builtin, Sem.run_bind, Sem.run_pure, Result.andThen_ok, List.map_toArray, List.map_cons, List.map_nil, hs, hx, hr]
  exact h v' w' F' h2 h3 h4

theorem wpList_append_sl {P : Program} (w : World) {ops : Array Oper} {rest : List Oper} {o : Oper} {a : Act} {Q : Exit → Act → World → Prop} (hgd : o.guard = none) (s x : Operand) (t : TypeId)
    (ho : o.op = .call { callee := .builtin .append, args := #[s, x], argTypes := #[t, t] })
    (e : TypeId) (i : TypeInfo) (z : Value) (size bytes : Nat) (ht : P.underlying t = some (.slice e)) (hi : P.info? e = some i) (hz : i.zero = some z)
    (hsize : i.size = size) (hby : i.bytes = bytes) (hzs : z.cells.size = size) (hsz : 0 < size)
    (v : Value) (n : Nat) (xs : List Value) (F : List Nat) (hs : a.eval s = v) (hown : Sl w e size v n xs F)
    (ad : Addr) (m c : Nat) (news : List Value) (hm : 0 < m) (hx : a.eval x = .slice (some ad) m c) (hl : news.length = m * size) (hnews : ∀ j u, news[j]? = some u → w.cell? (ad.add j) = some u) (h1 : ∀ u ∈ news, u.oneCell' = true)
    (h63 : n + m ≤ maxLen) (hbytes : (n + m) * bytes ≤ 140737488355328)
    (h : ∀ v' w' F', Sl w' e size v' (n + m) (xs ++ news) F' → Mod F w w' → (∀ k ∈ F', k ∈ F ∨ w.heap.size ≤ k) → wpList P ops Q rest (a.put o.dst v') w') : wpList P ops Q (o :: rest) a w :=
  wpList_plain hgd fun _ hK => wp_append_sl w s x t ho e i z size bytes ht hi hz hsize hby hzs hsz v n xs F hs hown ad m c news hm hx hl hnews h1 h63 hbytes fun v' w' F' h2 h3 h4 => hK _ _ (h v' w' F' h2 h3 h4)

/-- append as one step of a region that draws its order. -/
theorem step_append_sl {P : Program} {ops : Array Oper} {o : Oper} {a : Act} {w : World} {K : Act → World → Prop} {Q : Exit → Act → World → Prop} {E : Prop}
    (hg : o.guard = none) (s x : Operand) (t : TypeId) (hop : o.op = Op.call { callee := Callee.builtin Builtin.append, args := #[s, x], argTypes := #[t, t] })
    (e : TypeId) (i : TypeInfo) (z : Value) (size bytes : Nat) (ht : P.underlying t = some (.slice e)) (hi : P.info? e = some i) (hz : i.zero = some z)
    (hsize : i.size = size) (hby : i.bytes = bytes) (hzs : z.cells.size = size) (hsz : 0 < size)
    (v : Value) (n : Nat) (xs : List Value) (F : List Nat) (hs : a.eval s = v) (hown : Sl w e size v n xs F)
    (ad : Addr) (m c : Nat) (news : List Value) (hm : 0 < m) (hx : a.eval x = .slice (some ad) m c) (hl : news.length = m * size) (hnews : ∀ j u, news[j]? = some u → w.cell? (ad.add j) = some u) (h1 : ∀ u ∈ news, u.oneCell' = true)
    (h63 : n + m ≤ maxLen) (hbytes : (n + m) * bytes ≤ 140737488355328)
    (h : ∀ v' w' F', Sl w' e size v' (n + m) (xs ++ news) F' → Mod F w w' → (∀ k ∈ F', k ∈ F ∨ w.heap.size ≤ k) → K (a.put o.dst v') w') :
    if Region.wanted o (yielded ops a.tmps) = true then Oper.wp P o a w K Q else E := by
  have hw : Region.wanted o (yielded ops a.tmps) = true := by simp [Region.wanted, hg]
  rw [if_pos hw]
  exact wp_append_sl w s x t hop e i z size bytes ht hi hz hsize hby hzs hsz v n xs F hs hown ad m c news hm hx hl hnews h1 h63 hbytes h

/-! Lists of records, laid flat. -/
def recs {α : Type} (f : α → List Value) (L : List α) : List Value := L.flatMap f

section
variable {α : Type} {f : α → List Value} {m : Nat} (hf : ∀ a, (f a).length = m)
include hf
theorem recs_length (L : List α) : (recs f L).length = L.length * m := by
  induction L with
  | nil => simp [recs]
  | cons a L ih => unfold recs at *; simp [ih, hf, Nat.add_mul]; omega
theorem recs_get (L : List α) (i j : Nat) (hi : i < L.length) (hj : j < m) : (recs f L)[i * m + j]? = (f L[i])[j]? := by
  induction L generalizing i with
  | nil => simp at hi
  | cons a L ih =>
    unfold recs at *
    rw [List.flatMap_cons]
    cases i with
    | zero =>
      simp only [Nat.zero_mul, Nat.zero_add, List.getElem_cons_zero]
      rw [List.getElem?_append_left (by rw [hf]; exact hj)]
    | succ i =>
      have hi' : i < L.length := by simpa using hi
      rw [List.getElem?_append_right (by rw [hf, Nat.add_mul]; omega), hf]
      have e : (i + 1) * m + j - m = i * m + j := by rw [Nat.add_mul]; omega
      rw [e]
      simpa using ih i hi'
theorem recs_take (L : List α) (k : Nat) : (recs f L).take (k * m) = recs f (L.take k) := by
  induction L generalizing k with
  | nil => simp [recs]
  | cons a L ih =>
    cases k with
    | zero => simp [recs]
    | succ k =>
      unfold recs at *
      rw [List.flatMap_cons, List.take_append, hf, List.take_succ_cons, List.flatMap_cons]
      have e : (k + 1) * m - m = k * m := by rw [Nat.add_mul]; omega
      rw [e, ih, List.take_of_length_le (by rw [hf, Nat.add_mul]; omega)]
/-- Two lists of cells are one if they are one at each cell of each record. -/
theorem recs_ext (L : List α) (xs : List Value) (hl : xs.length = L.length * m) (h : ∀ i j, (hi : i < L.length) → j < m → xs[i * m + j]? = (f L[i])[j]?) : xs = recs f L := by
  apply List.ext_getElem?
  intro p
  by_cases hp : p < L.length * m
  · have hm : 0 < m := by
      cases m with
      | zero => simp at hp
      | succ m => omega
    have hi : p / m < L.length := (Nat.div_lt_iff_lt_mul hm).2 hp
    have hj := Nat.mod_lt p hm
    have e : p / m * m + p % m = p := by rw [Nat.mul_comm]; exact Nat.div_add_mod p m
    have h1 := h (p / m) (p % m) hi hj
    rw [← recs_get hf L (p / m) (p % m) hi hj, e] at h1
    exact h1
  · rw [List.getElem?_eq_none (by omega), List.getElem?_eq_none (by rw [recs_length hf]; omega)]
end
/-- One record of three cells written anew. -/
theorem recs_set3 {α : Type} (f : α → List Value) (hf : ∀ a, (f a).length = 3) (L : List α) (i : Nat) (hi : i < L.length) (a : α) (v0 v1 v2 : Value) (ha : f a = [v0, v1, v2]) :
    (((recs f L).set (i * 3) v0).set (i * 3 + 1) v1).set (i * 3 + 2) v2 = recs f (L.set i a) := by
  have hl := recs_length hf L
  refine recs_ext hf (L.set i a) _ (by simp [hl]) (fun p j hp hj => ?_)
  have hp' : p < L.length := by simpa using hp
  simp only [List.getElem?_set, List.length_set, hl]
  have h0 : i * 3 < L.length * 3 := by omega
  have h1 : i * 3 + 1 < L.length * 3 := by omega
  have h2 : i * 3 + 2 < L.length * 3 := by omega
  by_cases hpi : i = p
  · subst hpi
    simp only [List.getElem_set_self, ha]
    match j, hj with
    | 0, _ => simp [h0]
    | 1, _ => simp [h1]
    | 2, _ => simp [h2]
  · rw [if_neg (by omega), if_neg (by omega), if_neg (by omega), recs_get hf L p j hp' hj]
    simp [List.getElem_set_ne hpi]
/-- One cell of one record. -/
theorem recs_set1 {α : Type} (f : α → List Value) {m : Nat} (hf : ∀ a, (f a).length = m) (L : List α) (i j : Nat) (hi : i < L.length) (hj : j < m) (a : α) (v : Value) (ha : f a = (f L[i]).set j v) :
    (recs f L).set (i * m + j) v = recs f (L.set i a) := by
  have hl := recs_length hf L
  refine recs_ext hf (L.set i a) _ (by simp [hl]) (fun p q hp hq => ?_)
  have hp' : p < L.length := by simpa using hp
  have hlt : i * m + j < L.length * m := by
    have : (i + 1) * m ≤ L.length * m := Nat.mul_le_mul_right _ hi
    rw [Nat.add_mul] at this; omega
  rw [List.getElem?_set, hl]
  by_cases hpi : i = p
  · subst hpi
    simp only [List.getElem_set_self, ha, List.getElem?_set, hf]
    by_cases hjq : j = q
    · subst hjq; simp [hlt, hj]
    · rw [if_neg (by omega), if_neg hjq, recs_get hf L i q hp' hq]
  · have hne : ¬ (i * m + j = p * m + q) := by
      intro e
      have h1 : (i * m + j) / m = (p * m + q) / m := by rw [e]
      have hm : 0 < m := by omega
      rw [Nat.mul_comm i, Nat.mul_comm p, Nat.mul_add_div hm, Nat.mul_add_div hm, Nat.div_eq_of_lt hj, Nat.div_eq_of_lt hq] at h1
      omega
    rw [if_neg hne, recs_get hf L p q hp' hq]
    simp [List.getElem_set_ne hpi]
theorem recs_append {α : Type} (f : α → List Value) (L L' : List α) : recs f (L ++ L') = recs f L ++ recs f L' := by simp [recs]

theorem list_new (w : World) (cs : List Value) (t : TypeId) : ∀ j u, cs[j]? = some u → (w.alloc (.cells cs.toArray t)).cell? ((⟨w.heap.size, 0, none⟩ : Addr).add j) = some u := by
  intro j u hu
  have e : ((⟨w.heap.size, 0, none⟩ : Addr).add j) = ⟨w.heap.size, j, none⟩ := by unfold Addr.add; split <;> simp_all
  rw [e, World.cell?_alloc_new]
  simpa using hu
theorem list_new_at (w : World) (cs : List Value) (t : TypeId) (g : Nat) (hg : g = w.heap.size) : ∀ j u, cs[j]? = some u → (w.alloc (.cells cs.toArray t)).cell? ((⟨g, 0, none⟩ : Addr).add j) = some u := by
  subst hg; exact list_new w cs t
theorem list_new_at_drew (w : World) (cs : List Value) (t : TypeId) (g : Nat) (hg : g = w.heap.size) : ∀ j u, cs[j]? = some u → (w.alloc (.cells cs.toArray t)).drew.cell? ((⟨g, 0, none⟩ : Addr).add j) = some u := by
  subst hg; exact list_new w cs t
theorem list_new_drew (w : World) (cs : List Value) (t : TypeId) : ∀ j u, cs[j]? = some u → (w.alloc (.cells cs.toArray t)).drew.cell? ((⟨w.heap.size, 0, none⟩ : Addr).add j) = some u := list_new w cs t
end Go.Proofs.YtkldjllnnbablaaDoor

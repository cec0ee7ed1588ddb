/- The reference arena as a plain thing, and how it goes with an arena. -/
import Derived.Test.YtlkakkgmjihlaaaQI
import Derived.Test.YtlkakkgmjihlaaaH
set_option linter.unusedVariables false
set_option linter.unusedSimpArgs false
namespace Go.Proofs.Ytlkakkgmjihlaaa
open Go.RowKit

/-- The reference: things (id, thing, how often held), ids to be given again, how many were given anew, the room. -/
structure RM where
  L : List (Nat × Int × Int)
  gone : List Nat
  new : Nat
  room : Nat
def RM.put (m : RM) (x : Int) : RM :=
  match m.gone.getLast? with
  | some id => { m with L := m.L ++ [(id, x, 0)], gone := m.gone.dropLast }
  | none => { m with L := m.L ++ [(m.new + 2, x, 0)], new := m.new + 1 }
def RM.putId (m : RM) : Nat :=
  match m.gone.getLast? with
  | some id => id
  | none => m.new + 2
def RM.drop (m : RM) (i id : Nat) : RM := { m with L := m.L.eraseIdx i, gone := m.gone ++ [id] }
def RM.setAt (m : RM) (i : Nat) (t : Nat × Int × Int) : RM := { m with L := m.L.set i t }

/-- Where an id stands. -/
def AtSpec (L : List (Nat × Int × Int)) (id : Nat) (i : Int) : Prop := (i = -1 ∧ ∀ t ∈ L, t.1 ≠ id) ∨ ∃ k : Nat, i = k ∧ ∃ h : k < L.length, L[k].1 = id

/-- The two go together; K acts have been done. -/
structure Rel (K : Nat) (A : AR Int) (m : RM) : Prop where
  wf : A.WF
  room : A.room = m.room
  len : m.L.length = A.n
  gone : m.gone = A.free
  new : m.new = A.cells.length
  mem : ∀ id x h, (id, x, h) ∈ m.L ↔ 2 ≤ id ∧ A.cells[id - 2]? = some (x, true, h)
  nd : (m.L.map (·.1)).Nodup
  held : ∀ t ∈ m.L, 0 ≤ t.2.2 ∧ t.2.2 ≤ K
  small : A.cells.length ≤ K

theorem AR.put_cells {A : AR Int} (h : A.WF) (x : Int) (j : Nat) : (A.put x).cells[j]? = if j = A.putId - 2 then some (x, true, 0) else A.cells[j]? := by
  by_cases hj : j = A.putId - 2
  · rw [if_pos hj, hj]; exact h.put_at x
  · rw [if_neg hj]
    unfold AR.put AR.putId at *
    cases hl : A.free.getLast? with
    | none =>
      rw [hl] at hj
      simp only at hj ⊢
      rcases Nat.lt_or_ge j A.cells.length with q | q
      · rw [List.getElem?_append_left q]
      · rw [List.getElem?_eq_none (by rw [List.length_append]; simp; omega), List.getElem?_eq_none q]
    | some id =>
      rw [hl] at hj
      simp only at hj ⊢
      rw [List.getElem?_set_ne (by omega)]

section
variable {K : Nat} {A : AR Int} {m : RM}
theorem Rel.putId (h : Rel K A m) : m.putId = A.putId := by unfold RM.putId AR.putId; rw [h.gone, h.new]; cases A.free.getLast? <;> rfl
theorem Rel.at_pos (h : Rel K A m) {k id : Nat} (hk : k < m.L.length) (hid : m.L[k].1 = id) : 2 ≤ id ∧ A.cells[id - 2]? = some (m.L[k].2.1, true, m.L[k].2.2) := by
  have := (h.mem m.L[k].1 m.L[k].2.1 m.L[k].2.2).1 (List.getElem_mem hk)
  rwa [hid] at this
theorem Rel.at_neg (h : Rel K A m) {id : Nat} (hn : ∀ t ∈ m.L, t.1 ≠ id) : ¬ (2 ≤ id ∧ A.live (id - 2)) := by
  rintro ⟨h2, x, k, hx⟩
  exact hn _ ((h.mem id x k).2 ⟨h2, hx⟩) rfl
theorem Rel.more (h : Rel K A m) : Rel (K + 1) A m :=
  ⟨h.wf, h.room, h.len, h.gone, h.new, h.mem, h.nd, fun t ht => ⟨(h.held t ht).1, by have := (h.held t ht).2; omega⟩, by have := h.small; omega⟩

theorem Rel.put (h : Rel K A m) (hn : A.n < A.room) (x : Int) : Rel (K + 1) (A.put x) (m.put x) := by
  have hid := h.putId
  have hL : (m.put x).L = m.L ++ [(A.putId, x, 0)] := by
    rw [← hid]; unfold RM.put RM.putId; cases m.gone.getLast? <;> rfl
  have hlow := h.wf.putId_low
  have hnew := h.wf.putId_new
  have hnot : ∀ t ∈ m.L, t.1 ≠ A.putId := fun t ht e => hnew ⟨t.2.1, t.2.2, by
    have := (h.mem t.1 t.2.1 t.2.2).1 ht
    rw [e] at this; exact this.2⟩
  refine ⟨h.wf.put hn x, ?_, by rw [hL, List.length_append, AR.put_n, h.len]; rfl, ?_, ?_, ?_, ?_, ?_, ?_⟩
  · rw [AR.put_room, h.room]; unfold RM.put; cases m.gone.getLast? <;> rfl
  · unfold RM.put AR.put
    rw [h.gone]
    cases hl : A.free.getLast? with
    | none => rfl
    | some id => rfl
  · unfold RM.put AR.put
    rw [h.gone]
    cases hl : A.free.getLast? with
    | none => simp [h.new]
    | some id => simp [h.new]
  · intro id y k
    rw [hL, List.mem_append, List.mem_singleton, AR.put_cells h.wf, h.mem]
    by_cases e : id = A.putId
    · subst e
      rw [if_pos rfl]
      constructor
      · rintro (q | q)
        · exact absurd q.2 (fun q2 => hnew ⟨y, k, q2⟩)
        · simp only [Prod.mk.injEq, true_and] at q
          exact ⟨hlow, by rw [q.1, q.2]⟩
      · rintro ⟨_, q⟩
        simp at q
        exact .inr (by simp [q.1, q.2])
    · constructor
      · rintro (q | q)
        · refine ⟨q.1, ?_⟩
          rw [if_neg (by have := q.1; omega)]; exact q.2
        · simp only [Prod.mk.injEq] at q; exact absurd q.1 e
      · rintro ⟨q1, q2⟩
        rw [if_neg (by omega)] at q2
        exact .inl ⟨q1, q2⟩
  · rw [hL, List.map_append, List.nodup_append]
    refine ⟨h.nd, by simp, ?_⟩
    intro a ha b hb
    simp at hb
    subst hb
    obtain ⟨t, ht, rfl⟩ := List.mem_map.1 ha
    exact hnot t ht
  · intro t ht
    rw [hL, List.mem_append, List.mem_singleton] at ht
    rcases ht with ht | rfl
    · have := h.held t ht; omega
    · simp; omega
  · have := h.small
    unfold AR.put
    cases A.free.getLast? <;> simp <;> omega

theorem nd_inj {L : List (Nat × Int × Int)} (nd : (L.map (·.1)).Nodup) {i j : Nat} (hi : i < L.length) (hj : j < L.length) (e : L[i].1 = L[j].1) : i = j := by
  have h1 : (L.map (·.1))[i]'(by simpa using hi) = (L.map (·.1))[j]'(by simpa using hj) := by simpa using e
  have h2 := List.pairwise_iff_getElem.1 (List.nodup_iff_pairwise_ne.1 nd)
  rcases Nat.lt_trichotomy i j with q | q | q
  · exact absurd h1 (h2 i j _ _ q)
  · exact q
  · exact absurd h1.symm (h2 j i _ _ q)

theorem mem_setAt {L : List (Nat × Int × Int)} (nd : (L.map (·.1)).Nodup) {k : Nat} (hk : k < L.length) (t : Nat × Int × Int) (a : Nat × Int × Int) : a ∈ L.set k t ↔ a = t ∨ (a ∈ L ∧ a.1 ≠ L[k].1) := by
  constructor
  · intro ha
    obtain ⟨j, hj, rfl⟩ := List.mem_iff_getElem.1 ha
    rw [List.length_set] at hj
    by_cases e : k = j
    · subst e; left; simp
    · right
      rw [List.getElem_set_ne e]
      exact ⟨List.getElem_mem _, fun q => e (nd_inj nd hk hj q.symm)⟩
  · rintro (rfl | ⟨ha, hne⟩)
    · exact List.mem_iff_getElem.2 ⟨k, by simpa using hk, by simp⟩
    · obtain ⟨j, hj, rfl⟩ := List.mem_iff_getElem.1 ha
      have e : k ≠ j := fun e => by subst e; exact hne rfl
      exact List.mem_iff_getElem.2 ⟨j, by simpa using hj, by rw [List.getElem_set_ne e]⟩

theorem Rel.setAt (h : Rel K A m) {k id : Nat} (hk : k < m.L.length) (hid : m.L[k].1 = id) (x h' : Int) (h0 : 0 ≤ h') (h1 : h' ≤ K + 1) : Rel (K + 1) (A.modify id (x, true, h')) (m.setAt k (id, x, h')) := by
  obtain ⟨h2, hx⟩ := h.at_pos hk hid
  have hlt := (List.getElem?_eq_some_iff.1 hx).1
  refine ⟨h.wf.modify h2 ⟨_, _, hx⟩ x h', h.room, by simpa [RM.setAt, AR.modify] using h.len, h.gone, by simpa [RM.setAt, AR.modify] using h.new, ?_, ?_, ?_, by have := h.small; simp [AR.modify]; omega⟩
  · intro i y q
    unfold RM.setAt AR.modify
    simp only
    rw [mem_setAt h.nd hk, hid, h.mem]
    by_cases e : i = id
    · subst e
      rw [List.getElem?_set_self hlt]
      simp [h2, eq_comm]
    · by_cases hi2 : 2 ≤ i
      · rw [List.getElem?_set_ne (by omega)]
        simp [e]
      · simp [e, hi2]
  · unfold RM.setAt
    simp only
    have e : (m.L.set k (id, x, h')).map (·.1) = m.L.map (·.1) := by
      rw [List.map_set]
      apply List.ext_getElem?
      intro j
      rw [List.getElem?_set]
      split
      · next hj =>
        subst hj
        rw [if_pos (by simpa using hk), List.getElem?_map, List.getElem?_eq_getElem hk]
        simp [hid]
      · rfl
    rw [e]; exact h.nd
  · intro t ht
    rw [show (m.setAt k (id, x, h')).L = m.L.set k (id, x, h') from rfl, mem_setAt h.nd hk] at ht
    rcases ht with rfl | ⟨ht, _⟩
    · exact ⟨h0, h1⟩
    · have := h.held t ht; omega

theorem Rel.drop (h : Rel K A m) {k id : Nat} (hk : k < m.L.length) (hid : m.L[k].1 = id) : Rel (K + 1) (A.drop 0 id) (m.drop k id) := by
  obtain ⟨h2, hx⟩ := h.at_pos hk hid
  have hlt := (List.getElem?_eq_some_iff.1 hx).1
  have hpos := h.wf.pos ⟨_, _, hx⟩
  have hmem : ∀ a : Nat × Int × Int, a ∈ m.L.eraseIdx k ↔ a ∈ m.L ∧ a.1 ≠ id := by
    intro a
    rw [List.mem_eraseIdx_iff_getElem]
    constructor
    · rintro ⟨j, hj, hne, rfl⟩
      exact ⟨List.getElem_mem _, fun e => hne (nd_inj h.nd hj hk (e.trans hid.symm))⟩
    · rintro ⟨ha, hne⟩
      obtain ⟨j, hj, rfl⟩ := List.mem_iff_getElem.1 ha
      exact ⟨j, hj, fun e => by subst e; exact hne hid, rfl⟩
  refine ⟨h.wf.drop 0 h2 ⟨_, _, hx⟩ hpos, h.room, ?_, by show m.gone ++ [id] = A.free ++ [id]; rw [h.gone], by simpa [RM.drop, AR.drop] using h.new, ?_, ?_, ?_, by have := h.small; simp [AR.drop]; omega⟩
  · show (m.L.eraseIdx k).length = A.n - 1
    rw [List.length_eraseIdx_of_lt hk, h.len]
  · intro i y q
    show (i, y, q) ∈ m.L.eraseIdx k ↔ _
    rw [hmem, h.mem]
    unfold AR.drop
    simp only
    by_cases e : i = id
    · subst e
      rw [List.getElem?_set_self hlt]
      simp
    · by_cases hi2 : 2 ≤ i
      · rw [List.getElem?_set_ne (by omega)]
        simp [e]
      · simp [hi2]
  · exact h.nd.sublist ((List.eraseIdx_sublist _ _).map _)
  · intro t ht
    have := h.held t ((hmem t).1 ht).1
    omega
end

theorem Rel.start (r : Nat) (hr : r ≤ 1048576) : Rel 0 ⟨[], [], 0, r⟩ ⟨[], [], 0, r⟩ :=
  ⟨⟨hr, Nat.zero_le _, rfl, List.nodup_nil, fun id => by simp⟩, rfl, rfl, rfl, rfl, fun id x h => by simp, List.nodup_nil, by simp, Nat.le_refl _⟩
end Go.Proofs.Ytlkakkgmjihlaaa

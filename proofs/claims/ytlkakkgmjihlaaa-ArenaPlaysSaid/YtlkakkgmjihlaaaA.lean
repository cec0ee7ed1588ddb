/- The arena as a plain thing: its states, and what each method does to them. -/
import Derived.Test.YtlkakkgmjihlaaaSl
set_option linter.unusedVariables false
set_option linter.unusedSimpArgs false
namespace Go.Proofs.Ytlkakkgmjihlaaa
open Go.RowKit

/-- A plain arena: cells (a thing, is it in, how often held), ids to be given again, how many are in, the room. -/
structure AR (α : Type) where
  cells : List (α × Bool × Int)
  free : List Nat
  n : Nat
  room : Nat

def AR.live {α : Type} (A : AR α) (i : Nat) : Prop := ∃ x h, A.cells[i]? = some (x, true, h)

/-- What every arena keeps. -/
structure AR.WF {α : Type} (A : AR α) : Prop where
  room : A.room ≤ 1048576
  len : A.cells.length ≤ A.room
  sum : A.n + A.free.length = A.cells.length
  nodup : A.free.Nodup
  free : ∀ id, id ∈ A.free ↔ 2 ≤ id ∧ ∃ x h, A.cells[id - 2]? = some (x, false, h)

def AR.put {α : Type} (A : AR α) (x : α) : AR α :=
  match A.free.getLast? with
  | some id => { A with cells := A.cells.set (id - 2) (x, true, 0), free := A.free.dropLast, n := A.n + 1 }
  | none => { A with cells := A.cells ++ [(x, true, 0)], n := A.n + 1 }
def AR.putId {α : Type} (A : AR α) : Nat :=
  match A.free.getLast? with
  | some id => id
  | none => A.cells.length + 2
def AR.drop {α : Type} (A : AR α) (z : α) (id : Nat) : AR α :=
  { A with cells := A.cells.set (id - 2) (z, false, 0), free := A.free ++ [id], n := A.n - 1 }
def AR.modify {α : Type} (A : AR α) (id : Nat) (c : α × Bool × Int) : AR α := { A with cells := A.cells.set (id - 2) c }

theorem AR.WF.put {α : Type} {A : AR α} (h : A.WF) (hn : A.n < A.room) (x : α) : (A.put x).WF := by
  have h1 := h.len
  have h2 := h.sum
  unfold AR.put
  cases hl : A.free.getLast? with
  | none =>
    have hf : A.free = [] := by simpa using hl
    have h3 : A.free.length = 0 := by rw [hf]; rfl
    refine ⟨h.room, by simp; omega, by simp; omega, h.nodup, fun id => ?_⟩
    have hfr := h.free id
    rw [hf] at hfr ⊢
    constructor
    · intro hm; simp at hm
    · rintro ⟨h4, y, hh, h5⟩
      simp only [List.getElem?_append] at h5
      split at h5
      · exact hfr.2 ⟨h4, y, hh, h5⟩
      · rename_i h6
        have : id - 2 - A.cells.length = 0 ∨ id - 2 - A.cells.length ≠ 0 := by omega
        rcases this with h7 | h7
        · rw [h7] at h5; simp at h5
        · rw [List.getElem?_eq_none (by simp; omega)] at h5; simp at h5
  | some id0 =>
    have hne : A.free ≠ [] := by intro e; rw [e] at hl; simp at hl
    have hmem : id0 ∈ A.free := List.mem_of_getLast? hl
    obtain ⟨g1, y0, hh0, g2⟩ := (h.free id0).1 hmem
    have hdl : A.free = A.free.dropLast ++ [id0] := by
      have := List.dropLast_concat_getLast hne
      rw [List.getLast?_eq_some_getLast hne] at hl
      simp at hl
      rw [hl] at this
      exact this.symm
    have hlen : A.free.length = A.free.dropLast.length + 1 := by
      have := congrArg List.length hdl
      simpa using this
    have hnd : (A.free.dropLast ++ [id0]).Nodup := hdl ▸ h.nodup
    have hnot : id0 ∉ A.free.dropLast := by
      intro hm
      rw [List.nodup_append] at hnd
      exact hnd.2.2 id0 hm id0 (by simp) rfl
    refine ⟨h.room, by simpa using h1, by simp only [List.length_set]; omega, (List.nodup_append.1 hnd).1, fun id => ?_⟩
    have hfr := h.free id
    rw [hdl] at hfr
    simp only [List.mem_append, List.mem_singleton] at hfr
    by_cases he : id = id0
    · subst he
      constructor
      · intro hm; exact (hnot hm).elim
      · rintro ⟨_, y, hh, h5⟩
        rw [List.getElem?_set_self (by have := (List.getElem?_eq_some_iff.1 g2).1; exact this)] at h5
        simp at h5
    · constructor
      · intro hm
        obtain ⟨h4, y, hh, h5⟩ := hfr.1 (.inl hm)
        exact ⟨h4, y, hh, by rw [List.getElem?_set_ne (by omega)]; exact h5⟩
      · rintro ⟨h4, y, hh, h5⟩
        rw [List.getElem?_set_ne (by omega)] at h5
        rcases hfr.2 ⟨h4, y, hh, h5⟩ with hm | hm
        · exact hm
        · exact (he hm).elim

theorem AR.WF.drop {α : Type} {A : AR α} (h : A.WF) (z : α) {id : Nat} (hid : 2 ≤ id) (hl : A.live (id - 2)) (hn : 0 < A.n) : (A.drop z id).WF := by
  obtain ⟨x, hh, hx⟩ := hl
  have hlt := (List.getElem?_eq_some_iff.1 hx).1
  have h1 := h.len
  have h2 := h.sum
  have hnot : id ∉ A.free := by
    intro hm
    obtain ⟨_, y, hh', h5⟩ := (h.free id).1 hm
    rw [hx] at h5; simp at h5
  unfold AR.drop
  refine ⟨h.room, by simpa using h1, by simp; omega, ?_, fun i => ?_⟩
  · rw [List.nodup_append]
    refine ⟨h.nodup, by simp, fun a ha b hb => ?_⟩
    simp at hb
    subst hb
    intro e; subst e; exact hnot ha
  · simp only [List.mem_append, List.mem_singleton]
    by_cases he : i = id
    · subst he
      constructor
      · intro _
        exact ⟨hid, z, 0, by rw [List.getElem?_set_self hlt]⟩
      · intro _; exact .inr rfl
    · constructor
      · rintro (hm | hm)
        · obtain ⟨h4, y, h', h5⟩ := (h.free i).1 hm
          exact ⟨h4, y, h', by rw [List.getElem?_set_ne (by omega)]; exact h5⟩
        · exact (he hm).elim
      · rintro ⟨h4, y, h', h5⟩
        rw [List.getElem?_set_ne (by omega)] at h5
        exact .inl ((h.free i).2 ⟨h4, y, h', h5⟩)

theorem AR.WF.modify {α : Type} {A : AR α} (h : A.WF) {id : Nat} (hid : 2 ≤ id) (hl : A.live (id - 2)) (x : α) (k : Int) : (A.modify id (x, true, k)).WF := by
  obtain ⟨x0, hh, hx⟩ := hl
  have hlt := (List.getElem?_eq_some_iff.1 hx).1
  refine ⟨h.room, by simpa [AR.modify] using h.len, by simpa [AR.modify] using h.sum, h.nodup, fun i => ?_⟩
  rw [show (A.modify id (x, true, k)).free = A.free from rfl, h.free i]
  unfold AR.modify
  by_cases he : i = id
  · subst he
    rw [List.getElem?_set_self hlt, hx]; simp
  · by_cases h2 : 2 ≤ i
    · rw [List.getElem?_set_ne (by omega)]
    · simp [h2]

/-- Some thing is in: their number is not 0. -/
theorem AR.WF.pos {α : Type} {A : AR α} (h : A.WF) {i : Nat} (hl : A.live i) : 0 < A.n := by
  obtain ⟨x, hh, hx⟩ := hl
  have hlt := (List.getElem?_eq_some_iff.1 hx).1
  have hsub : A.free.length ≤ ((List.range A.cells.length).erase i).length := by
    have hmap : (A.free.map (· - 2)).Nodup := by
      rw [List.nodup_iff_pairwise_ne, List.pairwise_map]
      refine (List.nodup_iff_pairwise_ne.1 h.nodup).imp_of_mem ?_
      intro a b ha hb hab
      have h1 := ((h.free a).1 ha).1
      have h2 := ((h.free b).1 hb).1
      omega
    have := List.Nodup.length_le_of_subset hmap (l₂ := (List.range A.cells.length).erase i) ?_
    · simpa using this
    · intro j hj
      obtain ⟨a, ha, rfl⟩ := List.mem_map.1 hj
      obtain ⟨_, y, h', h5⟩ := (h.free a).1 ha
      have h6 := (List.getElem?_eq_some_iff.1 h5).1
      rw [List.mem_erase_of_ne]
      · exact List.mem_range.2 h6
      · intro e; rw [e, hx] at h5; simp at h5
  rw [List.length_erase_of_mem (List.mem_range.2 hlt), List.length_range] at hsub
  have := h.sum
  omega
end Go.Proofs.Ytlkakkgmjihlaaa

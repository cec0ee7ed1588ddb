/- The law ArenaKeeps, in plain words: what stays, whatever is put and dropped. -/
import Derived.Test.YtlkakkgmjihlaaaA
set_option linter.unusedVariables false
set_option linter.unusedSimpArgs false
namespace Go.Proofs.Ytlkakkgmjihlaaa
open Go.RowKit

theorem AR.WF.putId_low {α : Type} {A : AR α} (h : A.WF) : 2 ≤ A.putId := by
  unfold AR.putId
  cases hl : A.free.getLast? with
  | none => simp
  | some id => exact ((h.free id).1 (List.mem_of_getLast? hl)).1
theorem AR.WF.putId_high {α : Type} {A : AR α} (h : A.WF) : A.putId ≤ A.cells.length + 2 := by
  unfold AR.putId
  cases hl : A.free.getLast? with
  | none => simp
  | some id =>
    obtain ⟨_, y, k, h2⟩ := (h.free id).1 (List.mem_of_getLast? hl)
    have := (List.getElem?_eq_some_iff.1 h2).1
    show id ≤ _
    omega
theorem AR.WF.putId_new {α : Type} {A : AR α} (h : A.WF) : ¬ A.live (A.putId - 2) := by
  rintro ⟨x, k, hx⟩
  unfold AR.putId at hx
  cases hl : A.free.getLast? with
  | none => rw [hl] at hx; simp at hx
  | some id =>
    rw [hl] at hx
    obtain ⟨_, y, k', h2⟩ := (h.free id).1 (List.mem_of_getLast? hl)
    simp only at hx
    rw [h2] at hx; simp at hx
theorem AR.WF.put_at {α : Type} {A : AR α} (h : A.WF) (x : α) : (A.put x).cells[A.putId - 2]? = some (x, true, 0) := by
  unfold AR.put AR.putId
  cases hl : A.free.getLast? with
  | none => simp
  | some id =>
    obtain ⟨_, y, k', h2⟩ := (h.free id).1 (List.mem_of_getLast? hl)
    simp [List.getElem?_set_self (List.getElem?_eq_some_iff.1 h2).1]
theorem AR.put_other {α : Type} (A : AR α) (x : α) {j : Nat} {c : α × Bool × Int} (hc : A.cells[j]? = some c) (hj : j ≠ A.putId - 2) : (A.put x).cells[j]? = some c := by
  unfold AR.put AR.putId at *
  cases hl : A.free.getLast? with
  | none =>
    simp only
    rw [List.getElem?_append_left (List.getElem?_eq_some_iff.1 hc).1]; exact hc
  | some id =>
    rw [hl] at hj
    simp only at hj ⊢
    rw [List.getElem?_set_ne (by omega)]; exact hc
theorem AR.put_n {α : Type} (A : AR α) (x : α) : (A.put x).n = A.n + 1 := by
  unfold AR.put; cases A.free.getLast? <;> rfl
theorem AR.put_room {α : Type} (A : AR α) (x : α) : (A.put x).room = A.room := by
  unfold AR.put; cases A.free.getLast? <;> rfl
theorem AR.modify_back {α : Type} (A : AR α) {id : Nat} {x : α} {k : Int} (h : A.cells[id - 2]? = some (x, true, k)) (c : α × Bool × Int) : (A.modify id c).modify id (x, true, k) = A := by
  unfold AR.modify
  obtain ⟨hlt, he⟩ := List.getElem?_eq_some_iff.1 h
  simp only [List.set_set]
  rw [← he, List.set_getElem_self]

/-- How many of the first i are not gone. -/
def cnt (g : Nat → Bool) : Nat → Nat
  | 0 => 0
  | i + 1 => cnt g i + (if g i then 0 else 1)
def set1 {α : Type} (f : Nat → α) (q : Nat) (x : α) : Nat → α := fun i => if i = q then x else f i
theorem cnt_le (g : Nat → Bool) (i : Nat) : cnt g i ≤ i := by
  induction i with
  | zero => simp [cnt]
  | succ i ih => simp only [cnt]; split <;> omega
theorem cnt_congr {g g' : Nat → Bool} (i : Nat) (h : ∀ j, j < i → g j = g' j) : cnt g i = cnt g' i := by
  induction i with
  | zero => rfl
  | succ i ih => simp only [cnt]; rw [ih (fun j hj => h j (by omega)), h i (by omega)]
theorem cnt_set (g : Nat → Bool) (k i : Nat) (hk : k < i) (hg : g k = false) : cnt (set1 g k true) i + 1 = cnt g i := by
  induction i with
  | zero => omega
  | succ i ih =>
    simp only [cnt]
    by_cases hki : k = i
    · subst hki
      rw [cnt_congr (g := set1 g k true) (g' := g) k (fun j hj => by simp [set1]; omega), hg]
      simp [set1]
    · have h1 := ih (by omega)
      have h2 : set1 g k true i = g i := by simp [set1]; omega
      rw [h2]; omega

/-- What holds when i things have been put. -/
structure KInv (A : AR Int) (z : Nat → Int) (ids : Nat → Nat) (gone : Nat → Bool) (i : Nat) : Prop where
  wf : A.WF
  room : A.room = 60
  n : A.n = cnt gone i
  low : ∀ j, j < i → ids j ≤ 100
  at_ : ∀ j, j < i → gone j = false → 2 ≤ ids j ∧ A.cells[ids j - 2]? = some (z j, true, 0)
  inj : ∀ j k, j < i → k < i → j ≠ k → gone j = false → gone k = false → ids j ≠ ids k

theorem KInv.put {A : AR Int} {z : Nat → Int} {ids : Nat → Nat} {gone : Nat → Bool} {i : Nat} (h : KInv A z ids gone i) (hi : i < 60) (hg : gone i = false) :
    A.n < A.room ∧ (∀ k, k < i → gone k = false → ids k ≠ A.putId) ∧ KInv (A.put (z i)) z (set1 ids i A.putId) gone (i + 1) := by
  have hn : A.n < A.room := by rw [h.n, h.room]; have := cnt_le gone i; omega
  have hne : ∀ k, k < i → gone k = false → ids k ≠ A.putId := by
    intro k hk hgk e
    have := h.at_ k hk hgk
    exact h.wf.putId_new ⟨z k, 0, by rw [← e]; exact this.2⟩
  have hlow := h.wf.putId_low
  refine ⟨hn, hne, h.wf.put hn _, by rw [AR.put_room, h.room], by rw [AR.put_n, h.n]; simp [cnt, hg], ?_, ?_, ?_⟩
  · intro j hj
    unfold set1
    split
    · have h1 := h.wf.putId_high; have h2 := h.wf.len; have h3 := h.room; omega
    · exact h.low j (by omega)
  · intro j hj hgj
    unfold set1
    by_cases hji : j = i
    · subst hji; simp; exact ⟨hlow, h.wf.put_at _⟩
    · rw [if_neg hji]
      have h1 := h.at_ j (by omega) hgj
      refine ⟨h1.1, A.put_other _ h1.2 ?_⟩
      have := hne j (by omega) hgj
      omega
  · intro j k hj hk hjk hgj hgk
    unfold set1
    by_cases hji : j = i
    · subst hji
      rw [if_pos rfl, if_neg (fun e => hjk e.symm)]
      exact fun e => hne k (by omega) hgk e.symm
    · rw [if_neg hji]
      by_cases hki : k = i
      · subst hki; rw [if_pos rfl]; exact hne j (by omega) hgj
      · rw [if_neg hki]; exact h.inj j k (by omega) (by omega) hjk hgj hgk

theorem KInv.drop {A : AR Int} {z : Nat → Int} {ids : Nat → Nat} {gone : Nat → Bool} {i : Nat} (h : KInv A z ids gone i) {k : Nat} (hk : k < i) (hg : gone k = false) :
    KInv (A.drop 0 (ids k)) z ids (set1 gone k true) i := by
  obtain ⟨h2, hx⟩ := h.at_ k hk hg
  have hpos := h.wf.pos ⟨_, _, hx⟩
  refine ⟨h.wf.drop 0 h2 ⟨_, _, hx⟩ hpos, h.room, ?_, h.low, ?_, ?_⟩
  · have := cnt_set gone k i hk hg
    show A.n - 1 = _
    rw [h.n]; omega
  · intro j hj hgj
    have hjk : j ≠ k := fun e => by subst e; simp [set1] at hgj
    have hgj' : gone j = false := by simpa [set1, hjk] using hgj
    obtain ⟨h3, h4⟩ := h.at_ j hj hgj'
    refine ⟨h3, ?_⟩
    have hne := h.inj j k hj hk hjk hgj' hg
    unfold AR.drop
    rw [List.getElem?_set_ne (by omega)]; exact h4
  · intro j l hj hl hjl hgj hgl
    have hjk : j ≠ k := fun e => by subst e; simp [set1] at hgj
    have hlk : l ≠ k := fun e => by subst e; simp [set1] at hgl
    exact h.inj j l hj hl hjl (by simpa [set1, hjk] using hgj) (by simpa [set1, hlk] using hgl)
end Go.Proofs.Ytlkakkgmjihlaaa

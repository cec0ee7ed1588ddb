/- The law IndexPlays: the document's list in plain words, and what lies in memory. -/
import Derived.Test.YtlgmmfhfoihbeaaG
import Derived.Test.YtlgmmfhfoihbeaaH
set_option linter.unusedVariables false
set_option linter.unusedSimpArgs false
namespace Go.Proofs.Ytlgmmfhfoihbeaa
open Go.RowKit

def RL (L : List (Nat × Nat)) : Nat → Nat → Prop := fun k id => (k, id) ∈ L

structure LI (L : List (Nat × Nat)) : Prop where
  nd : L.Pairwise (fun a b => a.1 ≠ b.1)
  bd : ∀ x ∈ L, x.1 ≤ 4294967295 ∧ x.2 ≤ 4294967295

theorem el_mem {L : List (Nat × Nat)} {p : Nat} (hp : p < L.length) : el L p ∈ L := by rw [← el_get L p hp]; exact List.getElem_mem _
theorem mem_el {L : List (Nat × Nat)} {x : Nat × Nat} (h : x ∈ L) : ∃ p, p < L.length ∧ el L p = x := by
  obtain ⟨p, hp, he⟩ := List.mem_iff_getElem.1 h
  exact ⟨p, hp, by rw [← el_get L p hp]; exact he⟩

section
variable {L : List (Nat × Nat)} {p k id : Nat}
theorem RL_at (hp : p < L.length) (hk : (el L p).1 = k) : RL L k (el L p).2 := by
  unfold RL; rw [← hk]; exact el_mem hp
theorem LI.first (h : LI L) (hp : p < L.length) (hk : (el L p).1 = k) : ∀ l, l < p → (el L l).1 ≠ k := by
  intro l hl
  have h1 := List.pairwise_iff_getElem.1 h.nd l p (by omega) hp hl
  rw [el_get, el_get, hk] at h1
  exact h1
theorem RL_none (h : ¬ ∃ p, p < L.length ∧ (el L p).1 = k) : ∀ id, ¬ RL L k id := by
  intro id hm
  obtain ⟨p, hp, he⟩ := mem_el hm
  exact h ⟨p, hp, by rw [he]⟩
theorem ne_none (h : ¬ ∃ p, p < L.length ∧ (el L p).1 = k) : ∀ l, l < L.length → (el L l).1 ≠ k := fun l hl e => h ⟨l, hl, e⟩
theorem LI.erase (h : LI L) (p : Nat) : LI (L.eraseIdx p) :=
  ⟨h.nd.sublist (List.eraseIdx_sublist _ _), fun x hx => h.bd x ((List.eraseIdx_sublist _ _).mem hx)⟩
theorem RL_erase (h : LI L) (hp : p < L.length) (hk : (el L p).1 = k) : ∀ k' id', RL (L.eraseIdx p) k' id' ↔ k' ≠ k ∧ RL L k' id' := by
  intro k' id'
  unfold RL
  have hsplit : L = L.take p ++ L[p] :: L.drop (p + 1) := by rw [← List.drop_eq_getElem_cons hp, List.take_append_drop]
  have hnd := h.nd
  rw [hsplit, List.pairwise_append, List.pairwise_cons] at hnd
  have hk' : L[p].1 = k := by rw [el_get]; exact hk
  rw [List.eraseIdx_eq_take_drop_succ, List.mem_append]
  constructor
  · rintro (hm | hm)
    · exact ⟨fun e => hnd.2.2 _ hm L[p] (List.mem_cons_self ..) (by rw [hk']; exact e), List.mem_of_mem_take hm⟩
    · exact ⟨fun e => hnd.2.1.1 _ hm (by rw [hk']; exact e.symm), List.mem_of_mem_drop hm⟩
  · rintro ⟨hne, hm⟩
    rw [hsplit] at hm
    simp only [List.mem_append, List.mem_cons] at hm
    rcases hm with hm | hm | hm
    · exact .inl hm
    · exact (hne (by rw [← hk', ← hm])).elim
    · exact .inr hm
theorem LI.snoc (h : LI L) (hn : ∀ id, ¬ RL L k id) (hk : k ≤ 4294967295) (hid : id ≤ 4294967295) : LI (L ++ [(k, id)]) := by
  refine ⟨List.pairwise_append.2 ⟨h.nd, by simp, fun a ha b hb => ?_⟩, fun x hx => ?_⟩
  · simp at hb; subst hb
    intro e
    exact hn a.2 (by unfold RL; rw [← show a.1 = k from e]; exact ha)
  · simp at hx
    rcases hx with hx | rfl
    · exact h.bd x hx
    · exact ⟨hk, hid⟩
theorem RL_snoc (hn : ∀ id, ¬ RL L k id) : ∀ k' id', RL (L ++ [(k, id)]) k' id' ↔ (k' = k ∧ id' = id) ∨ (k' ≠ k ∧ RL L k' id') := by
  intro k' id'
  unfold RL at *
  simp only [List.mem_append, List.mem_singleton, Prod.mk.injEq]
  constructor
  · rintro (h | h)
    · exact .inr ⟨fun e => hn id' (by rw [← e]; exact h), h⟩
    · exact .inl h
  · rintro (h | h)
    · exact .inr h
    · exact .inl h.2
/-- Without it, and then behind all. -/
theorem RL_again (h : LI L) (hp : p < L.length) (hk : (el L p).1 = k) : ∀ k' id', RL (L.eraseIdx p ++ [(k, id)]) k' id' ↔ (k' = k ∧ id' = id) ∨ (k' ≠ k ∧ RL L k' id') := by
  intro k' id'
  rw [RL_snoc (fun x hx => ((RL_erase h hp hk _ _).1 hx).1 rfl), RL_erase h hp hk]
  constructor
  · rintro (h | h)
    · exact .inl h
    · exact .inr h.2
  · rintro (h | h)
    · exact .inl h
    · exact .inr ⟨h.1, h⟩
theorem LI.again (h : LI L) (hp : p < L.length) (hk : (el L p).1 = k) (hkb : k ≤ 4294967295) (hid : id ≤ 4294967295) : LI (L.eraseIdx p ++ [(k, id)]) :=
  (h.erase p).snoc (fun x hx => ((RL_erase h hp hk _ _).1 hx).1 rfl) hkb hid
theorem len_erase (hp : p < L.length) : (L.eraseIdx p).length = L.length - 1 := List.length_eraseIdx_of_lt hp
end

theorem Mem.kept (v : Value) (L : List (Nat × Nat)) : Kept (Mem v L) := ⟨fun h m => Sl.keep h m, fun h => Sl.lt h⟩

/-- x, y and m: they tell the same. -/
def St (Z : List Nat) (w0 w : World) (bx by_ : Nat) (v : Value) (L : List (Nat × Nat)) (M : Nat) : Prop :=
  Tri Z (F.IsIx bx (RL L) L.length M) (O.IsIx by_ (RL L) L.length M) (Mem v L) w0 w

theorem St.shape {Z : List Nat} {w0 w : World} {bx by_ : Nat} {v : Value} {L : List (Nat × Nat)} {M : Nat} (h : St Z w0 w bx by_ v L M) : ∃ a cap, v = .slice a L.length cap := by
  obtain ⟨_, _, F3, _, _, h3, _⟩ := h
  obtain ⟨a, cap, hv, _⟩ := Sl.shape h3
  exact ⟨a, cap, hv⟩
theorem St.mem {Z : List Nat} {w0 w : World} {bx by_ : Nat} {v : Value} {L : List (Nat × Nat)} {M : Nat} (h : St Z w0 w bx by_ v L M) : ∃ F, Mem v L w F := by
  obtain ⟨_, _, F3, _, _, h3, _⟩ := h
  exact ⟨F3, h3⟩
theorem St.fin {Z : List Nat} {w0 w : World} {bx by_ : Nat} {v : Value} {L : List (Nat × Nat)} {c1 c2 M1 M2 M : Nat} {R1 R2 : Nat → Nat → Prop} (h : Tri Z (F.IsIx bx R1 c1 M1) (O.IsIx by_ R2 c2 M2) (Mem v L) w0 w) (e1 : ∀ k id, RL L k id ↔ R1 k id) (e2 : ∀ k id, RL L k id ↔ R2 k id) (h1 : c1 = L.length) (h2 : c2 = L.length) (m1 : M1 ≤ M) (m2 : M2 ≤ M) : St [] w0 w bx by_ v L M := by
  subst h1; subst h2
  exact h.drop.imp (fun F hF => hF.mono m1 e1) (fun F hF => hF.mono m2 e2) (fun F hF => hF)
end Go.Proofs.Ytlgmmfhfoihbeaa

/- An object of the call's own: 'OwnG P X w0 w': P holds of w and of a list of blocks made since w0, nothing that was there in w0 has turned, and it shares no block with X. -/
import Derived.Test.YtlgmmfhfoihbeaaCommon
set_option linter.unusedVariables false
set_option linter.unusedSimpArgs false
namespace Go.Proofs.Ytlgmmfhfoihbeaa
open Go.RowKit

structure Stable (P : World → List Nat → Prop) : Prop where
  mod : ∀ {S : List Nat} {w w' : World} {F : List Nat}, P w F → Mod S w w' → (∀ k ∈ F, k ∉ S) → P w' F
  lt : ∀ {w : World} {F : List Nat}, P w F → ∀ k ∈ F, k < w.heap.size

def OwnG (P : World → List Nat → Prop) (X : List Nat) (w0 w : World) : Prop := ∃ F, P w F ∧ Mod [] w0 w ∧ (∀ k ∈ F, w0.heap.size ≤ k ∧ k ∉ X) ∧ ∀ k ∈ X, k < w.heap.size

section
variable {P P' : World → List Nat → Prop} {X Y : List Nat} {w0 w w' : World}

theorem OwnG.mod (h : OwnG P X w0 w) : Mod [] w0 w := h.choose_spec.2.1

theorem OwnG.mk {F F' : List Nat} (M : Mod [] w0 w) (hf : ∀ k ∈ F, w0.heap.size ≤ k ∧ k ∉ X) (hX : ∀ k ∈ X, k < w.heap.size) (ha' : P' w' F') (M' : Mod F w w') (hf' : ∀ k ∈ F', k ∈ F ∨ w.heap.size ≤ k) :
    OwnG P' X w0 w' ∧ Keep X w w' := by
  refine ⟨⟨F', ha', M.trans M' (fun i hi hm => by have := (hf i hm).1; omega), fun k hk => ?_, fun k hk => Nat.lt_of_lt_of_le (hX k hk) M'.size⟩, M'.keep (fun k hk => ⟨hX k hk, fun hm => (hf k hm).2 hk⟩)⟩
  rcases hf' k hk with h1 | h1
  · exact hf k h1
  · have := M.size
    exact ⟨by omega, fun hx => by have := hX k hx; omega⟩

theorem OwnG.same (hs : Stable P) (h : OwnG P X w0 w) (M' : Mod [] w w') : OwnG P X w0 w' := by
  obtain ⟨F, ha, M, hf, hX⟩ := h
  exact ⟨F, hs.mod ha M' (by simp), M.trans' M', hf, fun k hk => Nat.lt_of_lt_of_le (hX k hk) M'.size⟩

/-- Something else has turned, in X or newly made. -/
theorem OwnG.other (hs : Stable P) {S : List Nat} (h : OwnG P X w0 w) (M' : Mod S w w') (hS : ∀ k ∈ S, w0.heap.size ≤ k ∧ (k ∈ X ∨ w.heap.size ≤ k)) (hY : ∀ k ∈ Y, (k ∈ X ∨ w.heap.size ≤ k) ∧ k < w'.heap.size) : OwnG P Y w0 w' := by
  obtain ⟨F, ha, M, hf, hX⟩ := h
  have hlt := hs.lt ha
  refine ⟨F, hs.mod ha M' (fun k hk hm => ?_), M.trans M' (fun i hi hm => by have := (hS i hm).1; omega), fun k hk => ⟨(hf k hk).1, fun hy => ?_⟩, fun k hk => (hY k hk).2⟩
  · rcases (hS k hm).2 with h1 | h1
    · exact (hf k hk).2 h1
    · have := hlt k hk; omega
  · rcases (hY k hy).1 with h1 | h1
    · exact (hf k hk).2 h1
    · have := hlt k hk; omega

theorem OwnG.imp (h : OwnG P X w0 w) (f : ∀ F, P w F → P' w F) : OwnG P' X w0 w := by
  obtain ⟨F, ha, r⟩ := h; exact ⟨F, f F ha, r⟩
end
end Go.Proofs.Ytlgmmfhfoihbeaa

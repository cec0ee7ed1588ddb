/- An object of the call's own: 'OwnG P X w0 w': P holds of w and of a list of blocks made since w0, nothing that was there in w0 has turned, and it shares no block with X. -/
import Derived.Test.YtlgmmfhfoihbeaaCommon
set_option linter.unusedVariables false
set_option linter.unusedSimpArgs false
namespace Go.Proofs.Ytlgmmfhfoihbeaa
open Go.RowKit

structure Stable (P : World → List Nat → Prop) : Prop where
  mod : ∀ {S : List Nat} {w w' : World} {F : List Nat}, P w F → Mod S w w' → (∀ k ∈ F, k ∉ S) → P w' F
  lt : ∀ {w : World} {F : List Nat}, P w F → ∀ k ∈ F, k < w.heap.size

def OwnG (P : World → List Nat → Prop) (X : List Nat) (w0 w : World) : Prop := ∃ F, P w F ∧ Mod [] w0 w ∧ (∀ k ∈ F, w0.heap.size ≤ k ∧ k ∉ X) ∧ ∀ k ∈ X, k < w.heap.size

section
variable {P P' : World → List Nat → Prop} {X Y : List Nat} {w0 w w' : World}

theorem OwnG.mod (h : OwnG P X w0 w) : Mod [] w0 w := h.choose_spec.2.1

theorem OwnG.mk {F F' : List Nat} (M : Mod [] w0 w) (hf : ∀ k ∈ F, w0.heap.size ≤ k ∧ k ∉ X) (hX : ∀ k ∈ X, k < w.heap.size) (ha' : P' w' F') (M' : Mod F w w') (hf' : ∀ k ∈ F', k ∈ F ∨ w.heap.size ≤ k) :
    OwnG P' X w0 w' ∧ Keep X w w' := by
  refine ⟨⟨F', ha', M.trans M' (fun i hi hm => by have := (hf i hm).1; omega), fun k hk => ?_, fun k hk => Nat.lt_of_lt_of_le (hX k hk) M'.size⟩, M'.keep (fun k hk => ⟨hX k hk, fun hm => (hf k hm).2 hk⟩)⟩
  rcases hf' k hk with h1 | h1
  · exact hf k h1
  · have := M.size
    exact ⟨by omega, fun hx => by have := hX k hx; omega⟩

theorem OwnG.same (hs : Stable P) (h : OwnG P X w0 w) (M' : Mod [] w w') : OwnG P X w0 w' := by
  obtain ⟨F, ha, M, hf, hX⟩ := h
  exact ⟨F, hs.mod ha M' (by simp), M.trans' M', hf, fun k hk => Nat.lt_of_lt_of_le (hX k hk) M'.size⟩

/-- Something else has turned, in X or newly made. -/
theorem OwnG.other (hs : Stable P) {S : List Nat} (h : OwnG P X w0 w) (M' : Mod S w w') (hS : ∀ k ∈ S, w0.heap.size ≤ k ∧ (k ∈ X ∨ w.heap.size ≤ k)) (hY : ∀ k ∈ Y, (k ∈ X ∨ w.heap.size ≤ k) ∧ k < w'.heap.size) : OwnG P Y w0 w' := by
  obtain ⟨F, ha, M, hf, hX⟩ := h
  have hlt := hs.lt ha
  refine ⟨F, hs.mod ha M' (fun k hk hm => ?_), M.trans M' (fun i hi hm => by have := (hS i hm).1; omega), fun k hk => ⟨(hf k hk).1, fun hy => ?_⟩, fun k hk => (hY k hk).2⟩
  · rcases (hS k hm).2 with h1 | h1
    · exact (hf k hk).2 h1
    · have := hlt k hk; omega
  · rcases (hY k hy).1 with h1 | h1
    · exact (hf k hk).2 h1
    · have := hlt k hk; omega

theorem OwnG.imp (h : OwnG P X w0 w) (f : ∀ F, P w F → P' w F) : OwnG P' X w0 w := by
  obtain ⟨F, ha, r⟩ := h; exact ⟨F, f F ha, r⟩
end

/-! Three objects side by side. -/
structure Kept (P : World → List Nat → Prop) : Prop where
  keep : ∀ {w w' : World} {F : List Nat}, P w F → Keep F w w' → P w' F
  lt : ∀ {w : World} {F : List Nat}, P w F → ∀ k ∈ F, k < w.heap.size

theorem Kept.stable {P : World → List Nat → Prop} (h : Kept P) : Stable P := by
  constructor
  · intro S w w' F hp m hd
    exact h.keep hp (m.keep (fun k hk => ⟨h.lt hp k hk, hd k hk⟩))
  · intro w F hp; exact h.lt hp

/-- .. and beside them blocks Z that nothing touches. -/
def Tri (Z : List Nat) (P1 P2 P3 : World → List Nat → Prop) (w0 w : World) : Prop :=
  ∃ F1 F2 F3, P1 w F1 ∧ P2 w F2 ∧ P3 w F3 ∧ Mod [] w0 w ∧ (∀ k ∈ F1, w0.heap.size ≤ k) ∧ (∀ k ∈ F2, w0.heap.size ≤ k) ∧ (∀ k ∈ F3, w0.heap.size ≤ k) ∧ (∀ k ∈ F1, k ∉ F2) ∧ (∀ k ∈ F1, k ∉ F3) ∧ (∀ k ∈ F2, k ∉ F3) ∧
    ∀ k ∈ Z, k < w.heap.size ∧ k ∉ F1 ∧ k ∉ F2 ∧ k ∉ F3

section
variable {Z : List Nat} {P1 P2 P3 : World → List Nat → Prop} {w0 w w' : World}
theorem Tri.rot (h : Tri Z P1 P2 P3 w0 w) : Tri Z P2 P3 P1 w0 w := by
  obtain ⟨F1, F2, F3, h1, h2, h3, m, a1, a2, a3, d1, d2, d3, z⟩ := h
  exact ⟨F2, F3, F1, h2, h3, h1, m, a2, a3, a1, d3, fun k hk h => d1 k h hk, fun k hk h => d2 k h hk, fun k hk => ⟨(z k hk).1, (z k hk).2.2.1, (z k hk).2.2.2, (z k hk).2.1⟩⟩
theorem Tri.mod (h : Tri Z P1 P2 P3 w0 w) : Mod [] w0 w := by
  obtain ⟨F1, F2, F3, h1, h2, h3, m, _⟩ := h; exact m
theorem Tri.imp {P1' P2' P3' : World → List Nat → Prop} (h : Tri Z P1 P2 P3 w0 w) (f1 : ∀ F, P1 w F → P1' w F) (f2 : ∀ F, P2 w F → P2' w F) (f3 : ∀ F, P3 w F → P3' w F) : Tri Z P1' P2' P3' w0 w := by
  obtain ⟨F1, F2, F3, h1, h2, h3, r⟩ := h
  exact ⟨F1, F2, F3, f1 _ h1, f2 _ h2, f3 _ h3, r⟩
theorem Tri.same (k1 : Kept P1) (k2 : Kept P2) (k3 : Kept P3) (h : Tri Z P1 P2 P3 w0 w) (M : Mod [] w w') : Tri Z P1 P2 P3 w0 w' := by
  obtain ⟨F1, F2, F3, h1, h2, h3, m, a1, a2, a3, d1, d2, d3, z⟩ := h
  exact ⟨F1, F2, F3, k1.stable.mod h1 M (by simp), k2.stable.mod h2 M (by simp), k3.stable.mod h3 M (by simp), m.trans' M, a1, a2, a3, d1, d2, d3, fun k hk => ⟨Nat.lt_of_lt_of_le (z k hk).1 M.size, (z k hk).2⟩⟩
theorem Tri.drop (h : Tri Z P1 P2 P3 w0 w) : Tri [] P1 P2 P3 w0 w := by
  obtain ⟨F1, F2, F3, h1, h2, h3, m, a1, a2, a3, d1, d2, d3, z⟩ := h
  exact ⟨F1, F2, F3, h1, h2, h3, m, a1, a2, a3, d1, d2, d3, by simp⟩
theorem Tri.add (k1 : Kept P1) (k2 : Kept P2) (k3 : Kept P3) (h : Tri Z P1 P2 P3 w0 w) (M : Mod [] w w') (k : Nat) (hk : w.heap.size ≤ k) (hk' : k < w'.heap.size) : Tri (k :: Z) P1 P2 P3 w0 w' := by
  obtain ⟨F1, F2, F3, h1, h2, h3, m, a1, a2, a3, d1, d2, d3, z⟩ := h
  refine ⟨F1, F2, F3, k1.stable.mod h1 M (by simp), k2.stable.mod h2 M (by simp), k3.stable.mod h3 M (by simp), m.trans' M, a1, a2, a3, d1, d2, d3, fun x hx => ?_⟩
  rcases List.mem_cons.1 hx with rfl | hx
  · exact ⟨hk', fun hm => by have := k1.lt h1 _ hm; omega, fun hm => by have := k2.lt h2 _ hm; omega, fun hm => by have := k3.lt h3 _ hm; omega⟩
  · exact ⟨Nat.lt_of_lt_of_le (z x hx).1 M.size, (z x hx).2⟩
/-- The first alone, and how to come back. -/
theorem Tri.open1 (k2 : Kept P2) (k3 : Kept P3) (h : Tri Z P1 P2 P3 w0 w) : ∃ X, OwnG P1 X w0 w ∧ (∀ k ∈ Z, k ∈ X) ∧ ∀ (P1' : World → List Nat → Prop) (w' : World), OwnG P1' X w0 w' → Keep X w w' → Tri Z P1' P2 P3 w0 w' := by
  obtain ⟨F1, F2, F3, h1, h2, h3, m, a1, a2, a3, d1, d2, d3, z⟩ := h
  refine ⟨F2 ++ F3 ++ Z, ⟨F1, h1, m, fun k hk => ⟨a1 k hk, by simp; exact ⟨d1 k hk, d2 k hk, fun hz => (z k hz).2.1 hk⟩⟩, fun k hk => ?_⟩, fun k hk => by simp [hk], fun P1' w' ho hk => ?_⟩
  · simp at hk
    rcases hk with hk | hk | hk
    · exact k2.lt h2 k hk
    · exact k3.lt h3 k hk
    · exact (z k hk).1
  · obtain ⟨F1', h1', m', a1', hX⟩ := ho
    exact ⟨F1', F2, F3, h1', k2.keep h2 (fun k hx => hk k (by simp [hx])), k3.keep h3 (fun k hx => hk k (by simp [hx])), m', fun k hk => (a1' k hk).1, a2, a3, fun k hk hx => (a1' k hk).2 (by simp [hx]), fun k hk hx => (a1' k hk).2 (by simp [hx]), d3,
      fun k hk => ⟨hX k (by simp [hk]), fun hx => (a1' k hx).2 (by simp [hk]), (z k hk).2.2.1, (z k hk).2.2.2⟩⟩
end

/-- To begin with: nothing of one's own. -/
theorem OwnG.none {P' : World → List Nat → Prop} {X : List Nat} {w0 w w' : World} (M : Mod [] w0 w) (hX : ∀ k ∈ X, k < w.heap.size) {F' : List Nat} (h : P' w' F') (M' : Mod [] w w') (hf : ∀ k ∈ F', w.heap.size ≤ k) : OwnG P' X w0 w' ∧ Keep X w w' :=
  OwnG.mk M (F := []) (by simp) hX h M' (fun k hk => .inr (hf k hk))
/-- In its stead another one, all new. -/
theorem OwnG.renew {P P' : World → List Nat → Prop} {X : List Nat} {w0 w w' : World} (h : OwnG P X w0 w) {F' : List Nat} (hp : P' w' F') (M' : Mod [] w w') (hf : ∀ k ∈ F', w.heap.size ≤ k) : OwnG P' X w0 w' ∧ Keep X w w' := by
  obtain ⟨F, _, M, hf0, hX⟩ := h
  exact OwnG.mk M hf0 hX hp (M'.mono (by simp)) (fun k hk => .inr (hf k hk))
theorem Tri.start {P1 : World → List Nat → Prop} (k1 : Kept P1) {w0 w : World} (h : OwnG P1 [] w0 w) : ∃ X, (∀ k ∈ X, k < w.heap.size) ∧ ∀ (P2 P3 : World → List Nat → Prop) (w' : World), OwnG P2 X w0 w' → Keep X w w' → P3 w' [] → Tri [] P1 P2 P3 w0 w' := by
  obtain ⟨F, h1, m, hf, _⟩ := h
  refine ⟨F, k1.lt h1, fun P2 P3 w' h2 hk h3 => ?_⟩
  obtain ⟨F2, p2, m2, hf2, _⟩ := h2
  exact ⟨F, F2, [], k1.keep h1 hk, p2, h3, m2, fun k hk => (hf k hk).1, fun k hk => (hf2 k hk).1, by simp, fun k hk hx => (hf2 k hx).2 hk, by simp, by simp, by simp⟩
end Go.Proofs.Ytlgmmfhfoihbeaa

/- The arena of ints as an object of the call's own: Hold, Let, Set, Held, Room. -/
import Derived.Test.YtlkakkgmjihlaaaD
import Derived.Test.YtlkakkgmjihlaaaEI
set_option linter.unusedVariables false
set_option linter.unusedSimpArgs false
namespace Go.Proofs.Ytlkakkgmjihlaaa.I
open Go.RowKit

theorem own_hold {X : List Nat} {w0 w : World} {b : Nat} {A : AR Int} (h : Own X w0 w b A) (id : Nat) (h2 : 2 ≤ id) {x : Int} {k : Int} (hx : A.cells[id - 2]? = some (x, true, k)) (hk0 : 0 ≤ k) (hk1 : k ≤ 1000000000) :
    Calls Try.prog 15 #[.pointer (some ⟨b, 0, none⟩), .int .u32 id] w fun e w' => e = .returned (.bool true) ∧ Own X w0 w' b (A.modify id (x, true, k + 1)) ∧ Keep X w w' := by
  obtain ⟨F, ha, hw, M, hf, hX⟩ := h
  exact (hold_live ha hw id h2 hx hk0 hk1).mono fun e w' ⟨he, h1, h2'⟩ => ⟨he, Own.mk M hf hX (hw.modify h2 ⟨x, k, hx⟩ x _) h1 h2' (fun k hk => .inl hk)⟩
theorem own_hold_none {X : List Nat} {w0 w : World} {b : Nat} {A : AR Int} (h : Own X w0 w b A) (id : Nat) (hu : id ≤ 4294967295) (hx : ¬ (2 ≤ id ∧ A.live (id - 2))) :
    Calls Try.prog 15 #[.pointer (some ⟨b, 0, none⟩), .int .u32 id] w fun e w' => e = .returned (.bool false) ∧ w = w' := by
  obtain ⟨F, ha, hw, M, hf⟩ := h
  exact hold_none ha hw id hu hx
theorem own_let {X : List Nat} {w0 w : World} {b : Nat} {A : AR Int} (h : Own X w0 w b A) (id : Nat) (h2 : 2 ≤ id) {x : Int} {k : Int} (hx : A.cells[id - 2]? = some (x, true, k)) (hk0 : 1 ≤ k) (hk1 : k ≤ 1000000000) :
    Calls Try.prog 17 #[.pointer (some ⟨b, 0, none⟩), .int .u32 id] w fun e w' => e = .returned (.bool true) ∧ Own X w0 w' b (A.modify id (x, true, k - 1)) ∧ Keep X w w' := by
  obtain ⟨F, ha, hw, M, hf, hX⟩ := h
  exact (let_held ha hw id h2 hx hk0 hk1).mono fun e w' ⟨he, h1, h2'⟩ => ⟨he, Own.mk M hf hX (hw.modify h2 ⟨x, k, hx⟩ x _) h1 h2' (fun k hk => .inl hk)⟩
theorem own_let_free {X : List Nat} {w0 w : World} {b : Nat} {A : AR Int} (h : Own X w0 w b A) (id : Nat) (h2 : 2 ≤ id) {x : Int} (hx : A.cells[id - 2]? = some (x, true, 0)) :
    Calls Try.prog 17 #[.pointer (some ⟨b, 0, none⟩), .int .u32 id] w fun e w' => e = .returned (.bool false) ∧ w = w' := by
  obtain ⟨F, ha, hw, M, hf⟩ := h
  exact let_free ha hw id h2 hx
theorem own_let_none {X : List Nat} {w0 w : World} {b : Nat} {A : AR Int} (h : Own X w0 w b A) (id : Nat) (hu : id ≤ 4294967295) (hx : ¬ (2 ≤ id ∧ A.live (id - 2))) :
    Calls Try.prog 17 #[.pointer (some ⟨b, 0, none⟩), .int .u32 id] w fun e w' => e = .returned (.bool false) ∧ w = w' := by
  obtain ⟨F, ha, hw, M, hf⟩ := h
  exact let_none ha hw id hu hx
theorem own_set {X : List Nat} {w0 w : World} {b : Nat} {A : AR Int} (h : Own X w0 w b A) (id : Nat) (h2 : 2 ≤ id) {x : Int} {k : Int} (hx : A.cells[id - 2]? = some (x, true, k)) (y : Int) :
    Calls Try.prog 22 #[.pointer (some ⟨b, 0, none⟩), .int .u32 id, .int .i64 y] w fun e w' => e = .returned (.bool true) ∧ Own X w0 w' b (A.modify id (y, true, k)) ∧ Keep X w w' := by
  obtain ⟨F, ha, hw, M, hf, hX⟩ := h
  exact (set_live ha hw id h2 hx y).mono fun e w' ⟨he, h1, h2'⟩ => ⟨he, Own.mk M hf hX (hw.modify h2 ⟨x, k, hx⟩ y _) h1 h2' (fun k hk => .inl hk)⟩
theorem own_set_none {X : List Nat} {w0 w : World} {b : Nat} {A : AR Int} (h : Own X w0 w b A) (id : Nat) (hu : id ≤ 4294967295) (hx : ¬ (2 ≤ id ∧ A.live (id - 2))) (y : Int) :
    Calls Try.prog 22 #[.pointer (some ⟨b, 0, none⟩), .int .u32 id, .int .i64 y] w fun e w' => e = .returned (.bool false) ∧ w = w' := by
  obtain ⟨F, ha, hw, M, hf⟩ := h
  exact set_none ha hw id hu hx y
theorem own_held {X : List Nat} {w0 w : World} {b : Nat} {A : AR Int} (h : Own X w0 w b A) (id : Nat) (h2 : 2 ≤ id) {x : Int} {k : Int} (hx : A.cells[id - 2]? = some (x, true, k)) :
    Calls Try.prog 23 #[.pointer (some ⟨b, 0, none⟩), .int .u32 id] w fun e w' => e = .returned (.int .i64 k) ∧ w = w' := by
  obtain ⟨F, ha, hw, M, hf⟩ := h
  exact held_live ha hw id h2 hx
theorem own_room {X : List Nat} {w0 w : World} {b : Nat} {A : AR Int} (h : Own X w0 w b A) :
    Calls Try.prog 24 #[.pointer (some ⟨b, 0, none⟩)] w fun e w' => e = .returned (.int .i64 A.room) ∧ w = w' := by
  obtain ⟨F, ha, hw, M, hf⟩ := h
  exact room_c ha
end Go.Proofs.Ytlkakkgmjihlaaa.I

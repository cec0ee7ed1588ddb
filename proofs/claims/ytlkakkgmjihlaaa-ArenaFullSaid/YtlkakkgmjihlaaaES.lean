/- The arena as an object of the call's own: 'Own w0 w b A': made since w0, nothing that was there in w0 has turned. -/
import Derived.Test.YtlkakkgmjihlaaaCS
set_option linter.unusedVariables false
set_option linter.unusedSimpArgs false
namespace Go.Proofs.Ytlkakkgmjihlaaa.S
open Go.RowKit

def Own (w0 w : World) (b : Nat) (A : AR ByteArray) : Prop := ∃ F, IsAr w b A F ∧ A.WF ∧ Mod [] w0 w ∧ ∀ k ∈ F, w0.heap.size ≤ k

theorem Own.mk {w0 w w' : World} {b : Nat} {A' : AR ByteArray} {F F' : List Nat} (M : Mod [] w0 w) (hf : ∀ k ∈ F, w0.heap.size ≤ k) (hw : A'.WF) (ha' : IsAr w' b A' F') (M' : Mod F w w') (hf' : ∀ k ∈ F', k ∈ F ∨ w.heap.size ≤ k) : Own w0 w' b A' := by
  refine ⟨F', ha', hw, M.trans M' (fun i hi hm => by have := hf i hm; omega), fun k hk => ?_⟩
  rcases hf' k hk with h1 | h1
  · exact hf k h1
  · have := M.size; omega

theorem Own.same {w0 w w' : World} {b : Nat} {A : AR ByteArray} (h : Own w0 w b A) (M' : Mod [] w w') : Own w0 w' b A := by
  obtain ⟨F, ha, hw, M, hf⟩ := h
  exact ⟨F, ha.mod M' (by simp), hw, M.trans' M', hf⟩

/-- Something else has turned. -/
theorem Own.other {w0 w w' : World} {b : Nat} {A : AR ByteArray} {S : List Nat} (h : Own w0 w b A) (M' : Mod S w w') (hS : ∀ k ∈ S, w0.heap.size ≤ k) (hd : ∀ F, IsAr w b A F → ∀ k ∈ F, k ∉ S) : Own w0 w' b A := by
  obtain ⟨F, ha, hw, M, hf⟩ := h
  exact ⟨F, ha.mod M' (hd F ha), hw, M.trans M' (fun i hi hm => by have := hS i hm; omega), hf⟩

theorem own_new (r : Nat) (hr : r ≤ 1048576) (w0 w : World) (M : Mod [] w0 w) :
    Calls Try.prog 8 #[.int .i64 r] w fun e w' => e = .returned (.tuple #[.pointer (some ⟨w.heap.size, 0, none⟩), .int .u8 0]) ∧ Own w0 w' w.heap.size ⟨[], [], 0, r⟩ :=
  (new_c r hr w).mono fun e w' ⟨he, ha, M'⟩ => ⟨he, [w.heap.size], ha, ⟨hr, Nat.zero_le _, rfl, List.nodup_nil, fun id => by simp⟩, M.trans' M', fun k hk => by simp at hk; subst hk; exact M.size⟩

theorem own_put {w0 w : World} {b : Nat} {A : AR ByteArray} (h : Own w0 w b A) (hn : A.n < A.room) (x : ByteArray) :
    Calls Try.prog 9 #[.pointer (some ⟨b, 0, none⟩), .string x] w fun e w' => e = .returned (.tuple #[.int .u32 A.putId, .bool true]) ∧ Own w0 w' b (A.put x) := by
  obtain ⟨F, ha, hw, M, hf⟩ := h
  by_cases hfr : A.free = []
  · exact (put_grow ha hw hn x hfr).mono fun e w' ⟨he, F', h1, h2, h3⟩ => ⟨he, Own.mk M hf (hw.put hn x) h1 h2 h3⟩
  · exact (put_free ha hw hn x hfr).mono fun e w' ⟨he, F', h1, h2, h3⟩ => ⟨he, Own.mk M hf (hw.put hn x) h1 h2 h3⟩

theorem own_put_full {w0 w : World} {b : Nat} {A : AR ByteArray} (h : Own w0 w b A) (hn : A.room ≤ A.n) (x : ByteArray) :
    Calls Try.prog 9 #[.pointer (some ⟨b, 0, none⟩), .string x] w fun e w' => e = .returned (.tuple #[.int .u32 0, .bool false]) ∧ Own w0 w' b A := by
  obtain ⟨F, ha, hw, M, hf⟩ := h
  refine (put_full ha hw hn x).mono fun e w' ⟨he, d, hd⟩ => ⟨he, ?_⟩
  subst hd
  exact Own.same ⟨F, ha, hw, M, hf⟩ ((Mod.refl [] w).drewN d)

theorem own_drop {w0 w : World} {b : Nat} {A : AR ByteArray} (h : Own w0 w b A) (id : Nat) (h2 : 2 ≤ id) {x : ByteArray} {k : Int} (hx : A.cells[id - 2]? = some (x, true, k)) (hk : k ≤ 0) :
    Calls Try.prog 11 #[.pointer (some ⟨b, 0, none⟩), .int .u32 id] w fun e w' => e = .returned (.bool true) ∧ Own w0 w' b (A.drop ByteArray.empty id) := by
  obtain ⟨F, ha, hw, M, hf⟩ := h
  exact (drop_live ha hw id h2 hx hk).mono fun e w' ⟨he, F', h1, h2', h3⟩ => ⟨he, Own.mk M hf (hw.drop ByteArray.empty h2 ⟨x, k, hx⟩ (hw.pos ⟨x, k, hx⟩)) h1 h2' h3⟩

theorem own_drop_held {w0 w : World} {b : Nat} {A : AR ByteArray} (h : Own w0 w b A) (id : Nat) (h2 : 2 ≤ id) {x : ByteArray} {k : Int} (hx : A.cells[id - 2]? = some (x, true, k)) (hk : 0 < k) :
    Calls Try.prog 11 #[.pointer (some ⟨b, 0, none⟩), .int .u32 id] w fun e w' => e = .returned (.bool false) ∧ w = w' := by
  obtain ⟨F, ha, hw, M, hf⟩ := h
  exact drop_held ha hw id h2 hx hk

theorem own_drop_none {w0 w : World} {b : Nat} {A : AR ByteArray} (h : Own w0 w b A) (id : Nat) (hu : id ≤ 4294967295) (hx : ¬ (2 ≤ id ∧ A.live (id - 2))) :
    Calls Try.prog 11 #[.pointer (some ⟨b, 0, none⟩), .int .u32 id] w fun e w' => e = .returned (.bool false) ∧ w = w' := by
  obtain ⟨F, ha, hw, M, hf⟩ := h
  exact drop_none ha hw id hu hx

theorem own_get {w0 w : World} {b : Nat} {A : AR ByteArray} (h : Own w0 w b A) (id : Nat) (h2 : 2 ≤ id) {x : ByteArray} {k : Int} (hx : A.cells[id - 2]? = some (x, true, k)) :
    Calls Try.prog 12 #[.pointer (some ⟨b, 0, none⟩), .int .u32 id] w fun e w' => e = .returned (.tuple #[.string x, .bool true]) ∧ w = w' := by
  obtain ⟨F, ha, hw, M, hf⟩ := h
  exact get_live ha hw id h2 hx

theorem own_get_none {w0 w : World} {b : Nat} {A : AR ByteArray} (h : Own w0 w b A) (id : Nat) (hu : id ≤ 4294967295) (hx : ¬ (2 ≤ id ∧ A.live (id - 2))) :
    Calls Try.prog 12 #[.pointer (some ⟨b, 0, none⟩), .int .u32 id] w fun e w' => e = .returned (.tuple #[.string ByteArray.empty, .bool false]) ∧ w = w' := by
  obtain ⟨F, ha, hw, M, hf⟩ := h
  exact get_none ha hw id hu hx

theorem own_len {w0 w : World} {b : Nat} {A : AR ByteArray} (h : Own w0 w b A) :
    Calls Try.prog 10 #[.pointer (some ⟨b, 0, none⟩)] w fun e w' => e = .returned (.int .i64 A.n) ∧ w = w' := by
  obtain ⟨F, ha, hw, M, hf⟩ := h
  exact len_c ha
end Go.Proofs.Ytlkakkgmjihlaaa.S

/- The arena as an object of the call's own: 'Own X w0 w b A': made since w0, nothing that was there in w0 has turned, and it shares no block with X. -/
import Derived.Test.YtlkakkgmjihlaaaCS
set_option linter.unusedVariables false
set_option linter.unusedSimpArgs false
namespace Go.Proofs.Ytlkakkgmjihlaaa.S
open Go.RowKit

def Own (X : List Nat) (w0 w : World) (b : Nat) (A : AR ByteArray) : Prop := ∃ F, IsAr w b A F ∧ A.WF ∧ Mod [] w0 w ∧ (∀ k ∈ F, w0.heap.size ≤ k ∧ k ∉ X) ∧ ∀ k ∈ X, k < w.heap.size

theorem Own.mod {X : List Nat} {w0 w : World} {b : Nat} {A : AR ByteArray} (h : Own X w0 w b A) : Mod [] w0 w := h.choose_spec.2.2.1
theorem Own.wf {X : List Nat} {w0 w : World} {b : Nat} {A : AR ByteArray} (h : Own X w0 w b A) : A.WF := h.choose_spec.2.1

theorem Own.mk {X : List Nat} {w0 w w' : World} {b : Nat} {A' : AR ByteArray} {F F' : List Nat} (M : Mod [] w0 w) (hf : ∀ k ∈ F, w0.heap.size ≤ k ∧ k ∉ X) (hX : ∀ k ∈ X, k < w.heap.size) (hw : A'.WF) (ha' : IsAr w' b A' F') (M' : Mod F w w') (hf' : ∀ k ∈ F', k ∈ F ∨ w.heap.size ≤ k) :
    Own X w0 w' b A' ∧ Keep X w w' := by
  refine ⟨⟨F', ha', hw, M.trans M' (fun i hi hm => by have := (hf i hm).1; omega), fun k hk => ?_, fun k hk => Nat.lt_of_lt_of_le (hX k hk) M'.size⟩, M'.keep (fun k hk => ⟨hX k hk, fun hm => (hf k hm).2 hk⟩)⟩
  rcases hf' k hk with h1 | h1
  · exact hf k h1
  · have := M.size
    exact ⟨by omega, fun hx => by have := hX k hx; omega⟩

theorem Own.same {X : List Nat} {w0 w w' : World} {b : Nat} {A : AR ByteArray} (h : Own X w0 w b A) (M' : Mod [] w w') : Own X w0 w' b A := by
  obtain ⟨F, ha, hw, M, hf, hX⟩ := h
  exact ⟨F, ha.mod M' (by simp), hw, M.trans' M', hf, fun k hk => Nat.lt_of_lt_of_le (hX k hk) M'.size⟩

/-- Something else has turned, in X or newly made. -/
theorem Own.other {X Y : List Nat} {w0 w w' : World} {b : Nat} {A : AR ByteArray} {S : List Nat} (h : Own X w0 w b A) (M' : Mod S w w') (hS : ∀ k ∈ S, w0.heap.size ≤ k ∧ (k ∈ X ∨ w.heap.size ≤ k)) (hY : ∀ k ∈ Y, (k ∈ X ∨ w.heap.size ≤ k) ∧ k < w'.heap.size) : Own Y w0 w' b A := by
  obtain ⟨F, ha, hw, M, hf, hX⟩ := h
  have hlt := ha.lt
  refine ⟨F, ha.mod M' (fun k hk hm => ?_), hw, M.trans M' (fun i hi hm => by have := (hS i hm).1; omega), fun k hk => ⟨(hf k hk).1, fun hy => ?_⟩, fun k hk => (hY k hk).2⟩
  · rcases (hS k hm).2 with h1 | h1
    · exact (hf k hk).2 h1
    · have := hlt k hk; omega
  · rcases (hY k hy).1 with h1 | h1
    · exact (hf k hk).2 h1
    · have := hlt k hk; omega

theorem own_new (X : List Nat) (r : Nat) (hr : r ≤ 1048576) (w0 w : World) (M : Mod [] w0 w) (hX : ∀ k ∈ X, k < w.heap.size) :
    Calls Try.prog 8 #[.int .i64 r] w fun e w' => e = .returned (.tuple #[.pointer (some ⟨w.heap.size, 0, none⟩), .int .u8 0]) ∧ Own X w0 w' w.heap.size ⟨[], [], 0, r⟩ ∧ Keep X w w' :=
  (new_c r hr w).mono fun e w' ⟨he, ha, M'⟩ => ⟨he, ⟨[w.heap.size], ha, ⟨hr, Nat.zero_le _, rfl, List.nodup_nil, fun id => by simp⟩, M.trans' M', fun k hk => by
    simp at hk; subst hk; exact ⟨M.size, fun hx => by have := hX _ hx; omega⟩, fun k hk => Nat.lt_of_lt_of_le (hX k hk) M'.size⟩, M'.keep (fun k hk => ⟨hX k hk, by simp⟩)⟩

theorem own_put {X : List Nat} {w0 w : World} {b : Nat} {A : AR ByteArray} (h : Own X w0 w b A) (hn : A.n < A.room) (x : ByteArray) :
    Calls Try.prog 9 #[.pointer (some ⟨b, 0, none⟩), .string x] w fun e w' => e = .returned (.tuple #[.int .u32 A.putId, .bool true]) ∧ Own X w0 w' b (A.put x) ∧ Keep X w w' := by
  obtain ⟨F, ha, hw, M, hf, hX⟩ := h
  by_cases hfr : A.free = []
  · exact (put_grow ha hw hn x hfr).mono fun e w' ⟨he, F', h1, h2, h3⟩ => ⟨he, Own.mk M hf hX (hw.put hn x) h1 h2 h3⟩
  · exact (put_free ha hw hn x hfr).mono fun e w' ⟨he, F', h1, h2, h3⟩ => ⟨he, Own.mk M hf hX (hw.put hn x) h1 h2 h3⟩

theorem own_put_full {X : List Nat} {w0 w : World} {b : Nat} {A : AR ByteArray} (h : Own X w0 w b A) (hn : A.room ≤ A.n) (x : ByteArray) :
    Calls Try.prog 9 #[.pointer (some ⟨b, 0, none⟩), .string x] w fun e w' => e = .returned (.tuple #[.int .u32 0, .bool false]) ∧ Own X w0 w' b A ∧ Keep X w w' := by
  obtain ⟨F, ha, hw, M, hf⟩ := h
  refine (put_full ha hw hn x).mono fun e w' ⟨he, d, hd⟩ => ⟨he, ?_, ?_⟩
  · subst hd
    exact Own.same ⟨F, ha, hw, M, hf⟩ ((Mod.refl [] w).drewN d)
  · subst hd; exact fun _ _ => rfl

theorem own_drop {X : List Nat} {w0 w : World} {b : Nat} {A : AR ByteArray} (h : Own X w0 w b A) (id : Nat) (h2 : 2 ≤ id) {x : ByteArray} {k : Int} (hx : A.cells[id - 2]? = some (x, true, k)) (hk : k ≤ 0) :
    Calls Try.prog 11 #[.pointer (some ⟨b, 0, none⟩), .int .u32 id] w fun e w' => e = .returned (.bool true) ∧ Own X w0 w' b (A.drop ByteArray.empty id) ∧ Keep X w w' := by
  obtain ⟨F, ha, hw, M, hf, hX⟩ := h
  exact (drop_live ha hw id h2 hx hk).mono fun e w' ⟨he, F', h1, h2', h3⟩ => ⟨he, Own.mk M hf hX (hw.drop ByteArray.empty h2 ⟨x, k, hx⟩ (hw.pos ⟨x, k, hx⟩)) h1 h2' h3⟩

theorem own_drop_held {X : List Nat} {w0 w : World} {b : Nat} {A : AR ByteArray} (h : Own X w0 w b A) (id : Nat) (h2 : 2 ≤ id) {x : ByteArray} {k : Int} (hx : A.cells[id - 2]? = some (x, true, k)) (hk : 0 < k) :
    Calls Try.prog 11 #[.pointer (some ⟨b, 0, none⟩), .int .u32 id] w fun e w' => e = .returned (.bool false) ∧ w = w' := by
  obtain ⟨F, ha, hw, M, hf⟩ := h
  exact drop_held ha hw id h2 hx hk

theorem own_drop_none {X : List Nat} {w0 w : World} {b : Nat} {A : AR ByteArray} (h : Own X w0 w b A) (id : Nat) (hu : id ≤ 4294967295) (hx : ¬ (2 ≤ id ∧ A.live (id - 2))) :
    Calls Try.prog 11 #[.pointer (some ⟨b, 0, none⟩), .int .u32 id] w fun e w' => e = .returned (.bool false) ∧ w = w' := by
  obtain ⟨F, ha, hw, M, hf⟩ := h
  exact drop_none ha hw id hu hx

theorem own_get {X : List Nat} {w0 w : World} {b : Nat} {A : AR ByteArray} (h : Own X w0 w b A) (id : Nat) (h2 : 2 ≤ id) {x : ByteArray} {k : Int} (hx : A.cells[id - 2]? = some (x, true, k)) :
    Calls Try.prog 12 #[.pointer (some ⟨b, 0, none⟩), .int .u32 id] w fun e w' => e = .returned (.tuple #[.string x, .bool true]) ∧ w = w' := by
  obtain ⟨F, ha, hw, M, hf⟩ := h
  exact get_live ha hw id h2 hx

theorem own_get_none {X : List Nat} {w0 w : World} {b : Nat} {A : AR ByteArray} (h : Own X w0 w b A) (id : Nat) (hu : id ≤ 4294967295) (hx : ¬ (2 ≤ id ∧ A.live (id - 2))) :
    Calls Try.prog 12 #[.pointer (some ⟨b, 0, none⟩), .int .u32 id] w fun e w' => e = .returned (.tuple #[.string ByteArray.empty, .bool false]) ∧ w = w' := by
  obtain ⟨F, ha, hw, M, hf⟩ := h
  exact get_none ha hw id hu hx

theorem own_len {X : List Nat} {w0 w : World} {b : Nat} {A : AR ByteArray} (h : Own X w0 w b A) :
    Calls Try.prog 10 #[.pointer (some ⟨b, 0, none⟩)] w fun e w' => e = .returned (.int .i64 A.n) ∧ w = w' := by
  obtain ⟨F, ha, hw, M, hf⟩ := h
  exact len_c ha
end Go.Proofs.Ytlkakkgmjihlaaa.S

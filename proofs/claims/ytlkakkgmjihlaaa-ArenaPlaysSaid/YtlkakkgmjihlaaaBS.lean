/- Contracts of the arena's methods, at one type of things. -/
import Derived.Test.YtlkakkgmjihlaaaA
import Derived.Deep.RegionLaw
set_option linter.unusedVariables false
set_option linter.unusedSimpArgs false
namespace Go.Proofs.Ytlkakkgmjihlaaa.S
open Go.RowKit

def cellOf (c : ByteArray × Bool × Int) : List Value := [.string c.1, .bool c.2.1, .int .i64 c.2.2]
theorem cellOf_len (c : ByteArray × Bool × Int) : (cellOf c).length = 3 := rfl

/-- The arena at block b; F: its blocks. -/
def IsAr (w : World) (b : Nat) (A : AR ByteArray) (F : List Nat) : Prop :=
  ∃ vc vf Fc Ff, Blk w b #[vc, vf, .int .i64 A.n, .int .i64 A.room] 64 ∧ Sl w 66 3 vc A.cells.length (recs cellOf A.cells) Fc ∧ Sl w 27 1 vf A.free.length (A.free.map fun (i : Nat) => .int .u32 (i : Int)) Ff ∧
    F = b :: (Fc ++ Ff) ∧ b ∉ Fc ∧ b ∉ Ff ∧ (∀ k ∈ Fc, k ∉ Ff)

theorem IsAr.mod {S : List Nat} {w w' : World} {b : Nat} {A : AR ByteArray} {F : List Nat} (h : IsAr w b A F) (m : Mod S w w') (hd : ∀ k ∈ F, k ∉ S) : IsAr w' b A F := by
  obtain ⟨vc, vf, Fc, Ff, hb, hc, hf, rfl, r⟩ := h
  exact ⟨vc, vf, Fc, Ff, hb.mod m (hd b (by simp)), hc.mod m (fun k hk => hd k (by simp [hk])), hf.mod m (fun k hk => hd k (by simp [hk])), rfl, r⟩

theorem IsAr.lt {w : World} {b : Nat} {A : AR ByteArray} {F : List Nat} (h : IsAr w b A F) : ∀ k ∈ F, k < w.heap.size := by
  obtain ⟨vc, vf, Fc, Ff, hb, hc, hf, rfl, r⟩ := h
  intro k hk
  simp at hk
  rcases hk with rfl | hk | hk
  · exact hb.lt
  · exact hc.lt k hk
  · exact hf.lt k hk

/-- The cell of a place, in memory. -/
theorem IsAr.cell {w : World} {b : Nat} {A : AR ByteArray} {F : List Nat} (h : IsAr w b A F) {i : Nat} {x : ByteArray} {l : Bool} {k : Int} (hi : A.cells[i]? = some (x, l, k)) :
    ∃ g cap, w.cell? ⟨b, 0, none⟩ = some (.slice (some ⟨g, 0, none⟩) A.cells.length cap) ∧ i < A.cells.length ∧
      (w.cell? ⟨g, i * 3, none⟩ = some (.string x) ∧ w.cell? ⟨g, i * 3 + 1, none⟩ = some (.bool l) ∧ w.cell? ⟨g, i * 3 + 2, none⟩ = some (.int .i64 k)) ∧
      (w.frozen? ⟨g, i * 3, none⟩ = false ∧ w.frozen? ⟨g, i * 3 + 1, none⟩ = false ∧ w.frozen? ⟨g, i * 3 + 2, none⟩ = false) ∧ g ∈ F ∧ g ≠ b := by
  obtain ⟨vc, vf, Fc, Ff, hb, hc, hf, rfl, r1, r2, r3⟩ := h
  obtain ⟨hlt, he⟩ := List.getElem?_eq_some_iff.1 hi
  obtain ⟨g, cap, rfl, rfl, hcap⟩ := hc.pos (by omega)
  have h0 := hc.at (i * 3 + 0) (by omega)
  have h1 := hc.at (i * 3 + 1) (by omega)
  have h2 := hc.at (i * 3 + 2) (by omega)
  rw [recs_get cellOf_len _ _ _ hlt (by omega), he] at h0 h1 h2
  refine ⟨g, cap, by rw [hb.cell]; rfl, hlt, ⟨h0.1, h1.1, h2.1⟩, ⟨h0.2.1, h1.2.1, h2.2.1⟩, by simp, fun e => ?_⟩
  subst e; simp at r1

/-- What the arena's own cells hold. -/
theorem IsAr.own {w : World} {b : Nat} {A : AR ByteArray} {F : List Nat} (h : IsAr w b A F) : ∃ a cap, w.cell? ⟨b, 0, none⟩ = some (.slice a A.cells.length cap) ∧ w.cell? ⟨b, 2, none⟩ = some (.int .i64 A.n) ∧ w.cell? ⟨b, 3, none⟩ = some (.int .i64 A.room) ∧ ∀ i, w.frozen? ⟨b, i, none⟩ = false := by
  obtain ⟨vc, vf, Fc, Ff, hb, hc, hf, rfl, r1, r2, r3⟩ := h
  obtain ⟨a, cap, rfl, _⟩ := hc.shape
  exact ⟨a, cap, by rw [hb.cell]; rfl, by rw [hb.cell]; rfl, by rw [hb.cell]; rfl, fun i => hb.froz i⟩

theorem new_c (r : Nat) (hr : r ≤ 1048576) (w : World) :
    Calls Try.prog 8 #[.int .i64 r] w fun e w' => e = .returned (.tuple #[.pointer (some ⟨w.heap.size, 0, none⟩), .int .u8 0]) ∧ IsAr w' w.heap.size ⟨[], [], 0, r⟩ [w.heap.size] ∧ Mod [] w w' := by
  go_enter Try.func8, Try.ntmps8
  go_wp2
  go_ret2
  refine ⟨rfl, ⟨.slice none 0 0, .slice none 0 0, [], [], Blk.new _ _ _, Sl.nil _ _ _, Sl.nil _ _ _, by simp, by simp, by simp, by simp⟩, (Mod.refl _ _).alloc _⟩

theorem new_bad (r : Int) (hr : r < 0 ∨ 1048576 < r) (w : World) :
    Calls Try.prog 8 #[.int .i64 r] w fun e w' => e = .returned (.tuple #[.pointer none, .int .u8 1]) ∧ w = w' := by
  by_cases h : r < 0
  · go_enter Try.func8, Try.ntmps8
    go_wp2
    go_ret2
    exact ⟨rfl, rfl⟩
  · have h' : 1048576 < r := by omega
    go_enter Try.func8, Try.ntmps8
    go_wp2
    go_ret2
    exact ⟨rfl, rfl⟩

set_option maxHeartbeats 400000 in
theorem at_raw (b g n cap i : Nat) (hi : i < n) (hn : n ≤ 1048576) (w : World) (c0 : w.cell? ⟨b, 0, none⟩ = some (.slice (some ⟨g, 0, none⟩) n cap)) (c1 : w.cell? ⟨g, i * 3 + 1, none⟩ = some (.bool true)) :
    Calls Try.prog 27 #[.pointer (some ⟨b, 0, none⟩), .int .u32 ((i : Int) + 2)] w fun e w' => e = .returned (.pointer (some ⟨g, i * 3, none⟩)) ∧ w = w' := by
  go_enter Try.func27, Try.ntmps27
  go_wp2
  go_ret
  exact ⟨rfl, rfl⟩

theorem at_dead (b g n cap i : Nat) (hi : i < n) (hn : n ≤ 1048576) (w : World) (c0 : w.cell? ⟨b, 0, none⟩ = some (.slice (some ⟨g, 0, none⟩) n cap)) (c1 : w.cell? ⟨g, i * 3 + 1, none⟩ = some (.bool false)) :
    Calls Try.prog 27 #[.pointer (some ⟨b, 0, none⟩), .int .u32 ((i : Int) + 2)] w fun e w' => e = .returned (.pointer none) ∧ w = w' := by
  go_enter Try.func27, Try.ntmps27
  go_wp2
  go_ret
  exact ⟨rfl, rfl⟩

theorem at_far (b n cap : Nat) (a : Option Addr) (id : Int) (h2 : 2 ≤ id) (hi : n ≤ id - 2) (hu : id ≤ 4294967295) (w : World) (c0 : w.cell? ⟨b, 0, none⟩ = some (.slice a n cap)) :
    Calls Try.prog 27 #[.pointer (some ⟨b, 0, none⟩), .int .u32 id] w fun e w' => e = .returned (.pointer none) ∧ w = w' := by
  have h3 : ¬ id < 2 := by omega
  go_enter Try.func27, Try.ntmps27
  go_wp2
  go_ret
  exact ⟨rfl, rfl⟩

theorem at_low (b : Nat) (id : Int) (h0 : 0 ≤ id) (h2 : id < 2) (w : World) :
    Calls Try.prog 27 #[.pointer (some ⟨b, 0, none⟩), .int .u32 id] w fun e w' => e = .returned (.pointer none) ∧ w = w' := by
  go_enter Try.func27, Try.ntmps27
  go_wp2
  go_ret
  exact ⟨rfl, rfl⟩

/-- at, of an id that has a thing. -/
theorem at_live {w : World} {b : Nat} {A : AR ByteArray} {F : List Nat} (h : IsAr w b A F) (hw : A.WF) (id : Nat) (h2 : 2 ≤ id) {x : ByteArray} {k : Int} (hx : A.cells[id - 2]? = some (x, true, k)) :
    ∃ g cap, w.cell? ⟨b, 0, none⟩ = some (.slice (some ⟨g, 0, none⟩) A.cells.length cap) ∧
      Calls Try.prog 27 #[.pointer (some ⟨b, 0, none⟩), .int .u32 id] w fun e w' => e = .returned (.pointer (some ⟨g, (id - 2) * 3, none⟩)) ∧ w = w' := by
  obtain ⟨g, cap, c0, hlt, ⟨_, c1, _⟩, _⟩ := h.cell hx
  refine ⟨g, cap, c0, ?_⟩
  have e : (id : Int) = ((id - 2 : Nat) : Int) + 2 := by omega
  rw [e]
  exact at_raw b g _ cap (id - 2) hlt (by have := hw.len; have := hw.room; omega) w c0 c1

/-- at, of an id that has none. -/
theorem at_none {w : World} {b : Nat} {A : AR ByteArray} {F : List Nat} (h : IsAr w b A F) (hw : A.WF) (id : Nat) (hu : id ≤ 4294967295) (hx : ¬ (2 ≤ id ∧ A.live (id - 2))) :
    Calls Try.prog 27 #[.pointer (some ⟨b, 0, none⟩), .int .u32 id] w fun e w' => e = .returned (.pointer none) ∧ w = w' := by
  by_cases h2 : 2 ≤ id
  · have hlen : A.cells.length ≤ 1048576 := by have := hw.len; have := hw.room; omega
    cases hc : A.cells[id - 2]? with
    | none =>
      obtain ⟨a, cap, c0, _⟩ := h.own
      have hge : A.cells.length ≤ id - 2 := List.getElem?_eq_none_iff.1 hc
      exact at_far b _ cap a id (by omega) (by omega) (by omega) w c0
    | some c =>
      obtain ⟨x, l, k⟩ := c
      cases l with
      | true => exact (hx ⟨h2, x, k, hc⟩).elim
      | false =>
        obtain ⟨g, cap, c0, hlt, ⟨_, c1, _⟩, _⟩ := h.cell hc
        have e : (id : Int) = ((id - 2 : Nat) : Int) + 2 := by omega
        rw [e]
        exact at_dead b g _ cap (id - 2) hlt hlen w c0 c1
  · exact at_low b id (by omega) (by omega) w

theorem len_c {w : World} {b : Nat} {A : AR ByteArray} {F : List Nat} (h : IsAr w b A F) :
    Calls Try.prog 10 #[.pointer (some ⟨b, 0, none⟩)] w fun e w' => e = .returned (.int .i64 A.n) ∧ w = w' := by
  obtain ⟨a, cap, _, c2, _⟩ := h.own
  clear h
  go_enter Try.func10, Try.ntmps10
  go_wp2
  go_ret
  exact ⟨rfl, rfl⟩

theorem get_live {w : World} {b : Nat} {A : AR ByteArray} {F : List Nat} (h : IsAr w b A F) (hw : A.WF) (id : Nat) (h2 : 2 ≤ id) {x : ByteArray} {k : Int} (hx : A.cells[id - 2]? = some (x, true, k)) :
    Calls Try.prog 12 #[.pointer (some ⟨b, 0, none⟩), .int .u32 id] w fun e w' => e = .returned (.tuple #[.string x, .bool true]) ∧ w = w' := by
  obtain ⟨g, cap, c0, hat⟩ := at_live h hw id h2 hx
  obtain ⟨g', cap', c0', hlt, ⟨d0, _, _⟩, _⟩ := h.cell hx
  rw [c0] at c0'
  simp at c0'
  obtain ⟨rfl, rfl⟩ := c0'
  have AT := Lib.hid hat
  clear hat c0 h hx hw
  generalize (id - 2) * 3 = p at *
  go_enter Try.func12, Try.ntmps12
  go_wp2_with fail
  refine AT.out.mono ?_
  rintro e w' ⟨rfl, rfl⟩
  go_wp2
  go_ret2
  exact ⟨rfl, rfl⟩

theorem get_none {w : World} {b : Nat} {A : AR ByteArray} {F : List Nat} (h : IsAr w b A F) (hw : A.WF) (id : Nat) (hu : id ≤ 4294967295) (hx : ¬ (2 ≤ id ∧ A.live (id - 2))) :
    Calls Try.prog 12 #[.pointer (some ⟨b, 0, none⟩), .int .u32 id] w fun e w' => e = .returned (.tuple #[.string ByteArray.empty, .bool false]) ∧ w = w' := by
  have AT := Lib.hid (at_none h hw id hu hx)
  clear hx
  go_enter Try.func12, Try.ntmps12
  go_wp2_with fail
  refine AT.out.mono ?_
  rintro e w' ⟨rfl, rfl⟩
  go_wp2
  go_ret2
  exact ⟨rfl, rfl⟩
end Go.Proofs.Ytlkakkgmjihlaaa.S

/- Contracts of the arena's methods Hold, Let, Set, Held, Room over ints; what no arena tells. -/
import Derived.Test.YtlkakkgmjihlaaaCI
set_option linter.unusedVariables false
set_option linter.unusedSimpArgs false
namespace Go.Proofs.Ytlkakkgmjihlaaa.I
open Go.RowKit

/-- A field of a cell is written. -/
theorem IsAr.field {w : World} {b : Nat} {A : AR Int} {F : List Nat} (h : IsAr w b A F) {i : Nat} {x x' : Int} {l l' : Bool} {k k' : Int} (hi : A.cells[i]? = some (x, l, k)) {g cap : Nat}
    (c0 : w.cell? ⟨b, 0, none⟩ = some (.slice (some ⟨g, 0, none⟩) A.cells.length cap)) (j : Nat) (hj : j < 3) (u : Value) (hc : cellOf (x', l', k') = (cellOf (x, l, k)).set j u) :
    IsAr (w.setCell ⟨g, i * 3 + j, none⟩ u) b { A with cells := A.cells.set i (x', l', k') } F ∧ Mod F w (w.setCell ⟨g, i * 3 + j, none⟩ u) := by
  obtain ⟨vc, vf, Fc, Ff, hb, hc', hf, rfl, r1, r2, r3⟩ := h
  obtain ⟨hlt, he⟩ := List.getElem?_eq_some_iff.1 hi
  rw [hb.cell] at c0
  simp at c0
  subst c0
  obtain rfl := hc'.block
  simp at r1 r3
  have M : Mod [g] w (w.setCell ⟨g, i * 3 + j, none⟩ u) := (Mod.refl _ _).setCell _ _ (by simp)
  refine ⟨⟨.slice (some ⟨g, 0, none⟩) A.cells.length cap, vf, [g], Ff, hb.mod M (by simp; omega), ?_, hf.mod M (fun k hk => by simp; intro e; subst e; exact r3 hk), rfl, by simp; omega, r2, by simp; exact r3⟩, M.mono (fun k _ hk => by simp at hk; simp [hk])⟩
  have := hc'.set (i * 3 + j) u
  rw [recs_set1 cellOf cellOf_len A.cells i j hlt hj (x', l', k') u (by rw [he]; exact hc)] at this
  simpa using this

theorem room_c {w : World} {b : Nat} {A : AR Int} {F : List Nat} (h : IsAr w b A F) :
    Calls Try.prog 24 #[.pointer (some ⟨b, 0, none⟩)] w fun e w' => e = .returned (.int .i64 A.room) ∧ w = w' := by
  obtain ⟨a, cap, _, _, c3, _⟩ := h.own
  clear h
  go_enter Try.func24, Try.ntmps24
  go_wp2
  go_ret
  exact ⟨rfl, rfl⟩

theorem held_live {w : World} {b : Nat} {A : AR Int} {F : List Nat} (h : IsAr w b A F) (hw : A.WF) (id : Nat) (h2 : 2 ≤ id) {x : Int} {k : Int} (hx : A.cells[id - 2]? = some (x, true, k)) :
    Calls Try.prog 23 #[.pointer (some ⟨b, 0, none⟩), .int .u32 id] w fun e w' => e = .returned (.int .i64 k) ∧ w = w' := by
  obtain ⟨g, cap, c0, hat⟩ := at_live h hw id h2 hx
  obtain ⟨g', cap', c0', hlt, ⟨_, _, d2⟩, _⟩ := h.cell hx
  rw [c0] at c0'
  simp at c0'
  obtain ⟨rfl, rfl⟩ := c0'
  have AT := Lib.hid hat
  clear hat c0 h hx hw
  generalize (id - 2) * 3 = p at *
  go_enter Try.func23, Try.ntmps23
  go_wp2_with fail
  refine AT.out.mono ?_
  rintro e w' ⟨rfl, rfl⟩
  go_wp2
  go_ret
  exact ⟨rfl, rfl⟩

theorem held_none {w : World} {b : Nat} {A : AR Int} {F : List Nat} (h : IsAr w b A F) (hw : A.WF) (id : Nat) (hu : id ≤ 4294967295) (hx : ¬ (2 ≤ id ∧ A.live (id - 2))) :
    Calls Try.prog 23 #[.pointer (some ⟨b, 0, none⟩), .int .u32 id] w fun e w' => e = .returned (.int .i64 0) ∧ w = w' := by
  have AT := Lib.hid (at_none h hw id hu hx)
  clear hx
  go_enter Try.func23, Try.ntmps23
  go_wp2_with fail
  refine AT.out.mono ?_
  rintro e w' ⟨rfl, rfl⟩
  go_wp2
  go_ret
  exact ⟨rfl, rfl⟩

theorem set_none {w : World} {b : Nat} {A : AR Int} {F : List Nat} (h : IsAr w b A F) (hw : A.WF) (id : Nat) (hu : id ≤ 4294967295) (hx : ¬ (2 ≤ id ∧ A.live (id - 2))) (y : Int) :
    Calls Try.prog 22 #[.pointer (some ⟨b, 0, none⟩), .int .u32 id, .int .i64 y] w fun e w' => e = .returned (.bool false) ∧ w = w' := by
  have AT := Lib.hid (at_none h hw id hu hx)
  clear hx
  go_enter Try.func22, Try.ntmps22
  go_wp2_with fail
  refine AT.out.mono ?_
  rintro e w' ⟨rfl, rfl⟩
  go_wp2
  go_ret
  exact ⟨rfl, rfl⟩

theorem set_live {w : World} {b : Nat} {A : AR Int} {F : List Nat} (h : IsAr w b A F) (hw : A.WF) (id : Nat) (h2 : 2 ≤ id) {x : Int} {k : Int} (hx : A.cells[id - 2]? = some (x, true, k)) (y : Int) :
    Calls Try.prog 22 #[.pointer (some ⟨b, 0, none⟩), .int .u32 id, .int .i64 y] w fun e w' => e = .returned (.bool true) ∧ IsAr w' b (A.modify id (y, true, k)) F ∧ Mod F w w' := by
  obtain ⟨g, cap, c0, hat⟩ := at_live h hw id h2 hx
  obtain ⟨g', cap', c0', hlt, ⟨d0, _, _⟩, ⟨e0, _, _⟩, _⟩ := h.cell hx
  rw [c0] at c0'
  simp at c0'
  obtain ⟨rfl, rfl⟩ := c0'
  have AT := Lib.hid hat
  have HC := Lib.hid (IsAr.field h hx c0 0 (by omega) (.int .i64 y) (x' := y) (l' := true) (k' := k) rfl)
  clear hat c0 h hx hw
  unfold AR.modify
  generalize hp : (id - 2) * 3 = p at *
  have HP := Lib.hid hp
  clear hp
  go_enter Try.func22, Try.ntmps22
  go_wp2_with fail
  refine AT.out.mono ?_
  rintro e w' ⟨rfl, rfl⟩
  go_wp2
  go_ret
  exact ⟨rfl, HC.out⟩

theorem hold_none {w : World} {b : Nat} {A : AR Int} {F : List Nat} (h : IsAr w b A F) (hw : A.WF) (id : Nat) (hu : id ≤ 4294967295) (hx : ¬ (2 ≤ id ∧ A.live (id - 2))) :
    Calls Try.prog 15 #[.pointer (some ⟨b, 0, none⟩), .int .u32 id] w fun e w' => e = .returned (.bool false) ∧ w = w' := by
  have AT := Lib.hid (at_none h hw id hu hx)
  clear hx
  go_enter Try.func15, Try.ntmps15
  go_wp2_with fail
  refine AT.out.mono ?_
  rintro e w' ⟨rfl, rfl⟩
  go_wp2
  go_ret
  exact ⟨rfl, rfl⟩

theorem hold_live {w : World} {b : Nat} {A : AR Int} {F : List Nat} (h : IsAr w b A F) (hw : A.WF) (id : Nat) (h2 : 2 ≤ id) {x : Int} {k : Int} (hx : A.cells[id - 2]? = some (x, true, k)) (hk0 : 0 ≤ k) (hk1 : k ≤ 1000000000) :
    Calls Try.prog 15 #[.pointer (some ⟨b, 0, none⟩), .int .u32 id] w fun e w' => e = .returned (.bool true) ∧ IsAr w' b (A.modify id (x, true, k + 1)) F ∧ Mod F w w' := by
  obtain ⟨g, cap, c0, hat⟩ := at_live h hw id h2 hx
  obtain ⟨g', cap', c0', hlt, ⟨_, _, d2⟩, ⟨_, _, e2⟩, _⟩ := h.cell hx
  rw [c0] at c0'
  simp at c0'
  obtain ⟨rfl, rfl⟩ := c0'
  have AT := Lib.hid hat
  have HC := Lib.hid (IsAr.field h hx c0 2 (by omega) (.int .i64 (k + 1)) (x' := x) (l' := true) (k' := k + 1) rfl)
  clear hat c0 h hx hw
  unfold AR.modify
  generalize hp : (id - 2) * 3 = p at *
  have HP := Lib.hid hp
  clear hp
  go_enter Try.func15, Try.ntmps15
  go_wp2_with fail
  refine AT.out.mono ?_
  rintro e w' ⟨rfl, rfl⟩
  go_wp2
  go_ret
  exact ⟨rfl, HC.out⟩

theorem let_none {w : World} {b : Nat} {A : AR Int} {F : List Nat} (h : IsAr w b A F) (hw : A.WF) (id : Nat) (hu : id ≤ 4294967295) (hx : ¬ (2 ≤ id ∧ A.live (id - 2))) :
    Calls Try.prog 17 #[.pointer (some ⟨b, 0, none⟩), .int .u32 id] w fun e w' => e = .returned (.bool false) ∧ w = w' := by
  have AT := Lib.hid (at_none h hw id hu hx)
  clear hx
  go_enter Try.func17, Try.ntmps17
  go_wp2_with fail
  refine AT.out.mono ?_
  rintro e w' ⟨rfl, rfl⟩
  go_wp2
  go_ret
  exact ⟨rfl, rfl⟩

theorem let_free {w : World} {b : Nat} {A : AR Int} {F : List Nat} (h : IsAr w b A F) (hw : A.WF) (id : Nat) (h2 : 2 ≤ id) {x : Int} (hx : A.cells[id - 2]? = some (x, true, 0)) :
    Calls Try.prog 17 #[.pointer (some ⟨b, 0, none⟩), .int .u32 id] w fun e w' => e = .returned (.bool false) ∧ w = w' := by
  obtain ⟨g, cap, c0, hat⟩ := at_live h hw id h2 hx
  obtain ⟨g', cap', c0', hlt, ⟨_, _, d2⟩, ⟨_, _, e2⟩, _⟩ := h.cell hx
  rw [c0] at c0'
  simp at c0'
  obtain ⟨rfl, rfl⟩ := c0'
  have AT := Lib.hid hat
  clear hat c0 h hx hw
  generalize (id - 2) * 3 = p at *
  go_enter Try.func17, Try.ntmps17
  go_wp2_with fail
  refine AT.out.mono ?_
  rintro e w' ⟨rfl, rfl⟩
  go_wp2
  go_ret
  exact ⟨rfl, rfl⟩

theorem let_held {w : World} {b : Nat} {A : AR Int} {F : List Nat} (h : IsAr w b A F) (hw : A.WF) (id : Nat) (h2 : 2 ≤ id) {x : Int} {k : Int} (hx : A.cells[id - 2]? = some (x, true, k)) (hk0 : 1 ≤ k) (hk1 : k ≤ 1000000000) :
    Calls Try.prog 17 #[.pointer (some ⟨b, 0, none⟩), .int .u32 id] w fun e w' => e = .returned (.bool true) ∧ IsAr w' b (A.modify id (x, true, k - 1)) F ∧ Mod F w w' := by
  obtain ⟨g, cap, c0, hat⟩ := at_live h hw id h2 hx
  obtain ⟨g', cap', c0', hlt, ⟨_, _, d2⟩, ⟨_, _, e2⟩, _⟩ := h.cell hx
  rw [c0] at c0'
  simp at c0'
  obtain ⟨rfl, rfl⟩ := c0'
  have AT := Lib.hid hat
  have HC := Lib.hid (IsAr.field h hx c0 2 (by omega) (.int .i64 (k - 1)) (x' := x) (l' := true) (k' := k - 1) rfl)
  clear hat c0 h hx hw
  unfold AR.modify
  generalize hp : (id - 2) * 3 = p at *
  have HP := Lib.hid hp
  have hne : (k == 0) = false := by rw [beq_eq_false_iff_ne]; omega
  clear hp
  go_enter Try.func17, Try.ntmps17
  go_wp2_with fail
  refine AT.out.mono ?_
  rintro e w' ⟨rfl, rfl⟩
  go_wp2
  go_ret
  exact ⟨rfl, HC.out⟩

/-! No arena. -/
theorem at_nil (id : Int) (w : World) : Calls Try.prog 28 #[.pointer none, .int .u32 id] w fun e w' => e = .returned (.pointer none) ∧ w = w' := by
  go_enter Try.func28, Try.ntmps28
  go_wp2
  go_ret
  exact ⟨rfl, rfl⟩
theorem put_nil (x : Int) (w : World) : Calls Try.prog 14 #[.pointer none, .int .i64 x] w fun e w' => e = .returned (.tuple #[.int .u32 0, .bool false]) ∧ ∃ d, w' = w.drewN d := by
  go_enter Try.func14, Try.ntmps14
  go_wp2
  go_quiet (fail)
  go_wp2
  go_ret2
  exact ⟨rfl, _, rfl⟩
theorem get_nil (id : Int) (w : World) : Calls Try.prog 18 #[.pointer none, .int .u32 id] w fun e w' => e = .returned (.tuple #[.int .i64 0, .bool false]) ∧ w = w' := by
  go_enter Try.func18, Try.ntmps18
  go_wp2_with (go_at_call 28; refine (at_nil _ _).mono ?_; rintro e w' ⟨rfl, rfl⟩)
  go_ret2
  exact ⟨rfl, rfl⟩
theorem set_nil (id x : Int) (w : World) : Calls Try.prog 22 #[.pointer none, .int .u32 id, .int .i64 x] w fun e w' => e = .returned (.bool false) ∧ w = w' := by
  go_enter Try.func22, Try.ntmps22
  go_wp2_with (go_at_call 28; refine (at_nil _ _).mono ?_; rintro e w' ⟨rfl, rfl⟩)
  go_ret
  exact ⟨rfl, rfl⟩
theorem drop_nil (id : Int) (w : World) : Calls Try.prog 16 #[.pointer none, .int .u32 id] w fun e w' => e = .returned (.bool false) ∧ w = w' := by
  go_enter Try.func16, Try.ntmps16
  go_wp2_with (go_at_call 28; refine (at_nil _ _).mono ?_; rintro e w' ⟨rfl, rfl⟩)
  go_ret
  exact ⟨rfl, rfl⟩
theorem hold_nil (id : Int) (w : World) : Calls Try.prog 15 #[.pointer none, .int .u32 id] w fun e w' => e = .returned (.bool false) ∧ w = w' := by
  go_enter Try.func15, Try.ntmps15
  go_wp2_with (go_at_call 28; refine (at_nil _ _).mono ?_; rintro e w' ⟨rfl, rfl⟩)
  go_ret
  exact ⟨rfl, rfl⟩
theorem let_nil (id : Int) (w : World) : Calls Try.prog 17 #[.pointer none, .int .u32 id] w fun e w' => e = .returned (.bool false) ∧ w = w' := by
  go_enter Try.func17, Try.ntmps17
  go_wp2_with (go_at_call 28; refine (at_nil _ _).mono ?_; rintro e w' ⟨rfl, rfl⟩)
  go_ret
  exact ⟨rfl, rfl⟩
theorem held_nil (id : Int) (w : World) : Calls Try.prog 23 #[.pointer none, .int .u32 id] w fun e w' => e = .returned (.int .i64 0) ∧ w = w' := by
  go_enter Try.func23, Try.ntmps23
  go_wp2_with (go_at_call 28; refine (at_nil _ _).mono ?_; rintro e w' ⟨rfl, rfl⟩)
  go_ret
  exact ⟨rfl, rfl⟩
theorem len_nil (w : World) : Calls Try.prog 19 #[.pointer none] w fun e w' => e = .returned (.int .i64 0) ∧ w = w' := by
  go_enter Try.func19, Try.ntmps19
  go_wp2
  go_ret
  exact ⟨rfl, rfl⟩
theorem room_nil (w : World) : Calls Try.prog 24 #[.pointer none] w fun e w' => e = .returned (.int .i64 0) ∧ w = w' := by
  go_enter Try.func24, Try.ntmps24
  go_wp2
  go_ret
  exact ⟨rfl, rfl⟩
end Go.Proofs.Ytlkakkgmjihlaaa.I

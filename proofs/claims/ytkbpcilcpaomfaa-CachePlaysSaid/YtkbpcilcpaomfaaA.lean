/- Contracts of the cache's methods: New, at, Put, Get, Flush, Hits, Misses, Epoch. -/
import Derived.Test.YtkbpcilcpaomfaaCommon
set_option linter.unusedVariables false
set_option linter.unusedSimpArgs false
namespace Go.Proofs.Ytkbpcilcpaomfaa
open Go.RowKit

theorem hash_c (k : Int) (h0 : 0 ≤ k) (h1 : k ≤ 4294967295) (w : World) :
    Calls Try.prog 32 #[.int .u32 k] w fun e w' => e = .returned (.int .u64 k) ∧ w' = w := by
  go_enter Try.func32, Try.ntmps32
  go_wp2
  go_ret
  exact ⟨rfl, rfl⟩

theorem nil_ahead (k : Int) (w : World) : (nilAhead 69 29 (.int .u32 k) "Hash").run Try.prog w = .ok (some false) w := by kernel_rfl
theorem method_hash (k : Int) (w : World) : (method 169 29 (.int .u32 k) "Hash").run Try.prog w = .ok (32, .int .u32 k) w := by kernel_rfl

theorem mask (k j : Nat) (h1 : k ≤ 4294967295) (hj : j ≤ 20) : bits .and .u64 (k : Int) (((2 ^ j : Nat) : Int) - 1) = ((k % 2 ^ j : Nat) : Int) := by
  have h2 : 2 ^ j ≤ 2 ^ 20 := Nat.pow_le_pow_right (by omega) hj
  have h3 : 1 ≤ 2 ^ j := Nat.one_le_two_pow
  have e : ((2 ^ j : Nat) : Int) - 1 = ((2 ^ j - 1 : Nat) : Int) := by omega
  rw [e, u64_and_nat _ _ (by omega) (by omega), Nat.and_two_pow_sub_one_eq_mod]

/-- The table's cells: of place i a key, a value, an epoch. -/
def Tab (w : World) (g n : Nat) (ent : Nat → Nat × Int × Int) : Prop :=
  ∃ T, Blk w g T 49 ∧ T.size = n * 3 ∧ ∀ i, i < n → T[i * 3]? = some (.int .u32 (ent i).1) ∧ T[i * 3 + 1]? = some (.int .i64 (ent i).2.1) ∧ T[i * 3 + 2]? = some (.int .i64 (ent i).2.2)

def upd {α : Type} (f : Nat → α) (q : Nat) (x : α) : Nat → α := fun i => if i = q then x else f i

/-- The cache itself. -/
def Head (w : World) (b g n : Nat) (e hi mi : Int) : Prop :=
  Blk w b #[.slice (some ⟨g, 0, none⟩) n n, .int .i64 e, .int .i64 hi, .int .i64 mi] 47

theorem Tab.cells {w : World} {g n : Nat} {ent : Nat → Nat × Int × Int} (h : Tab w g n ent) (i : Nat) (hi : i < n) :
    (w.cell? ⟨g, i * 3, none⟩ = some (.int .u32 (ent i).1) ∧ w.cell? ⟨g, i * 3 + 1, none⟩ = some (.int .i64 (ent i).2.1) ∧ w.cell? ⟨g, i * 3 + 2, none⟩ = some (.int .i64 (ent i).2.2)) ∧
    ∀ j, w.frozen? ⟨g, j, none⟩ = false := by
  obtain ⟨T, hb, hs, hT⟩ := h
  refine ⟨?_, fun j => hb.froz j⟩
  rw [hb.cell, hb.cell, hb.cell]
  exact hT i hi

theorem Tab.store {w : World} {g n : Nat} {ent : Nat → Nat × Int × Int} (h : Tab w g n ent) (i : Nat) (hi : i < n) (k : Nat) (v e : Int) :
    Tab (((w.setCell ⟨g, i * 3, none⟩ (.int .u32 k)).setCell ⟨g, i * 3 + 1, none⟩ (.int .i64 v)).setCell ⟨g, i * 3 + 2, none⟩ (.int .i64 e)) g n (upd ent i (k, v, e)) := by
  obtain ⟨T, hb, hs, hT⟩ := h
  refine ⟨_, ((hb.set _ _).set _ _).set _ _, by simpa using hs, fun l hl => ?_⟩
  have h1 := hT l hl
  have h2 := hT i hi
  simp only [Array.getElem?_setIfInBounds, Array.size_setIfInBounds, hs, upd]
  by_cases hil : l = i
  · subst hil
    have a1 : l * 3 < n * 3 := by omega
    have a2 : l * 3 + 1 < n * 3 := by omega
    have a3 : l * 3 + 2 < n * 3 := by omega
    simp [a1, a2, a3]
  · rw [if_neg hil, if_neg (by omega), if_neg (by omega), if_neg (by omega), if_neg (by omega), if_neg (by omega), if_neg (by omega), if_neg (by omega), if_neg (by omega), if_neg (by omega)]
    exact h1

theorem Tab.mod {S : List Nat} {w w' : World} {g n : Nat} {ent : Nat → Nat × Int × Int} (h : Tab w g n ent) (m : Mod S w w') (hn : g ∉ S) : Tab w' g n ent := by
  obtain ⟨T, hb, hs, hT⟩ := h
  exact ⟨T, hb.mod m hn, hs, hT⟩

set_option maxHeartbeats 400000 in
theorem at_c (k : Nat) (h1 : k ≤ 4294967295) (b g j n : Nat) (hj : j ≤ 20) (hn : n = 2 ^ j) (e hi mi : Int) (w : World) (hb : Head w b g n e hi mi) :
    Calls Try.prog 15 #[.pointer (some ⟨b, 0, none⟩), .int .u32 k] w fun e w' => e = .returned (.pointer (some ⟨g, k % n * 3, none⟩)) ∧ ∃ d, w' = w.drewN d := by
  have c0 := hb.cell 0
  simp at c0
  clear hb
  have na := nil_ahead
  have me := method_hash
  have hm := mask k j h1 hj
  rw [← hn] at hm
  have hn1 : n ≤ 1048576 := by rw [hn]; exact Nat.pow_le_pow_right (by omega) hj
  have hn2 : 0 < n := by rw [hn]; exact Nat.two_pow_pos j
  have hlt : k % n < n := Nat.mod_lt _ hn2
  generalize k % n = q at *
  clear hn
  go_enter Try.func15, Try.ntmps15
  go_wp2
  go_quiet ((go_at_call 32; exact Calls.quiet_of_same (hash_c _ (by omega) (by omega) _)))
  go_wp2
  go_ret
  exact ⟨rfl, _, rfl⟩

set_option maxHeartbeats 800000 in
theorem put_c (k : Nat) (h1 : k ≤ 4294967295) (v : Int) (b g j n : Nat) (hj : j ≤ 20) (hn : n = 2 ^ j) (e hi mi : Int) (ent : Nat → Nat × Int × Int) (w : World)
    (hb : Head w b g n e hi mi) (hg : Tab w g n ent) :
    Calls Try.prog 8 #[.pointer (some ⟨b, 0, none⟩), .int .u32 k, .int .i64 v] w fun e' w' => e' = .returned (.tuple #[]) ∧ Tab w' g n (upd ent (k % n) (k, v, e)) ∧ Mod [g] w w' := by
  have c1 := hb.cell 1
  simp at c1
  have hn2 : 0 < n := by rw [hn]; exact Nat.two_pow_pos j
  have hlt : k % n < n := Nat.mod_lt _ hn2
  obtain ⟨⟨d0, d1, d2⟩, df⟩ := hg.cells (k % n) hlt
  have f0 := df (k % n * 3)
  have f1 := df (k % n * 3 + 1)
  have f2 := df (k % n * 3 + 2)
  have HT := Lib.hid hg
  have HB := Lib.hid hb
  have HN := Lib.hid hn
  have at' := fun W (hW : Head W b g n e hi mi) => at_c k h1 b g j n hj HN.out e hi mi W hW
  have AT := Lib.hid at'
  clear at' df hg hb hn
  generalize k % n = q at *
  go_enter Try.func8, Try.ntmps8
  go_wp2
  go_region_with (go_at_call 15; refine (AT.out _ (by exact HB.out)).mono ?_; rintro e' w' ⟨rfl, d, rfl⟩)
  all_goals
    go_wp2
    go_end0
    exact ⟨rfl, (Tab.store (w := w.drewN _) HT.out q hlt k v e), (((Mod.refl [g] w).drewN _).setCell _ _ (by simp)).setCell _ _ (by simp) |>.setCell _ _ (by simp)⟩
end Go.Proofs.Ytkbpcilcpaomfaa

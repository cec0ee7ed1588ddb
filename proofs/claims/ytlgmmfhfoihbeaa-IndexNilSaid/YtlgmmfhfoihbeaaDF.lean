/- The index's methods New, Len, Get, grow, Put, at one type of keys. -/
import Derived.Test.YtlgmmfhfoihbeaaCF
set_option linter.unusedVariables false
set_option linter.unusedSimpArgs false
namespace Go.Proofs.Ytlgmmfhfoihbeaa.F
open Go.RowKit

/-- The index at block b, its slots at block g. -/
def Hd (w : World) (b g n c : Nat) : Prop := ∃ cap, Blk w b #[.slice (some ⟨g, 0, none⟩) n cap, .int .i64 c] 59
theorem Hd.own {w : World} {b g n c : Nat} (h : Hd w b g n c) : ∃ cap, w.cell? ⟨b, 0, none⟩ = some (.slice (some ⟨g, 0, none⟩) n cap) ∧ w.cell? ⟨b, 1, none⟩ = some (.int .i64 c) ∧ ∀ i, w.frozen? ⟨b, i, none⟩ = false := by
  obtain ⟨cap, hb⟩ := h
  exact ⟨cap, by rw [hb.cell]; rfl, by rw [hb.cell]; rfl, fun i => hb.froz i⟩
theorem Hd.lt {w : World} {b g n c : Nat} (h : Hd w b g n c) : b < w.heap.size := by obtain ⟨_, hb⟩ := h; exact hb.lt
theorem Hd.mod {S : List Nat} {w w' : World} {b g n c : Nat} (h : Hd w b g n c) (m : Mod S w w') (hn : b ∉ S) : Hd w' b g n c := by
  obtain ⟨cap, hb⟩ := h; exact ⟨cap, hb.mod m hn⟩
theorem Hd.count {w : World} {b g n c : Nat} (h : Hd w b g n c) (c' : Nat) : Hd (w.setCell ⟨b, 1, none⟩ (.int .i64 c')) b g n c' := by
  obtain ⟨cap, hb⟩ := h; exact ⟨cap, hb.set _ _⟩
theorem Hd.slots {w : World} {b g n c : Nat} (h : Hd w b g n c) (g' n' cap' : Nat) : Hd (w.setCell ⟨b, 0, none⟩ (.slice (some ⟨g', 0, none⟩) n' cap')) b g' n' c := by
  obtain ⟨cap, hb⟩ := h; exact ⟨cap', hb.set _ _⟩

theorem Hd.drewN {w : World} {b g n c : Nat} (h : Hd w b g n c) (d : Nat) : Hd (w.drewN d) b g n c := h
theorem Tab.drewN {w : World} {g n : Nat} {T : Slots} (h : Tab w g n T) (d : Nat) : Tab (w.drewN d) g n T := h

theorem Try.infoT : (Try.prog.info? 62).map (fun i => (i.zero, i.size, i.bytes)) = some (some (.agg #[.int .u32 0, .int .u32 0, .bool false]), 3, 12) := by kernel_rfl
theorem make_c (N : Nat) (h1 : 1 ≤ N) (hN : N ≤ 1048576) (w : World) : (Instr.makeSlice 57 (.int .i64 N) (.int .i64 N)).run Try.prog w = .ok (.slice (some ⟨w.heap.size, 0, none⟩) N N) (w.alloc (.cells (madeCells #[.int .u32 0, .int .u32 0, .bool false] (N * 3)) 62)) := by
  obtain ⟨i0, hi, hz0, hz1, hz2⟩ := info_parts Try.infoT
  have := run_make (P := Try.prog) w 57 62 i0 _ Try.underlying57 hi hz0 .i64 .i64 N N (by omega) (by omega) (by rw [hz2]; omega) (by omega)
  simpa [hz1, Value.cells] using this

theorem new_c (w : World) :
    Calls Try.prog 12 #[] w fun e w' => e = .returned (.pointer (some ⟨w.heap.size + 1, 0, none⟩)) ∧ Hd w' (w.heap.size + 1) w.heap.size 8 0 ∧ Tab w' w.heap.size 8 (fun _ => (0, 0, false)) ∧ Mod [] w w' := by
  have hmk : ∀ w, (Instr.makeSlice 57 (.int .i64 8) (.int .i64 8)).run Try.prog w = .ok (.slice (some ⟨w.heap.size, 0, none⟩) 8 8) (w.alloc (.cells (madeCells #[.int .u32 0, .int .u32 0, .bool false] (8 * 3)) 62)) := make_c 8 (by omega) (by omega)
  go_enter Try.func12, Try.ntmps12
  go_wp2
  go_ret
  refine ⟨by simp, ⟨_, Blk.new' _ _ _ _ (by simp)⟩, (Tab.made w 8 w.heap.size rfl).mod ((Mod.refl [] _).alloc _) (by simp), ((Mod.refl _ _).alloc _).alloc _⟩

theorem len_c {w : World} {b g n c : Nat} (h : Hd w b g n c) :
    Calls Try.prog 20 #[.pointer (some ⟨b, 0, none⟩)] w fun e w' => e = .returned (.int .i64 c) ∧ w = w' := by
  obtain ⟨cap, _, c1, _⟩ := h.own
  clear h
  go_enter Try.func20, Try.ntmps20
  go_wp2
  go_ret
  exact ⟨rfl, rfl⟩

/-- What a find answers. -/
theorem find_t {w : World} {b g n c : Nat} {T : Slots} {R : Nat → Nat → Prop} {cc : Nat} (hH : Hd w b g n cc) (hT : Tab w g n T) (hw : IW n (hm n) T R c) (hc : c < n) (j : Nat) (hj : j ≤ 20) (hn : n = 2 ^ j) (hn2 : 2 ≤ n) (k : Nat) (hk : k ≤ 4294967295) :
    Calls Try.prog 25 #[.pointer (some ⟨b, 0, none⟩), .int .u32 k] w fun e w' => e = .returned (.int .i64 (probe T n k n (hm n k))) ∧ w = w' := by
  obtain ⟨cap, c0, _⟩ := hH.own
  exact find_c j n hj hn hn2 k hk b g cap T w c0 hT (hw.stops hc k)

theorem find_m {w : World} {b g n c : Nat} {T : Slots} {R : Nat → Nat → Prop} {cc : Nat} (hH : Hd w b g n cc) (hT : Tab w g n T) (hw : IW n (hm n) T R c) (hc : c < n) (j : Nat) (hj : j ≤ 20) (hn : n = 2 ^ j) (hn2 : 2 ≤ n) (k : Nat) (hk : k ≤ 4294967295) :
    ∀ W, Mod [] w W → Calls Try.prog 25 #[.pointer (some ⟨b, 0, none⟩), .int .u32 k] W fun e w' => e = .returned (.int .i64 (probe T n k n (hm n k))) ∧ W = w' :=
  fun W m => find_t (hH.mod m (by simp)) (hT.mod m (by simp)) hw hc j hj hn hn2 k hk

set_option maxHeartbeats 1000000 in
theorem get_raw {w : World} {b g n : Nat} {T : Slots} {cap : Nat} (c0 : w.cell? ⟨b, 0, none⟩ = some (.slice (some ⟨g, 0, none⟩) n cap)) (k p : Nat) (hp : p < n) (hn : n ≤ 1048576) (hT : Tab w g n T)
    (hf : ∀ W : World, Mod [] w W → Calls Try.prog 25 #[.pointer (some ⟨b, 0, none⟩), .int .u32 k] W fun e w' => e = .returned (.int .i64 p) ∧ W = w') (o : Bool) (hid : (T p).2.2 = o) :
    Calls Try.prog 17 #[.pointer (some ⟨b, 0, none⟩), .int .u32 k] w fun e w' => e = .returned (.tuple #[.int .u32 (if o = true then ((T p).2.1 : Int) else 0), .bool o]) ∧ Mod [] w w' := by
  obtain ⟨⟨d0, d1, d2⟩, _⟩ := hT.cells p hp
  rw [hid] at d2
  have hgl := hT.lt
  have hbl := World.block_lt_of_cell? w _ c0
  have hgne : ¬ g = w.heap.size := by omega
  have hbne : ¬ b = w.heap.size := by simp at hbl; omega
  clear hT
  have FI := Lib.hid hf
  clear hf hid
  generalize (T p).1 = tk at *
  generalize (T p).2.1 = tid at *
  go_enter Try.func17, Try.ntmps17
  cases o with
  | true =>
    go_wp2
    go_region_with (go_at_call 25; refine (FI.out _ (by (repeat (first | exact Mod.refl _ _ | apply Mod.drew | apply Mod.drewN | apply Mod.alloc | refine Mod.setCell ?_ _ _ (by first | simp | (simp; omega)))))).mono ?_; rintro e' w' ⟨rfl, rfl⟩)
    all_goals
      go_wp2
      go_ret2
      exact ⟨by simp, by (repeat (first | exact Mod.refl _ _ | apply Mod.drew | apply Mod.drewN | apply Mod.alloc | refine Mod.setCell ?_ _ _ (by first | simp | (simp; omega))))⟩
  | false =>
    go_wp2
    go_region_with (go_at_call 25; refine (FI.out _ (by (repeat (first | exact Mod.refl _ _ | apply Mod.drew | apply Mod.drewN | apply Mod.alloc | refine Mod.setCell ?_ _ _ (by first | simp | (simp; omega)))))).mono ?_; rintro e' w' ⟨rfl, rfl⟩)
    all_goals
      go_wp2
      go_ret2
      exact ⟨by simp, by (repeat (first | exact Mod.refl _ _ | apply Mod.drew | apply Mod.drewN | apply Mod.alloc | refine Mod.setCell ?_ _ _ (by first | simp | (simp; omega))))⟩

end Go.Proofs.Ytlgmmfhfoihbeaa.F

/- Contracts of the cache's methods: Get, Flush, Hits, Misses, Epoch, New. -/
import Derived.Test.YtkbpcilcpaomfaaA
set_option linter.unusedVariables false
set_option linter.unusedSimpArgs false
namespace Go.Proofs.Ytkbpcilcpaomfaa
open Go.RowKit

theorem Head.set2 {w : World} {b g n : Nat} {e hi mi : Int} (h : Head w b g n e hi mi) (x : Int) : Head (w.setCell ⟨b, 2, none⟩ (.int .i64 x)) b g n e x mi := by
  unfold Head at *; simpa using h.set 2 (.int .i64 x)
theorem Head.set3 {w : World} {b g n : Nat} {e hi mi : Int} (h : Head w b g n e hi mi) (x : Int) : Head (w.setCell ⟨b, 3, none⟩ (.int .i64 x)) b g n e hi x := by
  unfold Head at *; simpa using h.set 3 (.int .i64 x)
theorem Head.set1 {w : World} {b g n : Nat} {e hi mi : Int} (h : Head w b g n e hi mi) (x : Int) : Head (w.setCell ⟨b, 1, none⟩ (.int .i64 x)) b g n x hi mi := by
  unfold Head at *; simpa using h.set 1 (.int .i64 x)

set_option maxHeartbeats 800000 in
theorem get_hit (k : Nat) (h1 : k ≤ 4294967295) (b g j n : Nat) (hj : j ≤ 20) (hn : n = 2 ^ j) (e hi mi : Int) (hh0 : 0 ≤ hi) (hh : hi ≤ 1000000000) (ent : Nat → Nat × Int × Int) (w : World)
    (hb : Head w b g n e hi mi) (hg : Tab w g n ent) (hbg : b ≠ g) (he : (ent (k % n)).2.2 = e) (hk : (ent (k % n)).1 = k) :
    Calls Try.prog 9 #[.pointer (some ⟨b, 0, none⟩), .int .u32 k] w fun e' w' => e' = .returned (.tuple #[.int .i64 (ent (k % n)).2.1, .bool true]) ∧ Head w' b g n e (hi + 1) mi ∧ Mod [b] w w' := by
  have c1 := hb.cell 1
  have c2 := hb.cell 2
  have g2 := hb.froz 2
  simp at c1 c2
  have hn2 : 0 < n := by rw [hn]; exact Nat.two_pow_pos j
  have hlt : k % n < n := Nat.mod_lt _ hn2
  obtain ⟨⟨d0, d1, d2⟩, df⟩ := hg.cells (k % n) hlt
  rw [he] at d2
  rw [hk] at d0
  have HB := Lib.hid hb
  have HN := Lib.hid hn
  have at' := fun W (hW : Head W b g n e hi mi) => at_c k h1 b g j n hj HN.out e hi mi W hW
  have AT := Lib.hid at'
  clear at' df hg hb hn he hk
  generalize k % n = q at *
  generalize (ent q).2.1 = v at *
  go_enter Try.func9, Try.ntmps9
  go_wp2_with (go_at_call 15; refine (AT.out _ (by exact HB.out)).mono ?_; rintro e' w' ⟨rfl, d, rfl⟩)
  go_quiet (fail)
  go_wp2
  go_ret2
  exact ⟨rfl, Head.set2 (w := w.drewN _) HB.out _, ((Mod.refl [b] w).drewN _).setCell _ _ (by simp)⟩

set_option maxHeartbeats 800000 in
theorem get_miss1 (k : Nat) (h1 : k ≤ 4294967295) (b g j n : Nat) (hj : j ≤ 20) (hn : n = 2 ^ j) (e hi mi : Int) (hh0 : 0 ≤ mi) (hh : mi ≤ 1000000000) (ent : Nat → Nat × Int × Int) (w : World)
    (hb : Head w b g n e hi mi) (hg : Tab w g n ent) (hbg : b ≠ g) (he : (ent (k % n)).2.2 ≠ e) :
    Calls Try.prog 9 #[.pointer (some ⟨b, 0, none⟩), .int .u32 k] w fun e' w' => e' = .returned (.tuple #[.int .i64 0, .bool false]) ∧ Head w' b g n e hi (mi + 1) ∧ Mod [b] w w' := by
  have c1 := hb.cell 1
  have c2 := hb.cell 3
  have g2 := hb.froz 3
  simp at c1 c2
  have hn2 : 0 < n := by rw [hn]; exact Nat.two_pow_pos j
  have hlt : k % n < n := Nat.mod_lt _ hn2
  obtain ⟨⟨d0, d1, d2⟩, df⟩ := hg.cells (k % n) hlt
  have HB := Lib.hid hb
  have HN := Lib.hid hn
  have at' := fun W (hW : Head W b g n e hi mi) => at_c k h1 b g j n hj HN.out e hi mi W hW
  have AT := Lib.hid at'
  clear at' df hg hb hn 
  generalize k % n = q at *
  generalize (ent q).2.1 = v at *
  generalize (ent q).1 = k' at *
  generalize (ent q).2.2 = e' at *
  have hne : (e' != e) = true := by rw [bne_iff_ne]; exact he
  clear he
  go_enter Try.func9, Try.ntmps9
  go_wp2_with (go_at_call 15; refine (AT.out _ (by exact HB.out)).mono ?_; rintro e' w' ⟨rfl, d, rfl⟩)
  go_quiet (fail)
  go_wp2
  go_ret2
  exact ⟨rfl, Head.set3 (w := w.drewN _) HB.out _, ((Mod.refl [b] w).drewN _).setCell _ _ (by simp)⟩

set_option maxHeartbeats 800000 in
theorem get_miss2 (k : Nat) (h1 : k ≤ 4294967295) (b g j n : Nat) (hj : j ≤ 20) (hn : n = 2 ^ j) (e hi mi : Int) (hh0 : 0 ≤ mi) (hh : mi ≤ 1000000000) (ent : Nat → Nat × Int × Int) (w : World)
    (hb : Head w b g n e hi mi) (hg : Tab w g n ent) (hbg : b ≠ g) (he : (ent (k % n)).2.2 = e) (hk : (ent (k % n)).1 ≠ k) :
    Calls Try.prog 9 #[.pointer (some ⟨b, 0, none⟩), .int .u32 k] w fun e' w' => e' = .returned (.tuple #[.int .i64 0, .bool false]) ∧ Head w' b g n e hi (mi + 1) ∧ Mod [b] w w' := by
  have c1 := hb.cell 1
  have c2 := hb.cell 3
  have g2 := hb.froz 3
  simp at c1 c2
  have hn2 : 0 < n := by rw [hn]; exact Nat.two_pow_pos j
  have hlt : k % n < n := Nat.mod_lt _ hn2
  obtain ⟨⟨d0, d1, d2⟩, df⟩ := hg.cells (k % n) hlt
  have HB := Lib.hid hb
  have HN := Lib.hid hn
  have at' := fun W (hW : Head W b g n e hi mi) => at_c k h1 b g j n hj HN.out e hi mi W hW
  have AT := Lib.hid at'
  clear at' df hg hb hn 
  generalize k % n = q at *
  generalize (ent q).2.1 = v at *
  generalize (ent q).1 = k' at *
  generalize (ent q).2.2 = e' at *
  subst he
  have hne : ((k' : Int) != k) = true := by rw [bne_iff_ne]; omega
  clear hk
  go_enter Try.func9, Try.ntmps9
  go_wp2_with (go_at_call 15; refine (AT.out _ (by exact HB.out)).mono ?_; rintro e' w' ⟨rfl, d, rfl⟩)
  go_quiet (fail)
  go_wp2
  go_ret2
  exact ⟨rfl, Head.set3 (w := w.drewN _) HB.out _, ((Mod.refl [b] w).drewN _).setCell _ _ (by simp)⟩

theorem flush_c (b g n : Nat) (e hi mi : Int) (h0 : 0 ≤ e) (h1 : e ≤ 1000000000) (w : World) (hb : Head w b g n e hi mi) :
    Calls Try.prog 10 #[.pointer (some ⟨b, 0, none⟩)] w fun e' w' => e' = .returned (.tuple #[]) ∧ Head w' b g n (e + 1) hi mi ∧ Mod [b] w w' := by
  have c1 := hb.cell 1
  have g1 := hb.froz 1
  simp at c1
  have HB := Lib.hid hb
  clear hb
  go_enter Try.func10, Try.ntmps10
  go_wp2
  go_end0
  exact ⟨rfl, Head.set1 HB.out _, (Mod.refl [b] w).setCell _ _ (by simp)⟩

theorem hits_c (b g n : Nat) (e hi mi : Int) (w : World) (hb : Head w b g n e hi mi) :
    Calls Try.prog 12 #[.pointer (some ⟨b, 0, none⟩)] w fun e' w' => e' = .returned (.int .i64 hi) ∧ w = w' := by
  have c1 := hb.cell 2
  simp at c1
  clear hb
  go_enter Try.func12, Try.ntmps12
  go_wp2
  go_ret
  exact ⟨rfl, rfl⟩

theorem misses_c (b g n : Nat) (e hi mi : Int) (w : World) (hb : Head w b g n e hi mi) :
    Calls Try.prog 13 #[.pointer (some ⟨b, 0, none⟩)] w fun e' w' => e' = .returned (.int .i64 mi) ∧ w = w' := by
  have c1 := hb.cell 3
  simp at c1
  clear hb
  go_enter Try.func13, Try.ntmps13
  go_wp2
  go_ret
  exact ⟨rfl, rfl⟩

theorem epoch_c (b g n : Nat) (e hi mi : Int) (h0 : 0 ≤ e) (h1 : e ≤ 1000000000) (w : World) (hb : Head w b g n e hi mi) :
    Calls Try.prog 14 #[.pointer (some ⟨b, 0, none⟩)] w fun e' w' => e' = .returned (.int .i64 (e - 1)) ∧ w = w' := by
  have c1 := hb.cell 1
  simp at c1
  clear hb
  go_enter Try.func14, Try.ntmps14
  go_wp2
  go_ret
  exact ⟨rfl, rfl⟩

theorem put_nil (k v : Int) (w : World) : Calls Try.prog 8 #[.pointer none, .int .u32 k, .int .i64 v] w fun e' w' => e' = .returned (.tuple #[]) ∧ w = w' := by
  go_enter Try.func8, Try.ntmps8
  go_wp2
  go_end0
  exact ⟨rfl, rfl⟩
theorem get_nil (k : Int) (w : World) : Calls Try.prog 9 #[.pointer none, .int .u32 k] w fun e' w' => e' = .returned (.tuple #[.int .i64 0, .bool false]) ∧ w = w' := by
  go_enter Try.func9, Try.ntmps9
  go_wp2
  go_ret2
  exact ⟨rfl, rfl⟩
theorem flush_nil (w : World) : Calls Try.prog 10 #[.pointer none] w fun e' w' => e' = .returned (.tuple #[]) ∧ w = w' := by
  go_enter Try.func10, Try.ntmps10
  go_wp2
  go_end0
  exact ⟨rfl, rfl⟩
theorem hits_nil (w : World) : Calls Try.prog 12 #[.pointer none] w fun e' w' => e' = .returned (.int .i64 0) ∧ w = w' := by
  go_enter Try.func12, Try.ntmps12
  go_wp2
  go_ret
  exact ⟨rfl, rfl⟩
theorem misses_nil (w : World) : Calls Try.prog 13 #[.pointer none] w fun e' w' => e' = .returned (.int .i64 0) ∧ w = w' := by
  go_enter Try.func13, Try.ntmps13
  go_wp2
  go_ret
  exact ⟨rfl, rfl⟩
theorem epoch_nil (w : World) : Calls Try.prog 14 #[.pointer none] w fun e' w' => e' = .returned (.int .i64 0) ∧ w = w' := by
  go_enter Try.func14, Try.ntmps14
  go_wp2
  go_ret
  exact ⟨rfl, rfl⟩

theorem Try.info49 : (Try.prog.info? 49).map (fun i => (i.zero, i.size, i.bytes)) = some (some (.agg #[.int .u32 0, .int .i64 0, .int .i64 0]), 3, 24) := by kernel_rfl

theorem shl_one (j : Nat) (hj : j ≤ 20) : wrap64 (2 ^ j) = ((2 ^ j : Nat) : Int) := by
  have h2 : 2 ^ j ≤ 2 ^ 20 := Nat.pow_le_pow_right (by omega) hj
  have e : (2 : Int) ^ j = ((2 ^ j : Nat) : Int) := by simp
  rw [e]
  generalize 2 ^ j = n at *
  unfold wrap64
  omega

theorem made_tab (w : World) (n : Nat) : Tab (w.alloc (.cells (madeCells #[.int .u32 0, .int .i64 0, .int .i64 0] (n * 3)) 49)) w.heap.size n (fun _ => (0, 0, 0)) := by
  refine ⟨_, Blk.new _ _ _, size_madeCells _ _, fun i hi => ?_⟩
  have h0 : i * 3 < n * 3 := by omega
  have h1 : i * 3 + 1 < n * 3 := by omega
  have h2 : i * 3 + 2 < n * 3 := by omega
  simp [madeCells, h0, h1, h2, Nat.mul_mod_left, Nat.add_mod]

set_option maxHeartbeats 800000 in
theorem new_any (j n : Nat) (hj : j ≤ 20) (hn : 1 ≤ n) (hn2 : n ≤ 1048576) (hs : wrap64 (2 ^ j) = (n : Int)) (w : World) :
    Calls Try.prog 7 #[.int .i64 j] w fun e' w' => e' = .returned (.tuple #[.pointer (some ⟨w.heap.size + 1, 0, none⟩), .int .u8 0]) ∧ Head w' (w.heap.size + 1) w.heap.size n 1 0 0 ∧ Tab w' w.heap.size n (fun _ => (0, 0, 0)) ∧ Mod [] w w' := by
  obtain ⟨i0, hi, hz0, hz1, hz2⟩ := info_parts Try.info49
  have hmk : ∀ w, (Instr.makeSlice 45 (.int .i64 n) (.int .i64 n)).run Try.prog w = .ok (.slice (some ⟨w.heap.size, 0, none⟩) n n) (w.alloc (.cells (madeCells #[.int .u32 0, .int .i64 0, .int .i64 0] (n * 3)) 49)) := by
    intro w
    have := run_make (P := Try.prog) w 45 49 i0 _ Try.underlying45 hi hz0 .i64 .i64 n n (by omega) (by omega) (by rw [hz2]; omega) (by omega)
    simpa [hz1, Value.cells] using this
  clear hi hz0 hz1 hz2
  go_enter Try.func7, Try.ntmps7
  go_wp2
  go_ret2
  exact ⟨rfl, Blk.new' _ _ _ _ (by simp), (made_tab w n).mod ((Mod.refl [] _).alloc _) (by simp), ((Mod.refl _ _).alloc _).alloc _⟩

theorem new_c (j : Nat) (hj : j ≤ 20) (w : World) :
    Calls Try.prog 7 #[.int .i64 j] w fun e' w' => e' = .returned (.tuple #[.pointer (some ⟨w.heap.size + 1, 0, none⟩), .int .u8 0]) ∧ Head w' (w.heap.size + 1) w.heap.size (2 ^ j) 1 0 0 ∧ Tab w' w.heap.size (2 ^ j) (fun _ => (0, 0, 0)) ∧ Mod [] w w' :=
  new_any j (2 ^ j) hj Nat.one_le_two_pow (Nat.pow_le_pow_right (by omega) hj) (shl_one j hj) w

theorem new_bad (j : Int) (hj : j < 0 ∨ 20 < j) (w : World) :
    Calls Try.prog 7 #[.int .i64 j] w fun e' w' => e' = .returned (.tuple #[.pointer none, .int .u8 1]) ∧ w = w' := by
  rcases hj with hj | hj
  · go_enter Try.func7, Try.ntmps7
    go_wp2
    go_ret2
    exact ⟨rfl, rfl⟩
  · have h0 : ¬ j < 0 := by omega
    go_enter Try.func7, Try.ntmps7
    go_wp2
    go_ret2
    exact ⟨rfl, rfl⟩

end Go.Proofs.Ytkbpcilcpaomfaa

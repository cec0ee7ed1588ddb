/- Caches and engines, new. · The manager, new. · Handles of a manager: free, has, same, room. · The form of handles; room. · Plain: an edge seen at a level; tables have different diagrams. · Plain: how many nodes: by levels and parts of the table. · Manager.Equal of two forms. · References: Next, of permutations. -/
import Derived.Test.YtcoljkigphnjfaaGreatDoorM04
import Derived.Test.YtcoljkigphnjfaaGreatDoorM01
import Derived.Test.YtcoljkigphnjfaaGreatDoorM07
set_option linter.unusedVariables false
set_option linter.unusedSimpArgs false
namespace Go.Proofs.YtcoljkigphnjfaaGreatDoor
open Go.RowKit

/-- A new thing behind a pointer. -/
def PtrP (w : World) (e : Ending) (w' : World) : Prop := ∃ b, e = .returned (.tuple #[.pointer (some ⟨b, 0, none⟩), .int .u8 0]) ∧ Mod [] w w' ∧ w.heap.size ≤ b ∧ b < w'.heap.size

theorem shl_12 : wrap64 (2 ^ 12) = 4096 := by
  have e : (2 : Int) ^ 12 = 4096 := by decide
  rw [e]
  unfold wrap64
  omega

theorem Tryz.infoKapply : (Tryz.prog.info? 320).map (fun i => (i.zero, i.size, i.bytes)) = some (some (.agg #[.int .u8 0, .int .u8 0, .int .u8 0, .int .u8 0, .int .u32 0, .int .u8 0, .int .u32 0, .int .u8 0, .int .u32 0, .int .u8 0, .int .u32 0, .int .i64 0]), 12, 48) := by kernel_rfl
set_option maxHeartbeats 2000000 in
theorem cache_apply_c (N : Nat) (j : Nat) (hj : j ≤ 20) (h1 : 1 ≤ N) (hN : N ≤ 1048576) (hs : wrap64 (2 ^ j) = (N : Int)) (w : World) : Calls Tryz.prog 53 #[.int .i64 j] w (PtrP w) := by
  obtain ⟨i0, hi, hz0, hz1, hz2⟩ := info_parts Tryz.infoKapply
  have hmk : ∀ w, (Instr.makeSlice 177 (.int .i64 N) (.int .i64 N)).run Tryz.prog w = .ok (.slice (some ⟨w.heap.size, 0, none⟩) N N) (w.alloc (.cells (madeCells #[.int .u8 0, .int .u8 0, .int .u8 0, .int .u8 0, .int .u32 0, .int .u8 0, .int .u32 0, .int .u8 0, .int .u32 0, .int .u8 0, .int .u32 0, .int .i64 0] (N * 12)) 320)) := by
    intro w
    have := run_make (P := Tryz.prog) w 177 320 i0 _ Tryz.underlying177 hi hz0 .i64 .i64 N N (by omega) (by omega) (by rw [hz2]; omega) (by omega)
    simpa [hz1, Value.cells] using this
  clear hi hz0 hz1 hz2
  go_enter Tryz.func53, Tryz.ntmps53
  go_wp2
  go_ret2
  exact ⟨_, rfl, ((Mod.refl _ _).alloc _).alloc _, by simp, by simp⟩
theorem cache_apply_12 (w : World) : Calls Tryz.prog 53 #[.int .i64 12] w (PtrP w) := cache_apply_c 4096 12 (by omega) (by omega) (by omega) shl_12 w

theorem Tryz.infoKquant : (Tryz.prog.info? 322).map (fun i => (i.zero, i.size, i.bytes)) = some (some (.agg #[.int .u8 0, .int .u8 0, .int .u8 0, .int .u16 0, .int .u8 0, .int .u32 0, .int .u8 0, .int .u32 0, .int .u8 0, .int .u32 0, .int .i64 0]), 11, 40) := by kernel_rfl
set_option maxHeartbeats 2000000 in
theorem cache_quant_c (N : Nat) (j : Nat) (hj : j ≤ 20) (h1 : 1 ≤ N) (hN : N ≤ 1048576) (hs : wrap64 (2 ^ j) = (N : Int)) (w : World) : Calls Tryz.prog 54 #[.int .i64 j] w (PtrP w) := by
  obtain ⟨i0, hi, hz0, hz1, hz2⟩ := info_parts Tryz.infoKquant
  have hmk : ∀ w, (Instr.makeSlice 180 (.int .i64 N) (.int .i64 N)).run Tryz.prog w = .ok (.slice (some ⟨w.heap.size, 0, none⟩) N N) (w.alloc (.cells (madeCells #[.int .u8 0, .int .u8 0, .int .u8 0, .int .u16 0, .int .u8 0, .int .u32 0, .int .u8 0, .int .u32 0, .int .u8 0, .int .u32 0, .int .i64 0] (N * 11)) 322)) := by
    intro w
    have := run_make (P := Tryz.prog) w 180 322 i0 _ Tryz.underlying180 hi hz0 .i64 .i64 N N (by omega) (by omega) (by rw [hz2]; omega) (by omega)
    simpa [hz1, Value.cells] using this
  clear hi hz0 hz1 hz2
  go_enter Tryz.func54, Tryz.ntmps54
  go_wp2
  go_ret2
  exact ⟨_, rfl, ((Mod.refl _ _).alloc _).alloc _, by simp, by simp⟩
theorem cache_quant_12 (w : World) : Calls Tryz.prog 54 #[.int .i64 12] w (PtrP w) := cache_quant_c 4096 12 (by omega) (by omega) (by omega) shl_12 w

theorem Tryz.infoKfamily : (Tryz.prog.info? 324).map (fun i => (i.zero, i.size, i.bytes)) = some (some (.agg #[.int .u8 0, .int .u8 0, .int .u8 0, .int .u8 0, .int .u8 0, .int .u32 0, .int .u8 0, .int .u32 0, .int .u8 0, .int .u32 0, .int .i64 0]), 11, 40) := by kernel_rfl
set_option maxHeartbeats 2000000 in
theorem cache_family_c (N : Nat) (j : Nat) (hj : j ≤ 20) (h1 : 1 ≤ N) (hN : N ≤ 1048576) (hs : wrap64 (2 ^ j) = (N : Int)) (w : World) : Calls Tryz.prog 56 #[.int .i64 j] w (PtrP w) := by
  obtain ⟨i0, hi, hz0, hz1, hz2⟩ := info_parts Tryz.infoKfamily
  have hmk : ∀ w, (Instr.makeSlice 183 (.int .i64 N) (.int .i64 N)).run Tryz.prog w = .ok (.slice (some ⟨w.heap.size, 0, none⟩) N N) (w.alloc (.cells (madeCells #[.int .u8 0, .int .u8 0, .int .u8 0, .int .u8 0, .int .u8 0, .int .u32 0, .int .u8 0, .int .u32 0, .int .u8 0, .int .u32 0, .int .i64 0] (N * 11)) 324)) := by
    intro w
    have := run_make (P := Tryz.prog) w 183 324 i0 _ Tryz.underlying183 hi hz0 .i64 .i64 N N (by omega) (by omega) (by rw [hz2]; omega) (by omega)
    simpa [hz1, Value.cells] using this
  clear hi hz0 hz1 hz2
  go_enter Tryz.func56, Tryz.ntmps56
  go_wp2
  go_ret2
  exact ⟨_, rfl, ((Mod.refl _ _).alloc _).alloc _, by simp, by simp⟩
theorem cache_family_12 (w : World) : Calls Tryz.prog 56 #[.int .i64 12] w (PtrP w) := cache_family_c 4096 12 (by omega) (by omega) (by omega) shl_12 w

set_option maxHeartbeats 1000000 in
theorem applyNew_c (bs : Nat) (w : World) : Calls Tryz.prog 29 #[.pointer (some ⟨bs, 0, none⟩), .int .i64 12] w fun e w' => ∃ b vk, e = .returned (.tuple #[.pointer (some ⟨b, 0, none⟩), .int .u8 0]) ∧ Blk w' b #[.pointer (some ⟨bs, 0, none⟩), vk] 133 ∧ Mod [] w w' ∧ w.heap.size ≤ b := by
  have CN : Hid (∀ w, _) := cache_apply_12
  go_enter Tryz.func29, Tryz.ntmps29
  go_wp2_with fail
  refine (CN.out _).mono ?_
  rintro e w1 ⟨b1, rfl, m1, h1, h2⟩
  go_wp2_with fail
  go_ret2
  exact ⟨_, _, rfl, Blk.new _ _ _, m1.alloc _, m1.size⟩
theorem opsStore_c {w : World} {b bs : Nat} {vk : Value} (h : Blk w b #[.pointer (some ⟨bs, 0, none⟩), vk] 133) : Calls Tryz.prog 55 #[.pointer (some ⟨b, 0, none⟩)] w fun e w' => e = .returned (.pointer (some ⟨bs, 0, none⟩)) ∧ w' = w := by
  obtain ⟨c0, c1⟩ := h.cells2
  go_enter Tryz.func55, Tryz.ntmps55
  go_wp2_with fail
  go_ret
  exact ⟨rfl, rfl⟩

set_option maxHeartbeats 1000000 in
theorem quantNew_c {w : World} {bp bs : Nat} {vk : Value} (h : Blk w bp #[.pointer (some ⟨bs, 0, none⟩), vk] 133) : Calls Tryz.prog 30 #[.pointer (some ⟨bp, 0, none⟩), .int .i64 12] w fun e w' => ∃ b vq, e = .returned (.tuple #[.pointer (some ⟨b, 0, none⟩), .int .u8 0]) ∧ Blk w' b #[.pointer (some ⟨bp, 0, none⟩), .pointer (some ⟨bs, 0, none⟩), vq] 142 ∧ Mod [] w w' ∧ w.heap.size ≤ b := by
  have CN : Hid (∀ w, _) := cache_quant_12
  have OS : Hid (∀ W, Mod [] w W → Calls Tryz.prog 55 #[.pointer (some ⟨bp, 0, none⟩)] W fun e w' => e = .returned (.pointer (some ⟨bs, 0, none⟩)) ∧ w' = W) := fun W m => opsStore_c (h.mod m (by simp))
  clear h
  go_enter Tryz.func30, Tryz.ntmps30
  go_wp2_with fail
  refine (CN.out _).mono ?_
  rintro e w1 ⟨b1, rfl, m1, h1, h2⟩
  have M1 := Lib.hid m1
  clear m1
  go_wp2_with fail
  refine (OS.out _ M1.out).mono ?_
  rintro e w2 ⟨rfl, rfl⟩
  go_wp2_with fail
  go_ret2
  exact ⟨_, _, rfl, Blk.new _ _ _, M1.out.alloc _, M1.out.size⟩

set_option maxHeartbeats 1000000 in
theorem familyNew_c {w : World} {bp bs : Nat} {vk : Value} (h : Blk w bp #[.pointer (some ⟨bs, 0, none⟩), vk] 133) : Calls Tryz.prog 31 #[.pointer (some ⟨bp, 0, none⟩), .int .i64 12] w fun e w' => ∃ b vq, e = .returned (.tuple #[.pointer (some ⟨b, 0, none⟩), .int .u8 0]) ∧ Blk w' b #[.pointer (some ⟨bp, 0, none⟩), .pointer (some ⟨bs, 0, none⟩), vq, .int .u8 0] 149 ∧ Mod [] w w' ∧ w.heap.size ≤ b := by
  have CN : Hid (∀ w, _) := cache_family_12
  have OS : Hid (∀ W, Mod [] w W → Calls Tryz.prog 55 #[.pointer (some ⟨bp, 0, none⟩)] W fun e w' => e = .returned (.pointer (some ⟨bs, 0, none⟩)) ∧ w' = W) := fun W m => opsStore_c (h.mod m (by simp))
  clear h
  go_enter Tryz.func31, Tryz.ntmps31
  go_wp2_with fail
  refine (CN.out _).mono ?_
  rintro e w1 ⟨b1, rfl, m1, h1, h2⟩
  have M1 := Lib.hid m1
  clear m1
  go_wp2_with fail
  refine (OS.out _ M1.out).mono ?_
  rintro e w2 ⟨rfl, rfl⟩
  go_wp2_with fail
  go_ret2
  exact ⟨_, _, rfl, Blk.new _ _ _, M1.out.alloc _, M1.out.size⟩
end Go.Proofs.YtcoljkigphnjfaaGreatDoor
set_option linter.unusedVariables false
set_option linter.unusedSimpArgs false
namespace Go.Proofs.YtcoljkigphnjfaaGreatDoor
open Go.RowKit

set_option maxHeartbeats 2000000 in
theorem permSame_c (n : Nat) (hn : n ≤ 16) (w : World) : Calls Tryz.prog 52 #[.int .i64 n] w fun e w' => ∃ v, e = .returned (.tuple #[v, .bool true]) ∧ NewV 3 w ((List.range n).map ei) w' v := by
  have hn' : (n : Int) ≤ 16 := by omega
  have hmk : ∀ w, (Instr.makeSlice 26 (.int .i64 n) (.int .i64 n)).run Tryz.prog w = .ok (.slice (some ⟨w.heap.size, 0, none⟩) n n) (w.alloc (.cells (madeCells #[.int .i64 0] n) 3)) := fun w => madeInts w n (by omega)
  obtain ⟨g, hg⟩ : ∃ g, w.heap.size = g := ⟨_, rfl⟩
  go_enter Tryz.func52, Tryz.ntmps52
  go_wp2_with fail
  have HG := Lib.hid hg
  have S0 := Lib.hid (Sl.made1 w 3 n (.int .i64 0) (by unfold maxLen; omega) g hg.symm)
  have M0 : Hid (Mod [] w (w.alloc (.cells (madeCells #[.int .i64 0] n) 3))) := (Mod.refl _ _).alloc _
  clear hmk hg
  generalize w.alloc (.cells (madeCells #[.int .i64 0] n) 3) = w0 at *
  go_loopw [5, 16] (fun _ i wr => ∃ k : Nat, ∃ xs : List Nat, k ≤ n ∧ i = .int .i64 k ∧ xs.length = n ∧ (∀ j, j < k → xs[j]? = some j) ∧ Sl wr 3 1 (.slice (some ⟨g, 0, none⟩) n n) n (xs.map ei) [g] ∧ Mod [] w wr) (fun _ i _ => n - (intOf i).toNat)
  case atStart => exact ⟨0, List.replicate n 0, by omega, rfl, by simp, by omega, by simpa [ei] using S0.out, M0.out⟩
  case round =>
    obtain ⟨k, xs, hk, rfl, hxl, hxs, hs, hm⟩ := hrel
    have HXL := Lib.hid hxl
    have HXS := Lib.hid hxs
    have HS := Lib.hid hs
    have HM := Lib.hid hm
    clear hxl hxs hs hm S0 M0
    by_cases hlt : k < n
    · have hlt' : (k : Int) < n := by omega
      obtain ⟨d0, d1, -⟩ := HS.out.at k (by omega)
      rw [List.getElem?_eq_getElem (by rw [List.length_map, HXL.out]; omega)] at d0
      have hgl := HS.out.lt g (by simp)
      go_wp2_with fail
      have HS2 : Hid (Sl (wr.setCell ⟨g, k, none⟩ (.int .i64 k)) 3 1 (.slice (some ⟨g, 0, none⟩) n n) n ((xs.set k k).map ei) [g]) := by
        show Sl _ _ _ _ _ _ _
        rw [List.map_set]; exact HS.out.set k (.int .i64 k)
      have HM2 : Hid (Mod [] w (wr.setCell ⟨g, k, none⟩ (.int .i64 k))) := HM.out.setCell _ _ (by have := HG.out; simp; omega)
      go_roundw
      case rel =>
        refine ⟨k + 1, xs.set k k, by omega, by first | rfl | (simp; try omega), by rw [List.length_set]; exact HXL.out, fun j hj => ?_, HS2.out, HM2.out⟩
        rw [List.getElem?_set]
        split
        · rename_i e; subst e; rw [if_pos (by rw [HXL.out]; exact hlt)]
        · exact HXS.out j (by omega)
      case measure => simp [intOf]; omega
    · have hkn : k = n := by omega
      subst hkn
      go_wp2_with fail
      go_ret2
      have e : xs = List.range k := List.ext_getElem? fun j => by
        by_cases hj : j < k
        · rw [HXS.out j hj, List.getElem?_range hj]
        · rw [List.getElem?_eq_none (by rw [HXL.out]; omega), List.getElem?_eq_none (by simp; omega)]
      rw [← e]
      refine ⟨_, rfl, [g], ?_, HM.out, fun q hq => by simp at hq; rw [hq]; exact Nat.le_of_eq HG.out⟩
      have := HS.out
      rw [show (xs.map ei).length = k by rw [List.length_map, HXL.out]]
      exact this

set_option maxHeartbeats 1000000 in
theorem orderNew_c (n : Nat) (hn : n ≤ 16) (w : World) : Calls Tryz.prog 28 #[.int .i64 n] w (OrdP w (List.range n)) := by
  have PS : Hid (∀ w, _) := permSame_c n hn
  go_enter Tryz.func28, Tryz.ntmps28
  go_wp2_with fail
  refine (PS.out _).mono ?_
  rintro e w1 ⟨v1, rfl, n1⟩
  obtain ⟨A1, c1, hv⟩ := n1.shape
  obtain ⟨F1, r1, -⟩ := n1.rv
  have hl : ((List.range n).map ei).length = n := by simp
  rw [hl] at hv
  subst hv
  have OO : Hid (∀ W, Mod [] w1 W → Calls Tryz.prog 7 #[.slice A1 n c1] W (OrdP W (List.range n))) := fun W m => orderOf_c (r1.mod m (by simp)) ⟨by simp, by simp, List.nodup_range⟩ hn
  have M1 := Lib.hid n1.mod
  clear r1 n1 PS hl
  go_wp2_with fail
  refine (OO.out _ (by (repeat (first | exact Mod.refl _ _ | apply Mod.drew | apply Mod.drewN | apply Mod.alloc | refine Mod.setCell ?_ _ _ (by first | simp | (simp; omega)))))).mono ?_
  rintro e w2 ⟨bo, q, Fo, rfl, io, inv, m2, fo⟩
  have IOR := Lib.hid io
  have INV := Lib.hid inv
  have FO : Hid (∀ k ∈ Fo, w.heap.size ≤ k) := fun k hk => Nat.le_trans M1.out.size (fo k hk)
  have M2 := Lib.hid (M1.out.trans' m2)
  clear io inv fo m2
  go_wp2_with fail
  go_ret2
  exact ⟨bo, q, Fo, rfl, IOR.out, INV.out, M2.out, FO.out⟩

/-- What lies in a manager: five pointers, what is live, the roots of the handles. -/
def mgL (q : List Value) (H : List (Nat × Ed)) (i : Nat) : Value :=
  if i < 5 then q.getD i (.bool false) else if i < 262 then .bool (decide (6 ≤ i ∧ i ≤ 5 + H.length)) else
  match (if i < 265 then none else H[(i - 265) / 3]?) with
  | some (f, e) => if (i - 262) % 3 = 0 then .int .u8 f else if (i - 262) % 3 = 1 then .int .u8 e.t else .int .u32 e.a
  | none => if (i - 262) % 3 = 2 then .int .u32 0 else .int .u8 0
theorem Tryz.zeroM : Tryz.zeroCells80 = ((List.range 1033).map (mgL [.pointer none, .pointer none, .pointer none, .pointer none, .pointer none] [])).toArray := by kernel_rfl
structure Mgr (w : World) (b : Nat) (q : List Value) (H : List (Nat × Ed)) : Prop where
  blk : ∃ c, Blk w b c 80 ∧ c.size = 1033 ∧ ∀ i, i < 1033 → c[i]? = some (mgL q H i)
theorem Mgr.mod {S : List Nat} {w w' : World} {b : Nat} {q : List Value} {H : List (Nat × Ed)} (h : Mgr w b q H) (m : Mod S w w') (hb : b ∉ S) : Mgr w' b q H := by
  obtain ⟨c, h1, h2⟩ := h.blk; exact ⟨c, h1.mod m hb, h2⟩
theorem Mgr.cell {w : World} {b : Nat} {q : List Value} {H : List (Nat × Ed)} (h : Mgr w b q H) (i : Nat) (hi : i < 1033) : w.cell? ⟨b, i, none⟩ = some (mgL q H i) := by
  obtain ⟨c, h1, h2, h3⟩ := h.blk; rw [h1.cell]; exact h3 i hi
theorem Mgr.froz {w : World} {b : Nat} {q : List Value} {H : List (Nat × Ed)} (h : Mgr w b q H) (i : Nat) : w.frozen? ⟨b, i, none⟩ = false := by
  obtain ⟨c, h1, h2, h3⟩ := h.blk; exact h1.froz i
theorem Mgr.lt {w : World} {b : Nat} {q : List Value} {H : List (Nat × Ed)} (h : Mgr w b q H) : b < w.heap.size := by
  obtain ⟨c, h1, h2, h3⟩ := h.blk; exact h1.lt
theorem mgL_low (q : List Value) (H : List (Nat × Ed)) (i : Nat) (hi : i < 5) : mgL q H i = q.getD i (.bool false) := by unfold mgL; rw [if_pos hi]
/-- One of the five pointers is set. -/
theorem Mgr.ptr {w : World} {b : Nat} {q : List Value} {H : List (Nat × Ed)} (h : Mgr w b q H) (hq : q.length = 5) (j : Nat) (hj : j < 5) (v : Value) : Mgr (w.setCell ⟨b, j, none⟩ v) b (q.set j v) H := by
  obtain ⟨c, h1, h2, h3⟩ := h.blk
  refine ⟨_, h1.set j v, by simp [h2], fun i hi => ?_⟩
  rw [Array.getElem?_setIfInBounds]
  by_cases e : j = i
  · subst e
    rw [if_pos rfl, if_pos (by omega), mgL_low _ _ _ hj, List.getD_eq_getElem?_getD, List.getElem?_set_self (by omega)]
    rfl
  · rw [if_neg e, h3 i hi]
    by_cases h5 : i < 5
    · rw [mgL_low _ _ _ h5, mgL_low _ _ _ h5, List.getD_eq_getElem?_getD, List.getD_eq_getElem?_getD, List.getElem?_set_ne e]
    · unfold mgL; rw [if_neg h5, if_neg h5]
theorem Mgr.fresh (w : World) (bm : Nat) (h : bm = w.heap.size) (v : Value) : Mgr (w.alloc (.cells (Tryz.zeroCells80.setIfInBounds 3 v) 80)) bm [.pointer none, .pointer none, .pointer none, v, .pointer none] [] := by
  refine ⟨_, Blk.new' w _ _ bm h, by rw [Array.size_setIfInBounds]; exact Tryz.zeroCells80_size, fun i hi => ?_⟩
  rw [Array.getElem?_setIfInBounds]
  have hsz : Tryz.zeroCells80.size = 1033 := Tryz.zeroCells80_size
  by_cases e : 3 = i
  · subst e
    rw [if_pos rfl, if_pos (by omega)]; rfl
  · rw [if_neg e, Tryz.zeroM, List.getElem?_toArray, List.getElem?_map, List.getElem?_range hi]
    simp only [Option.map_some]
    by_cases h5 : i < 5
    · rw [mgL_low _ _ _ h5, mgL_low _ _ _ h5]
      obtain rfl | rfl | rfl | rfl : i = 0 ∨ i = 1 ∨ i = 2 ∨ i = 4 := by omega
      all_goals rfl
    · unfold mgL; rw [if_neg h5, if_neg h5]

/-- A manager with its parts. -/
structure Mng (w : World) (bm n room : Nat) (L : List Rc) (Fs : List Nat) (p : List Nat) (H : List (Nat × Ed)) (bs bo bq : Nat) (F : List Nat) : Prop where
  m : ∃ ba bg vk vq vg Fo q, Mgr w bm [.pointer (some ⟨ba, 0, none⟩), .pointer (some ⟨bq, 0, none⟩), .pointer (some ⟨bg, 0, none⟩), .pointer (some ⟨bs, 0, none⟩), .pointer (some ⟨bo, 0, none⟩)] H ∧
    IsOrd w bo p q Fo ∧ Inv p q ∧ Blk w ba #[.pointer (some ⟨bs, 0, none⟩), vk] 133 ∧ Blk w bq #[.pointer (some ⟨ba, 0, none⟩), .pointer (some ⟨bs, 0, none⟩), vq] 142 ∧
    Blk w bg #[.pointer (some ⟨ba, 0, none⟩), .pointer (some ⟨bs, 0, none⟩), vg, .int .u8 0] 149 ∧ F = bm :: ba :: bq :: bg :: Fo ∧ (∀ k ∈ Fs, k ∉ F) ∧ bm ∉ Fo ∧ bm ≠ ba ∧ bm ≠ bq ∧ bm ≠ bg
  s : IsSt w bs n L room Fs

set_option maxHeartbeats 4000000 in
theorem managerNew_c (n room : Nat) (hn : n ≤ 16) (hr : room ≤ 1048576) (w : World) : Calls Tryz.prog 13 #[.int .i64 n, .int .i64 room] w fun e w' => ∃ bm bs bo bq Fs F, e = .returned (.tuple #[.pointer (some ⟨bm, 0, none⟩), .int .u8 0]) ∧ Mng w' bm n room [] Fs (List.range n) [] bs bo bq F ∧ Mod [] w w' ∧ (∀ k ∈ Fs, w.heap.size ≤ k) ∧ ∀ k ∈ F, w.heap.size ≤ k := by
  have SN : Hid (∀ w, _) := stNew_c n room hn hr
  have ON : Hid (∀ w, _) := orderNew_c n hn
  go_enter Tryz.func13, Tryz.ntmps13
  go_wp2_with fail
  refine (SN.out _).mono ?_
  rintro e w1 ⟨bs, Fs, rfl, s1, m1, f1⟩
  have F1 := Lib.hid f1
  clear f1
  go_wp2_with fail
  have S1 := Lib.hid s1
  have M1 := Lib.hid m1
  have SL := Lib.hid s1.lt
  clear s1 m1 SN
  obtain ⟨bm, hbm⟩ : ∃ bm, w1.heap.size = bm := ⟨_, rfl⟩
  rw [hbm]
  have BM := Lib.hid (Mgr.fresh w1 bm hbm.symm (.pointer (some ⟨bs, 0, none⟩)))
  have MA : Hid (Mod [] w1 (w1.alloc (.cells (Tryz.zeroCells80.setIfInBounds 3 (.pointer (some ⟨bs, 0, none⟩))) 80))) := (Mod.refl _ _).alloc _
  have HBM := Lib.hid hbm
  have hsz : (w1.alloc (.cells (Tryz.zeroCells80.setIfInBounds 3 (.pointer (some ⟨bs, 0, none⟩))) 80)).heap.size = bm + 1 := by simp [hbm]
  have HSZ := Lib.hid hsz
  clear hbm hsz
  generalize w1.alloc (.cells (Tryz.zeroCells80.setIfInBounds 3 (.pointer (some ⟨bs, 0, none⟩))) 80) = wA at *
  generalize Value.agg (Tryz.zeroCells80.setIfInBounds 3 (.pointer (some ⟨bs, 0, none⟩))) = vA at *
  refine (ON.out _).mono ?_
  rintro e w2 ⟨bo, q, Fo, rfl, io, inv, m2, fo⟩
  have BM2 := BM.out.mod m2 (by simp)
  have c4 := BM2.cell 4 (by omega)
  have f4 := BM2.froz 4
  have IOR := Lib.hid io
  have INV := Lib.hid inv
  have FO := Lib.hid fo
  have M2 := Lib.hid m2
  have hb2 := BM2.lt
  have B2 := Lib.hid BM2
  clear io inv fo m2 BM BM2
  go_wp2_with fail
  have B3 := Lib.hid (B2.out.ptr rfl 4 (by omega) (.pointer (some ⟨bo, 0, none⟩)))
  have M3 : Hid (Mod [bm] wA (w2.setCell ⟨bm, 4, none⟩ (.pointer (some ⟨bo, 0, none⟩)))) := (M2.out.mono (by simp)).setCell _ _ (by simp)
  have IO3 : Hid (IsOrd (w2.setCell ⟨bm, 4, none⟩ (.pointer (some ⟨bo, 0, none⟩))) bo (List.range n) q Fo) := IOR.out.mod (S := [bm]) ((Mod.refl _ _).setCell _ _ (by simp)) (fun k hk h => by have h1 := FO.out k hk; have h2 := HSZ.out; simp at h; omega)
  have IOL := Lib.hid IOR.out.lt
  have SZ3 : Hid (w2.heap.size ≤ (w2.setCell ⟨bm, 4, none⟩ (.pointer (some ⟨bo, 0, none⟩))).heap.size) := by show _ ≤ _; simp
  have hb3 : bm < (w2.setCell ⟨bm, 4, none⟩ (.pointer (some ⟨bo, 0, none⟩))).heap.size := by simpa using hb2
  clear c4 f4 hb2
  generalize w2.setCell ⟨bm, 4, none⟩ (.pointer (some ⟨bo, 0, none⟩)) = w3 at *
  refine (applyNew_c bs w3).mono ?_
  rintro e w4 ⟨ba, vk, rfl, ab, m4, ha⟩
  have AB := Lib.hid ab
  have M4 := Lib.hid m4
  have HA := Lib.hid ha
  have B4 := Lib.hid (B3.out.mod m4 (by simp))
  have c0 := B4.out.cell 0 (by omega)
  have f0 := B4.out.froz 0
  have hb4 := B4.out.lt
  have hbe : ¬ ba = bm := by omega
  clear ab m4 ha B3 B2
  go_wp2_with fail
  have B5 := Lib.hid (B4.out.ptr rfl 0 (by omega) (.pointer (some ⟨ba, 0, none⟩)))
  have M5 : Hid (Mod [bm] w4 (w4.setCell ⟨bm, 0, none⟩ (.pointer (some ⟨ba, 0, none⟩)))) := (Mod.refl _ _).setCell _ _ (by simp)
  have SZ5 : Hid ((w4.setCell ⟨bm, 0, none⟩ (.pointer (some ⟨ba, 0, none⟩))).heap.size = w4.heap.size) := by show _ = _; simp
  have AB5 := Lib.hid (AB.out.mod M5.out (by simp [hbe]))
  have d0 : (w4.setCell ⟨bm, 0, none⟩ (.pointer (some ⟨ba, 0, none⟩))).cell? ⟨bm, 0, none⟩ = some (.pointer (some ⟨ba, 0, none⟩)) := B5.out.cell 0 (by omega)
  clear c0 f0 hb4
  generalize w4.setCell ⟨bm, 0, none⟩ (.pointer (some ⟨ba, 0, none⟩)) = w5 at *
  refine (quantNew_c AB5.out).mono ?_
  rintro e w6 ⟨bq, vq, rfl, qb, m6, hq⟩
  have QB := Lib.hid qb
  have M6 := Lib.hid m6
  have HQ := Lib.hid hq
  have AB6 := Lib.hid (AB5.out.mod m6 (by simp))
  have B6 := Lib.hid (B5.out.mod m6 (by simp))
  have c1 := B6.out.cell 1 (by omega)
  have f1 := B6.out.froz 1
  have e0 := B6.out.cell 0 (by omega)
  have hb6 := B6.out.lt
  have hqe : ¬ bq = bm := by have := B5.out.lt; omega
  replace e0 : w6.cell? ⟨bm, 0, none⟩ = some (.pointer (some ⟨ba, 0, none⟩)) := e0
  clear qb m6 hq B5 B4 d0 AB
  go_wp2_with fail
  have B7 := Lib.hid (B6.out.ptr rfl 1 (by omega) (.pointer (some ⟨bq, 0, none⟩)))
  have M7 : Hid (Mod [bm] w6 (w6.setCell ⟨bm, 1, none⟩ (.pointer (some ⟨bq, 0, none⟩)))) := (Mod.refl _ _).setCell _ _ (by simp)
  have SZ7 : Hid ((w6.setCell ⟨bm, 1, none⟩ (.pointer (some ⟨bq, 0, none⟩))).heap.size = w6.heap.size) := by show _ = _; simp
  have AB7 := Lib.hid (AB6.out.mod M7.out (by simp [hbe]))
  have QB7 := Lib.hid (QB.out.mod M7.out (by simp [hqe]))
  clear c1 f1 e0 hb6 AB6 QB
  generalize w6.setCell ⟨bm, 1, none⟩ (.pointer (some ⟨bq, 0, none⟩)) = w7 at *
  refine (familyNew_c AB7.out).mono ?_
  rintro e w8 ⟨bg, vg, rfl, gb, m8, hg⟩
  have GB := Lib.hid gb
  have M8 := Lib.hid m8
  have HG := Lib.hid hg
  have AB8 := Lib.hid (AB7.out.mod m8 (by simp))
  have QB8 := Lib.hid (QB7.out.mod m8 (by simp))
  have B8 := Lib.hid (B7.out.mod m8 (by simp))
  have c2 := B8.out.cell 2 (by omega)
  have f2 := B8.out.froz 2
  have hb8 := B8.out.lt
  have hge : ¬ bg = bm := by have := B7.out.lt; omega
  clear gb m8 hg B7 B6 AB7 QB7
  go_wp2_with fail
  go_ret2
  have B9 := B8.out.ptr rfl 2 (by omega) (.pointer (some ⟨bg, 0, none⟩))
  have M9 : Mod [bm] w8 (w8.setCell ⟨bm, 2, none⟩ (.pointer (some ⟨bg, 0, none⟩))) := (Mod.refl _ _).setCell _ _ (by simp)
  have MZ : Mod [bm] w3 (w8.setCell ⟨bm, 2, none⟩ (.pointer (some ⟨bg, 0, none⟩))) :=
    ((((M4.out.mono (S' := [bm]) (by simp)).trans' (M5.out.trans' ((M6.out.mono (S' := [bm]) (by simp)).trans' (M7.out.trans' ((M8.out.mono (S' := [bm]) (by simp)).trans' M9)))))))
  have h1 := MA.out.size
  have h2 := HSZ.out
  have h3 := HBM.out
  have h4 := M2.out.size
  have h5 := SZ3.out
  have h6 := M4.out.size
  have h7 := M6.out.size
  have h8 := SZ5.out
  have h9 := SZ7.out
  have h10 := HA.out
  have h11 := HQ.out
  have h12 := HG.out
  have h13 := M1.out.size
  have hFo : ∀ k ∈ Fo, bm + 1 ≤ k ∧ k < w2.heap.size := fun k hk => ⟨by have := FO.out k hk; omega, IOL.out k hk⟩
  have hFs : ∀ k ∈ Fs, k < bm := fun k hk => by have := SL.out k hk; omega
  have MM : Mod [bm] wA (w8.setCell ⟨bm, 2, none⟩ (.pointer (some ⟨bg, 0, none⟩))) := M3.out.trans' MZ
  have MW : Mod [] w (w8.setCell ⟨bm, 2, none⟩ (.pointer (some ⟨bg, 0, none⟩))) := (M1.out.trans' MA.out).trans MM (fun i hi hm => by simp at hm; omega)
  refine ⟨bm, bs, bo, bq, Fs, bm :: ba :: bq :: bg :: Fo, rfl, ⟨⟨ba, bg, vk, vq, vg, Fo, q, B9, IO3.out.mod MZ (fun k hk h => by have := hFo k hk; simp at h; omega), INV.out, AB8.out.mod M9 (by simp [hbe]), QB8.out.mod M9 (by simp [hqe]), GB.out.mod M9 (by simp [hge]), rfl, ?_, fun h => by have := hFo _ h; omega, fun h => hbe h.symm, fun h => hqe h.symm, fun h => hge h.symm⟩, ?_⟩, MW, F1.out, ?_⟩
  · intro k hk h
    have q1 := hFs k hk
    simp at h
    rcases h with h | h | h | h | h
    · omega
    · omega
    · omega
    · omega
    · have := hFo k h; omega
  · exact (S1.out.mod MA.out (by simp)).mod MM (fun k hk h => by have := hFs k hk; simp at h; omega)
  · intro k hk
    simp at hk
    rcases hk with h | h | h | h | h
    · omega
    · omega
    · omega
    · omega
    · have := hFo k h; omega
end Go.Proofs.YtcoljkigphnjfaaGreatDoor
set_option linter.unusedVariables false
set_option linter.unusedSimpArgs false
namespace Go.Proofs.YtcoljkigphnjfaaGreatDoor
open Go.RowKit

theorem Mgr.live {w : World} {b : Nat} {q : List Value} {H : List (Nat × Ed)} (h : Mgr w b q H) (i : Nat) (h1 : 1 ≤ i) (h2 : i ≤ 256) : w.cell? ⟨b, 5 + i, none⟩ = some (.bool (decide (i ≤ H.length))) := by
  rw [h.cell _ (by omega)]
  unfold mgL
  rw [if_neg (by omega), if_pos (by omega)]
  rw [show decide (6 ≤ 5 + i ∧ 5 + i ≤ 5 + H.length) = decide (i ≤ H.length) from decide_eq_decide.2 (by omega)]
theorem Mgr.root {w : World} {b : Nat} {q : List Value} {H : List (Nat × Ed)} (h : Mgr w b q H) (hH : H.length ≤ 256) (i : Nat) (hi : i < H.length) :
    w.cell? ⟨b, 262 + (i + 1) * 3, none⟩ = some (.int .u8 (H[i]).1) ∧ w.cell? ⟨b, 262 + (i + 1) * 3 + 1, none⟩ = some (.int .u8 (H[i]).2.t) ∧ w.cell? ⟨b, 262 + (i + 1) * 3 + 2, none⟩ = some (.int .u32 (H[i]).2.a) := by
  obtain ⟨j, hj⟩ : ∃ j, 262 + (i + 1) * 3 = j := ⟨_, rfl⟩
  rw [hj]
  have hj2 : j = 265 + 3 * i := by omega
  have e0 : (j - 265) / 3 = i := by rw [hj2, Nat.add_sub_cancel_left]; omega
  have e1 : (j + 1 - 265) / 3 = i := by rw [hj2, Nat.add_assoc, Nat.add_sub_cancel_left]; omega
  have e2 : (j + 2 - 265) / 3 = i := by rw [hj2, Nat.add_assoc, Nat.add_sub_cancel_left]; omega
  have g : H[i]? = some H[i] := List.getElem?_eq_getElem hi
  refine ⟨?_, ?_, ?_⟩
  · rw [h.cell _ (by omega)]
    unfold mgL
    rw [if_neg (by omega), if_neg (by omega), if_neg (by omega), e0, g]
    simp only
    rw [if_pos (by omega)]
  · rw [h.cell _ (by omega)]
    unfold mgL
    rw [if_neg (by omega), if_neg (by omega), if_neg (by omega), e1, g]
    simp only
    rw [if_neg (by omega), if_pos (by omega)]
  · rw [h.cell _ (by omega)]
    unfold mgL
    rw [if_neg (by omega), if_neg (by omega), if_neg (by omega), e2, g]
    simp only
    rw [if_neg (by omega), if_neg (by omega)]

set_option maxRecDepth 100000 in
set_option maxHeartbeats 2000000 in
theorem free_c {w : World} {b : Nat} {q : List Value} {H : List (Nat × Ed)} (h : Mgr w b q H) (hH : H.length < 256) : Calls Tryz.prog 90 #[.pointer (some ⟨b, 0, none⟩)] w fun e w' => e = .returned (.int .i64 ((H.length + 1 : Nat) : Int)) ∧ w' = w := by
  have HM := Lib.hid h
  obtain ⟨n, hn⟩ : ∃ n, H.length = n := ⟨_, rfl⟩
  rw [hn] at hH ⊢
  have HN := Lib.hid hn
  clear h hn
  go_enter Tryz.func90, Tryz.ntmps90
  go_wp2_with fail
  go_loop [3] (fun i => ∃ k : Nat, 1 ≤ k ∧ k ≤ n + 1 ∧ i = .int .i64 k) (fun i => n + 1 - (intOf i).toNat)
  case atStart => exact ⟨1, by omega, by omega, rfl⟩
  case round =>
    obtain ⟨k, h1, h2, rfl⟩ := hrel
    have c := HM.out.live k h1 (by omega)
    rw [HN.out] at c
    have hk : (k : Int) ≤ 256 := by omega
    have hk2 : (k : Int) < 257 := by omega
    by_cases hkn : k ≤ n
    · rw [decide_eq_true hkn] at c
      go_wp2_with fail
      go_round
      case rel => exact ⟨k + 1, by omega, by omega, by first | rfl | (simp; try omega)⟩
      case measure => simp [intOf]; omega
    · rw [decide_eq_false hkn] at c
      obtain rfl : k = n + 1 := by omega
      go_wp2_with fail
      go_ret
      exact ⟨by first | rfl | simp, rfl⟩

set_option maxHeartbeats 1000000 in
theorem has_c {w : World} {b : Nat} {q : List Value} {H : List (Nat × Ed)} (h : Mgr w b q H) (hH : H.length ≤ 256) (a : Nat) (h1 : 1 ≤ a) (h2 : a ≤ H.length) : Calls Tryz.prog 35 #[.pointer (some ⟨b, 0, none⟩), .int .i64 a] w fun e w' => e = .returned (.bool true) ∧ w' = w := by
  have c := h.live a h1 (by omega)
  rw [decide_eq_true h2] at c
  have ha : (1 : Int) ≤ a := by omega
  have hb : (a : Int) ≤ 256 := by omega
  have hc : (a : Int) < 257 := by omega
  clear h
  go_enter Tryz.func35, Tryz.ntmps35
  go_wp2_with fail
  go_ret
  exact ⟨by first | rfl | simp, rfl⟩
end Go.Proofs.YtcoljkigphnjfaaGreatDoor
set_option linter.unusedVariables false
set_option linter.unusedSimpArgs false
namespace Go.Proofs.YtcoljkigphnjfaaGreatDoor
open Go.RowKit

set_option maxRecDepth 100000 in
set_option maxHeartbeats 4000000 in
theorem same0_c (b : Nat) (w : World) : Calls Tryz.prog 37 #[.pointer (some ⟨b, 0, none⟩), .slice none 0 0] w fun e w' => e = .returned (.tuple #[.int .u8 0, .int .u8 0]) ∧ w' = w := by
  go_enter Tryz.func37, Tryz.ntmps37
  go_wp2_with fail
  refine wp_loop_rounds 1 ?_
  rw [rounds_succ]
  go_wp2_with fail
  refine wp_loop_rounds 1 ?_
  rw [rounds_succ]
  go_wp2_with fail
  go_ret2
  exact ⟨rfl, rfl⟩

set_option maxHeartbeats 1000000 in
theorem room0_c {w : World} {b : Nat} {q : List Value} {H : List (Nat × Ed)} (h : Mgr w b q H) (hH : H.length < 256) : Calls Tryz.prog 57 #[.pointer (some ⟨b, 0, none⟩), .slice none 0 0] w fun e w' => e = .returned (.tuple #[.int .u8 0, .int .u8 0]) ∧ w' = w := by
  have FR := Lib.hid (free_c h hH)
  have SM : Hid (∀ w, _) := same0_c b
  obtain ⟨n, hn⟩ : ∃ n, H.length = n := ⟨_, rfl⟩
  rw [hn] at FR
  have hne : ¬ ((n + 1 : Nat) : Int) = 0 := by omega
  clear h hn hH
  go_enter Tryz.func57, Tryz.ntmps57
  go_wp2_with fail
  refine FR.out.mono ?_
  rintro e w1 ⟨rfl, rfl⟩
  go_wp2_with fail
  refine (SM.out _).mono ?_
  rintro e w1 ⟨rfl, rfl⟩
  go_wp2_with fail
  go_ret2
  exact ⟨rfl, rfl⟩

set_option maxRecDepth 100000 in
set_option maxHeartbeats 4000000 in
theorem same1_c {w : World} {b g cap a f : Nat} {e : Ed} {q : List Value} {H : List (Nat × Ed)} (h : Mgr w b q H) (hH : H.length ≤ 256) (c0 : w.cell? ⟨g, 0, none⟩ = some (.int .i64 ((a + 1 : Nat) : Int))) (hf : H[a]? = some (f, e)) :
    Calls Tryz.prog 37 #[.pointer (some ⟨b, 0, none⟩), .slice (some ⟨g, 0, none⟩) 1 cap] w fun e w' => e = .returned (.tuple #[.int .u8 f, .int .u8 0]) ∧ w' = w := by
  obtain ⟨hl, hg⟩ := List.getElem?_eq_some_iff.1 hf
  have HA : Hid (∀ w' : World, w' = w → _) := fun w' e => e ▸ has_c h hH (a + 1) (by omega) (by omega)
  obtain ⟨d0, -⟩ := h.root hH a hl
  rw [hg] at d0
  obtain ⟨m, hm⟩ : ∃ m, a + 1 = m := ⟨_, rfl⟩
  rw [hm] at d0 c0 HA
  have hm1 : (m : Int) ≤ 256 := by omega
  have hm2 : (m : Int) < 257 := by omega
  have hm0 : (0 : Int) ≤ m := by omega
  clear h hf hg hl hm
  go_enter Tryz.func37, Tryz.ntmps37
  go_wp2_with fail
  refine wp_loop_rounds 2 ?_
  rw [rounds_succ]
  go_wp2_with fail
  refine (HA.out _ rfl).mono ?_
  rintro e' w1 ⟨rfl, rfl⟩
  go_wp2_with fail
  rw [rounds_succ]
  go_wp2_with fail
  refine wp_loop_rounds 2 ?_
  rw [rounds_succ]
  go_wp2_with fail
  rw [rounds_succ]
  go_wp2_with fail
  go_ret2
  exact ⟨rfl, rfl⟩

set_option maxRecDepth 100000 in
set_option maxHeartbeats 4000000 in
theorem same2_c {w : World} {b g cap a a2 f f2 : Nat} {e e2 : Ed} {q : List Value} {H : List (Nat × Ed)} (h : Mgr w b q H) (hH : H.length ≤ 256) (c0 : w.cell? ⟨g, 0, none⟩ = some (.int .i64 ((a + 1 : Nat) : Int))) (c1 : w.cell? ⟨g, 1, none⟩ = some (.int .i64 ((a2 + 1 : Nat) : Int)))
    (hf : H[a]? = some (f, e)) (hf2 : H[a2]? = some (f2, e2)) (hne : ¬ (f2 : Int) = f) :
    Calls Tryz.prog 37 #[.pointer (some ⟨b, 0, none⟩), .slice (some ⟨g, 0, none⟩) 2 cap] w fun e w' => e = .returned (.tuple #[.int .u8 0, .int .u8 4]) ∧ w' = w := by
  obtain ⟨hl, hg⟩ := List.getElem?_eq_some_iff.1 hf
  obtain ⟨hl2, hg2⟩ := List.getElem?_eq_some_iff.1 hf2
  have HA : Hid (∀ w' : World, w' = w → _) := fun w' e => e ▸ has_c h hH (a + 1) (by omega) (by omega)
  have HA2 : Hid (∀ w' : World, w' = w → _) := fun w' e => e ▸ has_c h hH (a2 + 1) (by omega) (by omega)
  obtain ⟨d0, -⟩ := h.root hH a hl
  obtain ⟨d2, -⟩ := h.root hH a2 hl2
  rw [hg] at d0
  rw [hg2] at d2
  obtain ⟨m, hm⟩ : ∃ m, a + 1 = m := ⟨_, rfl⟩
  rw [hm] at d0 c0 HA
  obtain ⟨m2, hm2⟩ : ∃ m, a2 + 1 = m := ⟨_, rfl⟩
  rw [hm2] at d2 c1 HA2
  have hm1 : (m : Int) ≤ 256 := by omega
  have hm3 : (m : Int) < 257 := by omega
  have hm0 : (0 : Int) ≤ m := by omega
  have hk1 : (m2 : Int) ≤ 256 := by omega
  have hk3 : (m2 : Int) < 257 := by omega
  have hk0 : (0 : Int) ≤ m2 := by omega
  have hd : ((f2 : Int) != f) = true := by simpa using hne
  clear h hf hg hl hm hf2 hg2 hl2 hm2
  go_enter Tryz.func37, Tryz.ntmps37
  go_wp2_with fail
  refine wp_loop_rounds 3 ?_
  rw [rounds_succ]
  go_wp2_with fail
  refine (HA.out _ rfl).mono ?_
  rintro e' w1 ⟨rfl, rfl⟩
  go_wp2_with fail
  rw [rounds_succ]
  go_wp2_with fail
  refine (HA2.out _ rfl).mono ?_
  rintro e' w1 ⟨rfl, rfl⟩
  go_wp2_with fail
  rw [rounds_succ]
  go_wp2_with fail
  refine wp_loop_rounds 2 ?_
  rw [rounds_succ]
  go_wp2_with fail
  rw [rounds_succ]
  go_wp2_with fail
  go_ret2
  exact ⟨rfl, rfl⟩
end Go.Proofs.YtcoljkigphnjfaaGreatDoor
set_option linter.unusedVariables false
set_option linter.unusedSimpArgs false
namespace Go.Proofs.YtcoljkigphnjfaaGreatDoor

def GeT (l : Nat) : Tr → Prop
  | .leaf _ => True
  | .node t b _ _ _ _ => l ≤ t ∧ t ≤ b
theorem GeT.le {l m : Nat} {T : Tr} (h : GeT m T) (hl : l ≤ m) : GeT l T := by
  cases T with
  | leaf b => trivial
  | node t b tl x th y => exact ⟨Nat.le_trans hl h.1, h.2⟩
/-- An edge may stand at a level. -/
def VE (f l : Nat) (x : Nat × Tr) : Prop :=
  if f = 5 then x = (0, .leaf false) ∨ (x.2 ≠ .leaf false ∧ l ≤ x.1 ∧ GeT x.1 x.2) else x.1 = 0 ∧ GeT l x.2
/-- Its halves there. -/
def vw (f l : Nat) (x : Nat × Tr) : (Nat × Tr) × (Nat × Tr) :=
  if f = 5 ∧ ¬ x.1 = l ∨ x.2 = .leaf false then (x, x) else
  match x.2 with
  | .leaf b => if f = 5 then ((l + 1, .leaf b), (0, .leaf false)) else if f = 2 ∨ f = 4 then (x, (0, .leaf false)) else (x, x)
  | .node t b tl u th v =>
    if t = l then (if b = l then ((tl, u), (th, v)) else if f = 3 then ((0, .node (l + 1) b tl u th v), (th, v)) else ((0, .node (l + 1) b tl u th v), (0, .node (l + 1) b tl u th v)))
    else if f = 5 then ((l + 1, x.2), (0, .leaf false)) else if f = 2 ∨ f = 4 then (x, (0, .leaf false)) else (x, x)

theorem nodeE_form (f l : Nat) (x y : Nat × Tr) : (∃ t b tl u th v, x.2 = .node t b tl u th v ∧ f = 3 ∧ t = l + 1 ∧ (th, v) = y ∧ nodeE f l x y = .node l b tl u y.1 y.2) ∨
    (∃ t b tl u th v, x.2 = .node t b tl u th v ∧ f = 4 ∧ x = y ∧ t = l + 1 ∧ nodeE f l x y = .node l b tl u th v) ∨ nodeE f l x y = .node l l x.1 x.2 y.1 y.2 := by
  unfold nodeE
  cases hx : x.2 with
  | leaf b => exact .inr (.inr rfl)
  | node t b tl u th v =>
    simp only
    split
    · rename_i h; exact .inl ⟨t, b, tl, u, th, v, rfl, h.1, h.2.1, h.2.2, rfl⟩
    · split
      · rename_i h; exact .inr (.inl ⟨t, b, tl, u, th, v, rfl, h.1, h.2.1, h.2.2, rfl⟩)
      · exact .inr (.inr rfl)

theorem VE.mk {f l : Nat} {x y : Nat × Tr} (hx : VE f (l + 1) x) (hy : VE f (l + 1) y) : VE f l (mkE f l x y) := by
  by_cases h5 : f = 5
  · subst h5
    unfold VE at hx hy ⊢
    simp only [if_true] at hx hy ⊢
    unfold mkE
    simp only [show ¬ ((5 : Nat) = 2 ∨ (5 : Nat) = 4) by omega, if_false, true_and, if_true]
    by_cases hxy : x = y
    · rw [if_pos hxy]
      rcases hx with h | h
      · exact .inl h
      · exact .inr ⟨h.1, by omega, h.2.2⟩
    · rw [if_neg hxy]
      by_cases hz : y.2 = .leaf false ∧ x.1 = l + 1
      · rw [if_pos hz]
        rcases hx with h | h
        · rw [h] at hz; simp at hz
        · exact .inr ⟨h.1, Nat.le_refl _, h.2.2.le (by simp; omega)⟩
      · rw [if_neg hz]
        rcases nodeE_form 5 l x y with ⟨_, _, _, _, _, _, _, h, _⟩ | ⟨_, _, _, _, _, _, _, h, _⟩ | h
        · omega
        · omega
        · refine .inr ⟨by rw [h]; simp, Nat.le_refl _, ?_⟩
          rw [h]; exact ⟨Nat.le_refl _, Nat.le_refl _⟩
  · unfold VE at hx hy ⊢
    simp only [h5, if_false] at hx hy ⊢
    unfold mkE
    simp only [h5, false_and, if_false]
    have hn : (0 : Nat) = 0 ∧ GeT l (nodeE f l x y) := by
      refine ⟨rfl, ?_⟩
      rcases nodeE_form f l x y with ⟨t, b, tl, u, th, v, h1, _, h2, _, h⟩ | ⟨t, b, tl, u, th, v, h1, _, _, h2, h⟩ | h
      · rw [h]
        have := hx.2
        rw [h1] at this
        exact ⟨Nat.le_refl _, Nat.le_trans (by have := this.1; omega) this.2⟩
      · rw [h]
        have := hx.2
        rw [h1] at this
        exact ⟨Nat.le_refl _, Nat.le_trans (by have := this.1; omega) this.2⟩
      · rw [h]; exact ⟨Nat.le_refl _, Nat.le_refl _⟩
    have hxl : x.1 = 0 ∧ GeT l x.2 := ⟨hx.1, hx.2.le (by omega)⟩
    split
    · split
      · exact hxl
      · exact hn
    · split
      · exact hxl
      · exact hn

theorem vw_mk {f l : Nat} {x y : Nat × Tr} (h1 : 1 ≤ f) (h5' : f ≤ 5) (hx : VE f (l + 1) x) (hy : VE f (l + 1) y) : vw f l (mkE f l x y) = (x, y) := by
  by_cases h5 : f = 5
  · subst h5
    unfold VE at hx hy
    simp only [if_true] at hx hy
    unfold mkE
    simp only [show ¬ ((5 : Nat) = 2 ∨ (5 : Nat) = 4) by omega, if_false, true_and, if_true]
    by_cases hxy : x = y
    · subst hxy
      rw [if_pos rfl]
      unfold vw
      rw [if_pos]
      rcases hx with h | h
      · right; rw [h]
      · left; exact ⟨rfl, by omega⟩
    · rw [if_neg hxy]
      by_cases hz : y.2 = .leaf false ∧ x.1 = l + 1
      · rw [if_pos hz]
        have hy' : y = (0, .leaf false) := by
          rcases hy with h | h
          · exact h
          · exact absurd hz.1 h.1
        rcases hx with h | h
        · rw [h] at hz; simp at hz
        · unfold vw
          rw [if_neg (by simp; exact h.1)]
          obtain ⟨xt, xT⟩ := x
          simp only at hz h ⊢
          cases xT with
          | leaf b => simp [hz.2, hy']
          | node t b tl u th v =>
            have := h.2.2.1
            simp only
            rw [if_neg (by omega)]
            simp [hz.2, hy']
      · rw [if_neg hz]
        rcases nodeE_form 5 l x y with ⟨_, _, _, _, _, _, _, h, _⟩ | ⟨_, _, _, _, _, _, _, h, _⟩ | h
        · omega
        · omega
        · rw [h]
          unfold vw
          rw [if_neg (by simp)]
          simp
  · unfold VE at hx hy
    simp only [h5, if_false] at hx hy
    have hns : ∀ T, ¬ T = Tr.leaf false → ¬ (f = 5 ∧ ¬ (0, T).1 = l ∨ (0, T).2 = Tr.leaf false) := fun T h => by simp [h5, h]
    have hn : (hm : (f = 2 ∨ f = 4) → ¬ y.2 = .leaf false) → vw f l (0, nodeE f l x y) = (x, y) := by
      intro hm
      rcases nodeE_form f l x y with ⟨t, b, tl, u, th, v, e1, e0, e2, e3, h⟩ | ⟨t, b, tl, u, th, v, e1, e0, e3, e2, h⟩ | h
      · rw [h]
        unfold vw
        rw [if_neg (by simp [h5])]
        have := hx.2
        rw [e1] at this
        have hb : ¬ b = l := by have h7 := this.1; have h8 := this.2; omega
        simp only [if_true, if_neg hb, if_pos e0]
        obtain ⟨xt, xT⟩ := x
        simp only at e1 hx
        subst e1 e2
        rw [← e3]
        simp [hx.1]
      · rw [h]
        unfold vw
        rw [if_neg (by simp [h5])]
        have := hx.2
        rw [e1] at this
        have hb : ¬ b = l := by have h7 := this.1; have h8 := this.2; omega
        simp only [if_true, if_neg hb, if_neg (show ¬ f = 3 by omega)]
        rw [← e3]
        obtain ⟨xt, xT⟩ := x
        simp only at e1 hx
        subst e1 e2
        simp [hx.1]
      · rw [h]
        unfold vw
        rw [if_neg (by simp [h5])]
        simp
    have hxx : ∀ z, z = (if f = 2 ∨ f = 4 then ((0, .leaf false) : Nat × Tr) else x) → vw f l x = (x, z) := by
      rintro z rfl
      unfold vw
      obtain ⟨xt, xT⟩ := x
      simp only at hx
      cases xT with
      | leaf b =>
        cases b with
        | false => simp [hx.1]
        | true => simp [h5]; split <;> rfl
      | node t b tl u th v =>
        have := hx.2.1
        rw [if_neg (by simp [h5])]
        simp only [if_neg (show ¬ t = l by omega), h5, if_false]
        split <;> rfl
    unfold mkE
    simp only [h5, false_and, if_false]
    split
    · rename_i h24
      split
      · rename_i hz
        refine hxx _ ?_
        rw [if_pos h24]
        exact Prod.ext hy.1 hz
      · rename_i hz
        exact hn fun _ => hz
    · rename_i h24
      split
      · rename_i hxy
        refine hxx _ ?_
        rw [if_neg h24, hxy]
      · exact hn fun h => absurd h h24

theorem leafE_VE (f n : Nat) (b : Bool) : VE f n (leafE f n b) := by
  unfold VE leafE
  by_cases h5 : f = 5
  · cases b <;> simp [h5, GeT]
  · simp [h5, GeT]
theorem build_VE (f n : Nat) : ∀ (k l : Nat) (t : List Bool), l + k = n → VE f l (buildE f n k l t) := by
  intro k
  induction k with
  | zero => intro l t h; simp at h; subst h; exact leafE_VE _ _ _
  | succ k ih => intro l t h; exact VE.mk (ih _ _ (by omega)) (ih _ _ (by omega))
theorem build_vw {f n : Nat} (h1 : 1 ≤ f) (h5 : f ≤ 5) (k l : Nat) (t : List Bool) (h : l + (k + 1) = n) : vw f l (buildE f n (k + 1) l t) = (buildE f n k (l + 1) (t.take (2 ^ k)), buildE f n k (l + 1) (t.drop (2 ^ k))) :=
  vw_mk h1 h5 (build_VE _ _ _ _ _ (by omega)) (build_VE _ _ _ _ _ (by omega))
theorem build_inj {f n : Nat} (h1 : 1 ≤ f) (h5 : f ≤ 5) : ∀ (k l : Nat) (t u : List Bool), l + k = n → t.length = 2 ^ k → u.length = 2 ^ k → buildE f n k l t = buildE f n k l u → t = u := by
  intro k
  induction k with
  | zero =>
    intro l t u h ht hu e
    obtain ⟨a, rfl⟩ := List.length_eq_one_iff.1 ht
    obtain ⟨b, rfl⟩ := List.length_eq_one_iff.1 hu
    have := congrArg Prod.snd e
    simp [buildE, leafE] at this
    rw [this]
  | succ k ih =>
    intro l t u h ht hu e
    have e2 := congrArg (vw f l) e
    rw [build_vw h1 h5 k l t h, build_vw h1 h5 k l u h] at e2
    have e3 := ih (l + 1) _ _ (by omega) (by rw [List.length_take, ht, Nat.pow_succ]; omega) (by rw [List.length_take, hu, Nat.pow_succ]; omega) (congrArg Prod.fst e2)
    have e4 := ih (l + 1) _ _ (by omega) (by rw [List.length_drop, ht, Nat.pow_succ]; omega) (by rw [List.length_drop, hu, Nat.pow_succ]; omega) (congrArg Prod.snd e2)
    rw [← List.take_append_drop (2 ^ k) t, e3, e4, List.take_append_drop]
theorem VE.zero {f l : Nat} {x : Nat × Tr} (h : VE f l x) (hz : x.2 = .leaf false) : x = (0, .leaf false) := by
  unfold VE at h
  split at h
  · rcases h with h | h
    · exact h
    · exact absurd hz h.1
  · exact Prod.ext h.1 hz
theorem build_none {f n : Nat} : ∀ (k l : Nat) (t : List Bool), true ∉ t → buildE f n k l t = (0, .leaf false) := by
  intro k
  induction k with
  | zero =>
    intro l t h
    have : t.headD false = false := by
      cases t with
      | nil => rfl
      | cons a t => simp at h ⊢; exact h.1
    rw [buildE, leafE, this]
    simp
  | succ k ih =>
    intro l t h
    rw [buildE, ih _ _ (fun hm => h (List.mem_of_mem_take hm)), ih _ _ (fun hm => h (List.mem_of_mem_drop hm))]
    unfold mkE
    simp
theorem build_zero {f n : Nat} (h1 : 1 ≤ f) (h5 : f ≤ 5) (k l : Nat) (t : List Bool) (h : l + k = n) (ht : t.length = 2 ^ k) : (buildE f n k l t).2 = .leaf false ↔ true ∉ t := by
  constructor
  · intro e
    have e2 := (build_VE f n k l t h).zero e
    have e3 := build_none (f := f) (n := n) k l (List.replicate (2 ^ k) false) (by simp)
    rw [build_inj h1 h5 k l t _ h ht (by simp) (e2.trans e3.symm)]
    simp
  · intro e; rw [build_none k l t e]
end Go.Proofs.YtcoljkigphnjfaaGreatDoor
set_option linter.unusedVariables false
set_option linter.unusedSimpArgs false
namespace Go.Proofs.YtcoljkigphnjfaaGreatDoor

abbrev Ky := Nat × Nat × List Bool
/-- The parts of a table that hang on their first variable (form 1), or hold with it set (form 2). -/
def keys (z : Bool) : Nat → Nat → List Bool → List Ky
  | 0, _, _ => []
  | k + 1, l, t =>
    if (if z then decide (true ∉ t.drop (2 ^ k)) else decide (t.take (2 ^ k) = t.drop (2 ^ k))) = true then keys z k (l + 1) (t.take (2 ^ k))
    else (k + 1, l, t) :: (keys z k (l + 1) (t.take (2 ^ k)) ++ keys z k (l + 1) (t.drop (2 ^ k)))
theorem keys_same {k l : Nat} {t : List Bool} (h : t.take (2 ^ k) = t.drop (2 ^ k)) : keys false (k + 1) l t = keys false k (l + 1) (t.take (2 ^ k)) := by
  rw [keys, if_pos (by simp [h])]
theorem keys_diff {k l : Nat} {t : List Bool} (h : ¬ t.take (2 ^ k) = t.drop (2 ^ k)) : keys false (k + 1) l t = (k + 1, l, t) :: (keys false k (l + 1) (t.take (2 ^ k)) ++ keys false k (l + 1) (t.drop (2 ^ k))) := by
  rw [keys, if_neg (by simp [h])]
theorem keys_none {k l : Nat} {t : List Bool} (h : true ∉ t.drop (2 ^ k)) : keys true (k + 1) l t = keys true k (l + 1) (t.take (2 ^ k)) := by
  rw [keys, if_pos (by simp [h])]
theorem keys_some {k l : Nat} {t : List Bool} (h : ¬ true ∉ t.drop (2 ^ k)) : keys true (k + 1) l t = (k + 1, l, t) :: (keys true k (l + 1) (t.take (2 ^ k)) ++ keys true k (l + 1) (t.drop (2 ^ k))) := by
  rw [keys, if_neg (by simpa using h)]

def rootE (f n : Nat) (y : Ky) : Tr := (buildE f n y.1 y.2.1 y.2.2).2
section
variable {n : Nat}

theorem halves_len {k : Nat} {t : List Bool} (h : t.length = 2 ^ (k + 1)) : (t.take (2 ^ k)).length = 2 ^ k ∧ (t.drop (2 ^ k)).length = 2 ^ k := by
  rw [List.length_take, List.length_drop, h, Nat.pow_succ]; omega
theorem mk_same {f l : Nat} {x : Nat × Tr} (h : ¬ (f = 2 ∨ f = 4)) : mkE f l x x = x := by
  unfold mkE; rw [if_neg h, if_pos rfl]
theorem mk_none {f l : Nat} {x y : Nat × Tr} (h : f = 2 ∨ f = 4) (hy : y.2 = .leaf false) : mkE f l x y = x := by
  unfold mkE; rw [if_pos h, if_pos hy]
theorem mk_diff {f l : Nat} {x y : Nat × Tr} (h : f = 1 ∨ f = 3) (hxy : ¬ x = y) : mkE f l x y = (0, nodeE f l x y) := by
  unfold mkE; rw [if_neg (by omega), if_neg hxy, if_neg (by omega), if_neg (by omega)]
theorem mk_some {f l : Nat} {x y : Nat × Tr} (h : f = 2 ∨ f = 4) (hy : ¬ y.2 = .leaf false) : mkE f l x y = (0, nodeE f l x y) := by
  unfold mkE; rw [if_pos h, if_neg hy]
theorem mk_five {l : Nat} {x y : Nat × Tr} (hxy : ¬ x = y) : mkE 5 l x y = if y.2 = .leaf false ∧ x.1 = l + 1 then (l, x.2) else (l, .node l l x.1 x.2 y.1 y.2) := by
  unfold mkE
  rw [if_neg (by omega), if_neg hxy]
  simp only [true_and, if_true]
  rcases nodeE_form 5 l x y with ⟨_, _, _, _, _, _, _, h, _⟩ | ⟨_, _, _, _, _, _, _, h, _⟩ | h
  · omega
  · omega
  · rw [h]
/-- The nodes of Make's node: itself and those below. -/
theorem nds_nodeE {f l : Nat} {x y : Nat × Tr} {T : Tr} (h : T ∈ nds (nodeE f l x y)) : T = nodeE f l x y ∨ T ∈ nds x.2 ∨ T ∈ nds y.2 := by
  rcases nodeE_form f l x y with ⟨t, b, tl, u, th, v, e1, _, _, e3, e⟩ | ⟨t, b, tl, u, th, v, e1, _, _, _, e⟩ | e
  · rw [e] at h ⊢
    simp [nds] at h
    rcases h with h | h | h
    · exact .inl h
    · right; left; rw [e1]; simp [nds, h]
    · exact .inr (.inr h)
  · rw [e] at h ⊢
    simp [nds] at h
    rcases h with h | h | h
    · exact .inl h
    · right; left; rw [e1]; simp [nds, h]
    · right; left; rw [e1]; simp [nds, h]
  · rw [e] at h ⊢
    simp [nds] at h
    rcases h with h | h | h
    · exact .inl h
    · exact .inr (.inl h)
    · exact .inr (.inr h)

/-- Forms 1 and 3: each node is that of a part that hangs on its variable. -/
theorem cov13 {f : Nat} (hf : f = 1 ∨ f = 3) : ∀ (k l : Nat) (t : List Bool), l + k = n → t.length = 2 ^ k → ∀ T ∈ nds (buildE f n k l t).2, ∃ y ∈ keys false k l t, rootE f n y = T := by
  intro k
  induction k with
  | zero => intro l t h ht T hT; simp [buildE, leafE, nds] at hT
  | succ k ih =>
    intro l t h ht T hT
    obtain ⟨h1, h2⟩ := halves_len ht
    by_cases e : t.take (2 ^ k) = t.drop (2 ^ k)
    · rw [keys_same e]
      rw [buildE, ← e, mk_same (by omega)] at hT
      exact ih _ _ (by omega) h1 T hT
    · rw [keys_diff e]
      have hne : ¬ buildE f n k (l + 1) (t.take (2 ^ k)) = buildE f n k (l + 1) (t.drop (2 ^ k)) := fun q => e (build_inj (by omega) (by omega) k (l + 1) _ _ (by omega) h1 h2 q)
      have hT0 := hT
      rw [buildE, mk_diff hf hne] at hT
      rcases nds_nodeE hT with q | q | q
      · refine ⟨_, List.mem_cons_self .., ?_⟩
        rw [q, rootE, buildE, mk_diff hf hne]
      · obtain ⟨y, hy, e⟩ := ih _ _ (by omega) h1 T q
        exact ⟨y, by simp [hy], e⟩
      · obtain ⟨y, hy, e⟩ := ih _ _ (by omega) h2 T q
        exact ⟨y, by simp [hy], e⟩
theorem cov24 {f : Nat} (hf : f = 2 ∨ f = 4) : ∀ (k l : Nat) (t : List Bool), l + k = n → t.length = 2 ^ k → ∀ T ∈ nds (buildE f n k l t).2, ∃ y ∈ keys true k l t, rootE f n y = T := by
  intro k
  induction k with
  | zero => intro l t h ht T hT; simp [buildE, leafE, nds] at hT
  | succ k ih =>
    intro l t h ht T hT
    obtain ⟨h1, h2⟩ := halves_len ht
    have hz := build_zero (f := f) (n := n) (by omega) (by omega) k (l + 1) (t.drop (2 ^ k)) (by omega) h2
    by_cases e : true ∉ t.drop (2 ^ k)
    · rw [keys_none e]
      rw [buildE, mk_none hf (hz.2 e)] at hT
      exact ih _ _ (by omega) h1 T hT
    · rw [keys_some e]
      have hne : ¬ (buildE f n k (l + 1) (t.drop (2 ^ k))).2 = .leaf false := fun q => e (hz.1 q)
      rw [buildE, mk_some hf hne] at hT
      rcases nds_nodeE hT with q | q | q
      · refine ⟨_, List.mem_cons_self .., ?_⟩
        rw [q, rootE, buildE, mk_some hf hne]
      · obtain ⟨y, hy, e⟩ := ih _ _ (by omega) h1 T q
        exact ⟨y, by simp [hy], e⟩
      · obtain ⟨y, hy, e⟩ := ih _ _ (by omega) h2 T q
        exact ⟨y, by simp [hy], e⟩
theorem cov5 : ∀ (k l : Nat) (t : List Bool), l + k = n → t.length = 2 ^ k → ∀ T ∈ nds (buildE 5 n k l t).2, ∃ y ∈ keys false k l t, rootE 5 n y = T := by
  intro k
  induction k with
  | zero => intro l t h ht T hT; simp [buildE, leafE, nds] at hT
  | succ k ih =>
    intro l t h ht T hT
    obtain ⟨h1, h2⟩ := halves_len ht
    by_cases e : t.take (2 ^ k) = t.drop (2 ^ k)
    · rw [keys_same e]
      rw [buildE, ← e, mk_same (by omega)] at hT
      exact ih _ _ (by omega) h1 T hT
    · rw [keys_diff e]
      have hne : ¬ buildE 5 n k (l + 1) (t.take (2 ^ k)) = buildE 5 n k (l + 1) (t.drop (2 ^ k)) := fun q => e (build_inj (by omega) (by omega) k (l + 1) _ _ (by omega) h1 h2 q)
      rw [buildE, mk_five hne] at hT
      split at hT
      · obtain ⟨y, hy, e⟩ := ih _ _ (by omega) h1 T hT
        exact ⟨y, by simp [hy], e⟩
      · rename_i hnz
        simp [nds] at hT
        rcases hT with q | q | q
        · refine ⟨_, List.mem_cons_self .., ?_⟩
          rw [q, rootE, buildE, mk_five hne, if_neg hnz]
        · obtain ⟨y, hy, e⟩ := ih _ _ (by omega) h1 T q
          exact ⟨y, by simp [hy], e⟩
        · obtain ⟨y, hy, e⟩ := ih _ _ (by omega) h2 T q
          exact ⟨y, by simp [hy], e⟩

def freeT : Nat → List Bool → Bool
  | 0, _ => false
  | k + 1, t => decide (t.take (2 ^ k) = t.drop (2 ^ k))
/-- Form 5 by form 2's parts: a part whose variable does not matter stands for the node above it. -/
def rootZ (n : Nat) (y : Ky) : Tr :=
  if freeT y.1 y.2.2 = true then .node (y.2.1 - 1) (y.2.1 - 1) (buildE 5 n y.1 y.2.1 y.2.2).1 (buildE 5 n y.1 y.2.1 y.2.2).2 0 (.leaf false) else rootE 5 n y
/-- A diagram of form 5 that stands right here, or whose first variable does not matter. -/
theorem tag5 (k l : Nat) (t : List Bool) (h : l + k = n) (ht : t.length = 2 ^ k) (h1 : true ∈ t) (h2 : ¬ (buildE 5 n k l t).1 = l) : ∃ m, k = m + 1 ∧ t.take (2 ^ m) = t.drop (2 ^ m) := by
  cases k with
  | zero =>
    exfalso
    obtain ⟨a, rfl⟩ := List.length_eq_one_iff.1 ht
    simp at h1
    subst h1
    simp [buildE, leafE] at h2
    omega
  | succ k =>
    refine ⟨k, rfl, ?_⟩
    obtain ⟨q1, q2⟩ := halves_len ht
    by_cases e : t.take (2 ^ k) = t.drop (2 ^ k)
    · exact e
    · exfalso
      have hne : ¬ buildE 5 n k (l + 1) (t.take (2 ^ k)) = buildE 5 n k (l + 1) (t.drop (2 ^ k)) := fun q => e (build_inj (by omega) (by omega) k (l + 1) _ _ (by omega) q1 q2 q)
      rw [buildE, mk_five hne] at h2
      split at h2 <;> exact h2 rfl
theorem cov52 : ∀ (k l : Nat) (t : List Bool), l + k = n → t.length = 2 ^ k → ∀ T ∈ nds (buildE 5 n k l t).2, ∃ y ∈ keys true k l t, rootZ n y = T := by
  intro k
  induction k with
  | zero => intro l t h ht T hT; simp [buildE, leafE, nds] at hT
  | succ k ih =>
    intro l t h ht T hT
    obtain ⟨h1, h2⟩ := halves_len ht
    have sub : ∀ y, y ∈ keys true k (l + 1) (t.take (2 ^ k)) → y ∈ keys true (k + 1) l t := fun y hy => by
      by_cases e : true ∉ t.drop (2 ^ k)
      · rw [keys_none e]; exact hy
      · rw [keys_some e]; simp [hy]
    by_cases e : t.take (2 ^ k) = t.drop (2 ^ k)
    · rw [buildE, ← e, mk_same (by omega)] at hT
      obtain ⟨y, hy, e⟩ := ih _ _ (by omega) h1 T hT
      exact ⟨y, sub y hy, e⟩
    · have hne : ¬ buildE 5 n k (l + 1) (t.take (2 ^ k)) = buildE 5 n k (l + 1) (t.drop (2 ^ k)) := fun q => e (build_inj (by omega) (by omega) k (l + 1) _ _ (by omega) h1 h2 q)
      have hz := build_zero (f := 5) (n := n) (by omega) (by omega) k (l + 1) (t.drop (2 ^ k)) (by omega) h2
      rw [buildE, mk_five hne] at hT
      split at hT
      · obtain ⟨y, hy, e⟩ := ih _ _ (by omega) h1 T hT
        exact ⟨y, sub y hy, e⟩
      · rename_i hnz
        simp only [nds, List.mem_cons, List.mem_append] at hT
        rcases hT with q | q | q
        · by_cases hd : true ∉ t.drop (2 ^ k)
          · have htag : ¬ (buildE 5 n k (l + 1) (t.take (2 ^ k))).1 = l + 1 := fun q => hnz ⟨hz.2 hd, q⟩
            have hone : true ∈ t.take (2 ^ k) := by
              refine Decidable.byContradiction fun hno => hne ?_
              rw [build_none _ _ _ hno, build_none _ _ _ hd]
            obtain ⟨m, rfl, hm⟩ := tag5 k (l + 1) _ (by omega) h1 hone htag
            have hd2 : ¬ true ∉ (t.take (2 ^ (m + 1))).drop (2 ^ m) := by
              rw [← hm]
              intro hno
              have hall := hone
              rw [← List.take_append_drop (2 ^ m) (t.take (2 ^ (m + 1))), List.mem_append, ← hm] at hall
              exact hno (hall.elim id id)
            refine ⟨(m + 1, l + 1, t.take (2 ^ (m + 1))), ?_, ?_⟩
            · rw [keys_none hd, keys_some hd2]; exact List.mem_cons_self ..
            · rw [q, rootZ, if_pos (by simp [freeT, hm]), build_none _ _ _ hd]
              simp
          · refine ⟨(k + 1, l, t), by rw [keys_some hd]; exact List.mem_cons_self .., ?_⟩
            rw [rootZ, if_neg (by simp [freeT, e]), q, rootE, buildE, mk_five hne, if_neg hnz]
        · obtain ⟨y, hy, e⟩ := ih _ _ (by omega) h1 T q
          exact ⟨y, sub y hy, e⟩
        · obtain ⟨y, hy, e⟩ := ih _ _ (by omega) h2 T q
          refine ⟨y, ?_, e⟩
          by_cases e : true ∉ t.drop (2 ^ k)
          · rw [build_none _ _ _ e] at q; simp [nds] at q
          · rw [keys_some e]; simp [hy]

/-- Parts of form 1 or 2 are nodes there. -/
theorem keys_nds {f : Nat} (hf : f = 1 ∨ f = 2) : ∀ (k l : Nat) (t : List Bool), l + k = n → t.length = 2 ^ k → ∀ y ∈ keys (decide (f = 2)) k l t,
    rootE f n y ∈ nds (buildE f n k l t).2 ∧ (∃ tl x th z, rootE f n y = .node y.2.1 y.2.1 tl x th z) ∧ y.2.1 + y.1 = n ∧ y.2.2.length = 2 ^ y.1 := by
  intro k
  induction k with
  | zero => intro l t h ht y hy; simp [keys] at hy
  | succ k ih =>
    intro l t h ht y hy
    obtain ⟨h1, h2⟩ := halves_len ht
    have hnode : ∀ x z, nodeE f l x z = .node l l x.1 x.2 z.1 z.2 := fun x z => by
      rcases nodeE_form f l x z with ⟨_, _, _, _, _, _, _, h, _⟩ | ⟨_, _, _, _, _, _, _, h, _⟩ | h
      · omega
      · omega
      · exact h
    have main : buildE f n (k + 1) l t = (0, .node l l (buildE f n k (l + 1) (t.take (2 ^ k))).1 (buildE f n k (l + 1) (t.take (2 ^ k))).2 (buildE f n k (l + 1) (t.drop (2 ^ k))).1 (buildE f n k (l + 1) (t.drop (2 ^ k))).2) →
        y = (k + 1, l, t) ∨ y ∈ keys (decide (f = 2)) k (l + 1) (t.take (2 ^ k)) ∨ y ∈ keys (decide (f = 2)) k (l + 1) (t.drop (2 ^ k)) →
        rootE f n y ∈ nds (buildE f n (k + 1) l t).2 ∧ (∃ tl x th z, rootE f n y = .node y.2.1 y.2.1 tl x th z) ∧ y.2.1 + y.1 = n ∧ y.2.2.length = 2 ^ y.1 := by
      intro e q
      rcases q with rfl | q | q
      · have : rootE f n (k + 1, l, t) = (buildE f n (k + 1) l t).2 := rfl
        rw [this, e]
        exact ⟨by simp [nds], ⟨_, _, _, _, rfl⟩, h, ht⟩
      · obtain ⟨a, r⟩ := ih _ _ (by omega) h1 y q
        exact ⟨by rw [e]; simp [nds, a], r⟩
      · obtain ⟨a, r⟩ := ih _ _ (by omega) h2 y q
        exact ⟨by rw [e]; simp [nds, a], r⟩
    rcases hf with rfl | rfl
    · have d : decide ((1 : Nat) = 2) = false := rfl
      rw [d] at hy
      by_cases e : t.take (2 ^ k) = t.drop (2 ^ k)
      · rw [keys_same e] at hy
        rw [buildE, ← e, mk_same (by omega)]
        exact ih _ _ (by omega) h1 y hy
      · rw [keys_diff e] at hy
        have hne : ¬ buildE 1 n k (l + 1) (t.take (2 ^ k)) = buildE 1 n k (l + 1) (t.drop (2 ^ k)) := fun q => e (build_inj (by omega) (by omega) k (l + 1) _ _ (by omega) h1 h2 q)
        refine main (by rw [buildE, mk_diff (.inl rfl) hne, hnode]) ?_
        simpa [List.mem_cons, List.mem_append] using hy
    · have d : decide ((2 : Nat) = 2) = true := rfl
      rw [d] at hy
      have hz := build_zero (f := 2) (n := n) (by omega) (by omega) k (l + 1) (t.drop (2 ^ k)) (by omega) h2
      by_cases e : true ∉ t.drop (2 ^ k)
      · rw [keys_none e] at hy
        rw [buildE, mk_none (.inl rfl) (hz.2 e)]
        exact ih _ _ (by omega) h1 y hy
      · rw [keys_some e] at hy
        have hne : ¬ (buildE 2 n k (l + 1) (t.drop (2 ^ k))).2 = .leaf false := fun q => e (hz.1 q)
        refine main (by rw [buildE, mk_some (.inl rfl) hne, hnode]) ?_
        simpa [List.mem_cons, List.mem_append] using hy
end
end Go.Proofs.YtcoljkigphnjfaaGreatDoor
set_option linter.unusedVariables false
set_option linter.unusedSimpArgs false
namespace Go.Proofs.YtcoljkigphnjfaaGreatDoor
open Go.RowKit

set_option maxRecDepth 100000 in
set_option maxHeartbeats 4000000 in
theorem equal_c {w : World} {b a a2 f f2 : Nat} {e e2 : Ed} {q : List Value} {H : List (Nat × Ed)} (h : Mgr w b q H) (hH : H.length ≤ 256) (hf : H[a]? = some (f, e)) (hf2 : H[a2]? = some (f2, e2)) (hne : ¬ (f2 : Int) = f) :
    Calls Tryz.prog 16 #[.pointer (some ⟨b, 0, none⟩), .int .i64 ((a + 1 : Nat) : Int), .int .i64 ((a2 + 1 : Nat) : Int)] w fun e w' => e = .returned (.tuple #[.bool false, .int .u8 4]) ∧ Mod [] w w' := by
  obtain ⟨m, hm⟩ : ∃ m : Int, ((a + 1 : Nat) : Int) = m := ⟨_, rfl⟩
  obtain ⟨m2, hm2⟩ : ∃ m : Int, ((a2 + 1 : Nat) : Int) = m := ⟨_, rfl⟩
  obtain ⟨g, hg⟩ : ∃ g, w.heap.size = g := ⟨_, rfl⟩
  rw [hm, hm2]
  have MA : Hid (Mod [] w (w.alloc (.cells #[.int .i64 m, .int .i64 m2] 3))) := (Mod.refl _ _).alloc _
  have BA := Blk.new' w #[.int .i64 m, .int .i64 m2] 3 g hg.symm
  have SM := Lib.hid (same2_c (g := g) (cap := 2) (h.mod MA.out (by simp)) hH (a := a) (a2 := a2) (by rw [hm]; have := BA.cell 0; simpa using this) (by rw [hm2]; have := BA.cell 1; simpa using this) hf hf2 hne)
  clear h hf hf2 hne hm hm2 BA
  go_enter Tryz.func16, Tryz.ntmps16
  go_wp2_with fail
  refine SM.out.mono ?_
  rintro e w1 ⟨rfl, rfl⟩
  go_wp2_with fail
  go_ret2
  exact ⟨rfl, MA.out⟩
end Go.Proofs.YtcoljkigphnjfaaGreatDoor
set_option linter.unusedVariables false
set_option linter.unusedSimpArgs false
namespace Go.Proofs.YtcoljkigphnjfaaGreatDoor
open Go.RowKit

/-- One more than the place from which it falls to the end. -/
def descM (p : List Nat) : Nat → Nat
  | 0 => 0
  | m + 1 => if p.getD (m + 1) 0 < p.getD m 0 then descM p m else m + 1
def stepB (p : List Nat) (i : Nat) (o : Option Nat) (k : Nat) : Option Nat :=
  if p.getD i 0 < p.getD k 0 then (match o with | none => some k | some b => if p.getD k 0 < p.getD b 0 then some k else some b) else o
def bestB (p : List Nat) (i : Nat) : Nat → Option Nat
  | 0 => none
  | d + 1 => stepB p i (bestB p i d) (i + 1 + d)
def nextP (p : List Nat) : Option (List Nat) :=
  match descM p (p.length - 1) with
  | 0 => none
  | i + 1 => match bestB p i (p.length - (i + 1)) with
    | some b => some (dis (p.take i ++ [p.getD b 0]) (List.range p.length))
    | none => none
def oI : Option Nat → Int
  | none => -1
  | some b => (b : Int)
theorem bestB_lt (p : List Nat) (i : Nat) : ∀ d b, bestB p i d = some b → b < i + 1 + d := by
  intro d
  induction d with
  | zero => intro b h; simp [bestB] at h
  | succ d ih =>
    intro b h
    rw [bestB] at h
    unfold stepB at h
    split at h
    · split at h
      · simp at h; omega
      · rename_i b' hb'
        have := ih b' hb'
        split at h
        · simp at h; omega
        · simp at h; omega
    · have := ih b h; omega

/-- What Next tells. -/
def NextP (w : World) (p : List Nat) (e : Ending) (w' : World) : Prop :=
  (nextP p = none ∧ e = .returned (.tuple #[.slice none 0 0, .bool false]) ∧ Mod [] w w') ∨ ∃ v q, nextP p = some q ∧ e = .returned (.tuple #[v, .bool true]) ∧ NewV 3 w (q.map ei) w' v

set_option maxRecDepth 100000 in
set_option maxHeartbeats 16000000 in
theorem next02_c {w : World} {v : Value} {p : List Nat} {F : List Nat} (h : Rv w v (p.map ei) F) (hl : p.length ≤ 100) (hb : ∀ i, descM p (p.length - 1) = i + 1 → ∃ b, bestB p i (p.length - (i + 1)) = some b) :
    Calls Tryz.prog 12 #[v] w (NextP w p) := by
  obtain ⟨A, cap, rfl, hc⟩ := h.shape
  have H := Lib.hid h
  have HB := Lib.hid hb
  simp only [List.length_map] at H hc ⊢
  obtain ⟨n, hn⟩ : ∃ n, p.length = n := ⟨_, rfl⟩
  have PN : Hid (nextP p = match descM p (n - 1) with
    | 0 => none
    | i + 1 => match bestB p i (n - (i + 1)) with
      | some b => some (dis (p.take i ++ [p.getD b 0]) (List.range n))
      | none => none) := by show _ = _; unfold nextP; rw [hn]
  rw [hn] at H hc hl HB ⊢
  have HN := Lib.hid hn
  obtain ⟨i0, hi, hz0, hz1, hz2⟩ := info_parts Tryz.info3
  have CELL : Hid (∀ (W : World) (S : List Nat), Mod S w W → (∀ k ∈ F, k ∉ S) → ∀ j, j < n → ∃ b off, A = some ⟨b, off, none⟩ ∧ W.cell? ⟨b, off + j, none⟩ = some (.int .i64 (p.getD j 0 : Nat))) := fun W S m hd j hj => by
    obtain ⟨b, off, e, d⟩ := (H.out.mod m hd).at j (by rw [List.length_map]; omega)
    refine ⟨b, off, e, ?_⟩
    rw [d, List.getElem_map, List.getD_eq_getElem?_getD, List.getElem?_eq_getElem (by omega)]; rfl
  clear h hb hn
  rcases Nat.eq_zero_or_pos n with hn0 | hn0
  · subst hn0
    have E : Hid (nextP p = none) := by show _ = _; rw [PN.out]; rfl
    go_enter Tryz.func12, Tryz.ntmps12
    go_wp2_with fail
    refine wp_loop_rounds 1 ?_
    rw [rounds_succ]
    go_wp2_with fail
    go_quiet (fail)
    go_wp2_with fail
    go_ret2
    exact .inl ⟨E.out, rfl, by (repeat (first | exact Mod.refl _ _ | apply Mod.drew | apply Mod.drewN | apply Mod.alloc | refine Mod.setCell ?_ _ _ (by first | simp | (simp; omega))))⟩
  · have hn1 : ((n : Int) - 2) = ((n - 1 : Nat) : Int) - 1 := by omega
    go_enter Tryz.func12, Tryz.ntmps12
    go_wp2_with fail
    go_loopw [4] (fun i wr => ∃ m : Nat, i = .int .i64 ((m : Int) - 1) ∧ m ≤ n - 1 ∧ Hid (descM p m = descM p (n - 1)) ∧ Hid (Mod [] w wr)) (fun i _ => (intOf i + 1).toNat)
    case atStart => exact ⟨n - 1, by first | rfl | (simp; omega), Nat.le_refl _, rfl, by (repeat (first | exact Mod.refl _ _ | apply Mod.drew | apply Mod.drewN | apply Mod.alloc | refine Mod.setCell ?_ _ _ (by first | simp | (simp; omega))))⟩
    case round =>
      obtain ⟨m, rfl, hm, HD, HM⟩ := hrel
      clear hn1
      by_cases hm0 : m = 0
      · subst hm0
        have E : Hid (nextP p = none) := by show _ = _; rw [PN.out, ← HD.out]; rfl
        go_wp2_with fail
        go_quiet (fail)
        go_wp2_with fail
        go_ret2
        exact .inl ⟨E.out, rfl, HM.out.drewN _⟩
      · obtain ⟨i, rfl⟩ : ∃ i, m = i + 1 := ⟨m - 1, by omega⟩
        have hi0 : (((i + 1 : Nat) : Int) - 1) = (i : Int) := by omega
        simp only [hi0]
        obtain ⟨b, off, rfl, d0⟩ := CELL.out wr [] HM.out (by simp) i (by omega)
        obtain ⟨b', off', e', d1⟩ := CELL.out wr [] HM.out (by simp) (i + 1) (by omega)
        simp at e'
        obtain ⟨rfl, rfl⟩ := e'
        have hin : (i : Int) + 1 < n := by omega
        have hi00 : (0 : Int) ≤ i := by omega
        obtain ⟨xi, hxi⟩ : ∃ xi, p.getD i 0 = xi := ⟨_, rfl⟩
        obtain ⟨xj, hxj⟩ : ∃ xj, p.getD (i + 1) 0 = xj := ⟨_, rfl⟩
        rw [hxi] at d0
        rw [hxj] at d1
        have HX := Lib.hid (And.intro hxi hxj)
        clear hxi hxj
        by_cases hgt : xj < xi
        · have hdd : decide (xj < xi) = true := by simpa using hgt
          have HD2 : Hid (descM p i = descM p (n - 1)) := by
            show _ = _
            rw [← HD.out, descM, HX.out.1, HX.out.2, if_pos hgt]
          go_wp2_with fail
          go_quiet (fail)
          go_wp2_with fail
          go_roundw
          case rel => exact ⟨i, rfl, by omega, HD2, HM.out.drewN _⟩
          case measure => simp [intOf]
        · have hdd : decide (xj < xi) = false := by simpa using hgt
          have HD2 : Hid (descM p (n - 1) = i + 1) := by
            show _ = _
            rw [← HD.out, descM, HX.out.1, HX.out.2, if_neg hgt]
          have BB := Lib.hid (HB.out i HD2.out)
          have HXI : Hid (p.getD i 0 = xi) := HX.out.1
          go_wp2_with fail
          go_quiet (fail)
          clear hdd hgt HX HD d0 d1
          go_wp2_with fail
          generalize hwo : wr.drewN _ = wo
          have HMo : Hid (Mod [] w wo) := by
            show Mod [] w wo
            rw [← hwo]
            exact HM.out.drewN _
          clear hwo HM
          have hi1 : (i : Int) + 1 = ((i + 1 + 0 : Nat) : Int) := by omega
          go_wp2_with fail
          go_loopw [5, 6] (fun z k wr => ∃ (o : Option Nat) (d : Nat) (zz : Int), z = .int .i64 zz ∧ (o = none ∧ zz = -1 ∨ ∃ b, o = some b ∧ zz = (b : Int)) ∧ k = .int .i64 ((i + 1 + d : Nat) : Int) ∧ i + 1 + d ≤ n ∧ Hid (bestB p i d = o) ∧ Hid (Mod [] w wr)) (fun _ k _ => (n : Int).toNat - (intOf k).toNat)
          case atStart => exact ⟨none, 0, _, rfl, .inl ⟨rfl, rfl⟩, by first | rfl | (simp; try omega), by omega, rfl, HMo⟩
          case round =>
            obtain ⟨o, d, zz, rfl, hz, rfl, hd, HO, HM⟩ := hrel
            have HZ := Lib.hid hz
            clear hz
            by_cases hde : i + 1 + d = n
            · have hki : (i : Int) + 1 + d = n := by omega
              have hkn : d = n - (i + 1) := by omega
              obtain ⟨b', hb'⟩ := BB.out
              have hob := HO.out
              rw [hkn, hb'] at hob
              subst hob
              rcases HZ.out with ⟨h, -⟩ | ⟨b2, h, rfl⟩
              · simp at h
              simp at h
              subst h
              have hbn := bestB_lt p i _ _ hb'
              have Q : Hid (nextP p = some (dis (p.take i ++ [p.getD b' 0]) (List.range n))) := by
                show _ = _
                rw [PN.out, HD2.out]
                show (match bestB p i (n - (i + 1)) with | some b => _ | none => _) = _
                rw [hb']
              have hbn : b' < n := by omega
              obtain ⟨_, _, e', d0⟩ := CELL.out wr [] HM.out (by simp) b' hbn
              simp at e'
              obtain ⟨rfl, rfl⟩ := e'
              obtain ⟨xb, hxb⟩ : ∃ xb, p.getD b' 0 = xb := ⟨_, rfl⟩
              rw [hxb] at d0 Q
              have hbni : (b' : Int) < n := by omega
              have hb0 : (0 : Int) ≤ b' := by omega
              have hin3 : i ≤ n := by omega
              have hilt : (i : Int) ≤ n := by omega
              have hicap : (i : Int) ≤ cap := by omega
              have HT : Hid (Rv w (.slice (some ⟨b, off, none⟩) i cap) ((p.take i).map ei) F) := by
                have := H.out.take i hin3
                rw [← List.map_take] at this
                exact this
              have HTL : Hid (((p.take i).map ei).length = i) := by show _ = _; simp [HN.out]; omega
              have ONE : Hid (∀ q : List Nat, ∀ u ∈ q.map ei, u.oneCell' = true) := ei_one
              have hi100 : i < 100 := by omega
              clear hde hkn BB HO HB PN HD2 HXI hm hxb hbn hd hi1 hb' hin hm0
              have HW := Lib.hid (rfl : wr.heap.size = wr.heap.size)
              have hbw : b < wr.heap.size := World.block_lt_of_cell? wr _ d0
              have hbw2 : ¬ b = wr.heap.size := by omega
              have hbw3 : ¬ wr.heap.size = b := by omega
              rcases Nat.eq_zero_or_pos i with hi00 | hi00
              · subst hi00
                have hki0 : (1 : Int) + d = n := by omega
                clear hki
                have SO : Hid (Sl (wr.alloc (.cells #[] 3)) 3 1 (.slice (some ⟨wr.heap.size, 0, none⟩) 0 0) 0 ((p.take 0).map ei) [wr.heap.size]) := Sl.lit wr 3 1 0 #[] (by unfold maxLen; omega) rfl
                have MO : Hid (Mod [] w (wr.alloc (.cells #[] 3))) := HM.out.alloc _
                have FO : Hid (∀ k ∈ [wr.heap.size], w.heap.size ≤ k) := fun k hk => by simp at hk; subst hk; exact HM.out.size
                obtain ⟨F1, hF1⟩ : ∃ F1, F1 = [wr.heap.size] := ⟨_, rfl⟩
                rw [← hF1] at SO FO
                clear HT hF1
                go_wp2_with (at_builtin; (refine wpList_append_sl _ rfl _ _ 26 rfl 3 i0 (.int .i64 0) 1 8 Tryz.underlying26 hi hz0 hz1 hz2 rfl (by decide) _ 0 ((p.take 0).map ei) F1 rfl (SO.out.mod (S := []) ((Mod.refl _ _).alloc _) (by simp)) ⟨_, 0, none⟩ 1 1 [ei xb] (by decide) rfl rfl (by intro j u hu; exact list_new_at _ _ _ _ (by simp) j u hu) (by intro u hu; simp at hu; subst hu; rfl) (by unfold maxLen; omega) (by omega) ?_; intro v5 w5 F5 hs5 hm5 hf5; have n5 := NewV.app (l := (p.take 0).map ei) (l2 := [ei xb]) MO.out FO.out HTL.out rfl ((Mod.refl _ _).alloc _) hs5 hm5 hf5; obtain ⟨a5, cap5, rfl, _⟩ := hs5.shape; clear hs5 hm5 hf5))
                clear d0 hbni hb0
                go_loopw [7, 8] (fun v x wr => ∃ (k : Nat) (out : List Nat), x = .int .i64 (k : Int) ∧ k ≤ n ∧ Hid (nextP p = some (dis out ((List.range n).drop k))) ∧ Hid (NewV 3 w (out.map ei) wr v) ∧ out.length ≤ 0 + 1 + k) (fun _ k _ => (n : Int).toNat - (intOf k).toNat)
                case atStart =>
                  refine ⟨0, p.take 0 ++ [xb], rfl, Nat.zero_le _, Q, ?_, ?_⟩
                  · show NewV _ _ _ _ _
                    rw [List.map_append]; exact n5
                  · have := HTL.out; rw [List.length_map] at this; rw [List.length_append, this]; simp
                case round =>
                  obtain ⟨k, out, rfl, hk, HD, HV, hol⟩ := hrel
                  clear n5 Q CELL
                  obtain ⟨A3, c3, hv⟩ := HV.out.shape
                  subst hv
                  obtain ⟨m, hm⟩ : ∃ m, (out.map ei).length = m := ⟨_, rfl⟩
                  rw [hm] at HV ⊢
                  have hm2 : out.length = m := by rw [← hm, List.length_map]
                  rw [hm2] at hol
                  have HML := Lib.hid hm
                  clear hm hm2
                  by_cases hkn : k = n
                  · subst hkn
                    go_wp2_with fail
                    go_ret2
                    refine .inr ⟨_, out, ?_, rfl, HV.out⟩
                    rw [HD.out, List.drop_eq_nil_of_le (by simp)]; rfl
                  · have hkn2 : (k : Int) < n := by omega
                    have hk0 : (0 : Int) ≤ k := by omega
                    have HD2 : Hid (nextP p = some (dis (if k ∈ out then out else out ++ [k]) ((List.range n).drop (k + 1)))) := by
                      show _ = _
                      rw [HD.out, List.drop_eq_getElem_cons (by simp; omega)]
                      simp [dis]
                    obtain ⟨F7, rv7, f7⟩ := HV.out.rv
                    have AT := Lib.hid (at02_c rv7 (by have := HML.out; simp at this; omega) k)
                    clear rv7 f7
                    by_cases hmem : k ∈ out
                    · have hat : atI out k = (out.idxOf k : Nat) := by unfold atI; rw [if_pos hmem]
                      rw [hat] at AT
                      obtain ⟨z, hz⟩ : ∃ z, out.idxOf k = z := ⟨_, rfl⟩
                      rw [hz] at AT
                      rw [if_pos hmem] at HD2
                      have hz0 : ¬ (z : Int) < 0 := by omega
                      clear hmem hat hz HD
                      go_wp2_with fail
                      refine AT.out.mono ?_
                      rintro e w7 ⟨rfl, rfl⟩
                      go_wp2_with fail
                      go_roundw
                      case rel => exact ⟨k + 1, out, by first | rfl | (simp; try omega), by omega, HD2, HV, by have := HML.out; simp at this; omega⟩
                      case measure => simp [intOf]; omega
                    · have hat : atI out k = -1 := by unfold atI; rw [if_neg hmem]
                      rw [hat] at AT
                      rw [if_neg hmem] at HD2
                      clear hmem hat HD
                      obtain ⟨F7, s7, m7, f7⟩ := HV.out
                      rw [HML.out] at s7
                      have S7 := Lib.hid s7
                      have M7 := Lib.hid m7
                      have G7 := Lib.hid f7
                      clear s7 m7 f7
                      go_wp2_with fail
                      refine AT.out.mono ?_
                      rintro e w7 ⟨rfl, rfl⟩
                      go_wp2_with (at_builtin; refine wpList_append_sl _ rfl _ _ 26 rfl 3 i0 (.int .i64 0) 1 8 Tryz.underlying26 hi hz0 hz1 hz2 rfl (by decide) _ m (out.map ei) F7 rfl (S7.out.mod (S := []) ((Mod.refl _ _).alloc _) (by simp)) ⟨_, 0, none⟩ 1 1 [ei k] (by decide) rfl rfl (by intro j u hu; exact list_new_at _ _ _ _ (by simp) j u hu) (by intro u hu; simp at hu; subst hu; rfl) (by unfold maxLen; omega) (by omega) ?_; intro v8 w8 F8 hs8 hm8 hf8; have N8 := Lib.hid (NewV.app (l := out.map ei) (l2 := [ei k]) M7.out G7.out HML.out rfl ((Mod.refl _ _).alloc _) hs8 hm8 hf8); clear hs8 hm8 hf8)
                      go_roundw
                      case rel =>
                        refine ⟨k + 1, out ++ [k], by first | rfl | (simp; try omega), by omega, HD2, ?_, ?_⟩
                        · show NewV _ _ _ _ _
                          rw [List.map_append]; exact N8.out
                        · have := HML.out; simp at this; simp; omega
                      case measure => simp [intOf]; omega
              · have hip : ¬ i = 0 := by omega
                go_wp2_with (at_builtin; first | (refine wpList_append_slz _ rfl _ _ 26 rfl 3 i0 (.int .i64 0) 1 8 Tryz.underlying26 hi hz0 hz1 hz2 rfl (by decide) _ 0 [] [wr.heap.size] rfl (Sl.lit wr 3 1 0 #[] (by unfold maxLen; omega) rfl) (some ⟨b, off, none⟩) i cap ((p.take i).map ei) rfl (by rw [HTL.out]; omega) (HT.out.mod (S := []) (HM.out.alloc _) (by simp)).src (ONE.out _) (by unfold maxLen; omega) (by omega) ?_; intro v1 w1 F0 hs1 hm1 hf1; obtain ⟨F1, s1, m1, f1⟩ := NewV.of_empty hs1 HTL.out hm1 hf1; rw [HTL.out] at s1; obtain ⟨a1, c1, rfl, _⟩ := s1.shape; have SO := Lib.hid s1; have MO := Lib.hid (HM.out.trans m1 (by simp)); have FO : Hid (∀ k ∈ F1, w.heap.size ≤ k) := fun k hk => Nat.le_trans HM.out.size (f1 k hk); have d1 : w1.cell? ⟨b, off + b', none⟩ = some (.int .i64 (xb : Nat)) := (m1.cell (a := ⟨b, off + b', none⟩) hbw (by simp)).trans d0; clear hs1 hm1 hf1 s1 m1 f1) | (refine wpList_append_sl _ rfl _ _ 26 rfl 3 i0 (.int .i64 0) 1 8 Tryz.underlying26 hi hz0 hz1 hz2 rfl (by decide) _ i ((p.take i).map ei) F1 rfl (SO.out.mod (S := []) ((Mod.refl _ _).alloc _) (by simp)) ⟨_, 0, none⟩ 1 1 [ei xb] (by decide) rfl rfl (by intro j u hu; exact list_new_at _ _ _ _ (by simp) j u hu) (by intro u hu; simp at hu; subst hu; rfl) (by unfold maxLen; omega) (by omega) ?_; intro v5 w5 F5 hs5 hm5 hf5; have n5 := NewV.app (l := (p.take i).map ei) (l2 := [ei xb]) MO.out FO.out HTL.out rfl ((Mod.refl _ _).alloc _) hs5 hm5 hf5; obtain ⟨a5, cap5, rfl, _⟩ := hs5.shape; clear hs5 hm5 hf5))
                clear d0 hbni hb0
                go_loopw [7, 8] (fun v x wr => ∃ (k : Nat) (out : List Nat), x = .int .i64 (k : Int) ∧ k ≤ n ∧ Hid (nextP p = some (dis out ((List.range n).drop k))) ∧ Hid (NewV 3 w (out.map ei) wr v) ∧ out.length ≤ i + 1 + k) (fun _ k _ => (n : Int).toNat - (intOf k).toNat)
                case atStart =>
                  refine ⟨0, p.take i ++ [xb], rfl, Nat.zero_le _, Q, ?_, ?_⟩
                  · show NewV _ _ _ _ _
                    rw [List.map_append]; exact n5
                  · have := HTL.out; rw [List.length_map] at this; rw [List.length_append, this]; simp
                case round =>
                  obtain ⟨k, out, rfl, hk, HD, HV, hol⟩ := hrel
                  clear n5 Q CELL
                  obtain ⟨A3, c3, hv⟩ := HV.out.shape
                  subst hv
                  obtain ⟨m, hm⟩ : ∃ m, (out.map ei).length = m := ⟨_, rfl⟩
                  rw [hm] at HV ⊢
                  have hm2 : out.length = m := by rw [← hm, List.length_map]
                  rw [hm2] at hol
                  have HML := Lib.hid hm
                  clear hm hm2
                  by_cases hkn : k = n
                  · subst hkn
                    go_wp2_with fail
                    go_ret2
                    refine .inr ⟨_, out, ?_, rfl, HV.out⟩
                    rw [HD.out, List.drop_eq_nil_of_le (by simp)]; rfl
                  · have hkn2 : (k : Int) < n := by omega
                    have hk0 : (0 : Int) ≤ k := by omega
                    have HD2 : Hid (nextP p = some (dis (if k ∈ out then out else out ++ [k]) ((List.range n).drop (k + 1)))) := by
                      show _ = _
                      rw [HD.out, List.drop_eq_getElem_cons (by simp; omega)]
                      simp [dis]
                    obtain ⟨F7, rv7, f7⟩ := HV.out.rv
                    have AT := Lib.hid (at02_c rv7 (by have := HML.out; simp at this; omega) k)
                    clear rv7 f7
                    by_cases hmem : k ∈ out
                    · have hat : atI out k = (out.idxOf k : Nat) := by unfold atI; rw [if_pos hmem]
                      rw [hat] at AT
                      obtain ⟨z, hz⟩ : ∃ z, out.idxOf k = z := ⟨_, rfl⟩
                      rw [hz] at AT
                      rw [if_pos hmem] at HD2
                      have hz0 : ¬ (z : Int) < 0 := by omega
                      clear hmem hat hz HD
                      go_wp2_with fail
                      refine AT.out.mono ?_
                      rintro e w7 ⟨rfl, rfl⟩
                      go_wp2_with fail
                      go_roundw
                      case rel => exact ⟨k + 1, out, by first | rfl | (simp; try omega), by omega, HD2, HV, by have := HML.out; simp at this; omega⟩
                      case measure => simp [intOf]; omega
                    · have hat : atI out k = -1 := by unfold atI; rw [if_neg hmem]
                      rw [hat] at AT
                      rw [if_neg hmem] at HD2
                      clear hmem hat HD
                      obtain ⟨F7, s7, m7, f7⟩ := HV.out
                      rw [HML.out] at s7
                      have S7 := Lib.hid s7
                      have M7 := Lib.hid m7
                      have G7 := Lib.hid f7
                      clear s7 m7 f7
                      go_wp2_with fail
                      refine AT.out.mono ?_
                      rintro e w7 ⟨rfl, rfl⟩
                      go_wp2_with (at_builtin; refine wpList_append_sl _ rfl _ _ 26 rfl 3 i0 (.int .i64 0) 1 8 Tryz.underlying26 hi hz0 hz1 hz2 rfl (by decide) _ m (out.map ei) F7 rfl (S7.out.mod (S := []) ((Mod.refl _ _).alloc _) (by simp)) ⟨_, 0, none⟩ 1 1 [ei k] (by decide) rfl rfl (by intro j u hu; exact list_new_at _ _ _ _ (by simp) j u hu) (by intro u hu; simp at hu; subst hu; rfl) (by unfold maxLen; omega) (by omega) ?_; intro v8 w8 F8 hs8 hm8 hf8; have N8 := Lib.hid (NewV.app (l := out.map ei) (l2 := [ei k]) M7.out G7.out HML.out rfl ((Mod.refl _ _).alloc _) hs8 hm8 hf8); clear hs8 hm8 hf8)
                      go_roundw
                      case rel =>
                        refine ⟨k + 1, out ++ [k], by first | rfl | (simp; try omega), by omega, HD2, ?_, ?_⟩
                        · show NewV _ _ _ _ _
                          rw [List.map_append]; exact N8.out
                        · have := HML.out; simp at this; simp; omega
                      case measure => simp [intOf]; omega
            · have hkn : (i : Int) + 1 + d < n := by omega
              have hkn2 : ((i + 1 + d : Nat) : Int) < n := by omega
              have hin2 : (i : Int) < n := by omega
              have hk0 : (0 : Int) ≤ ((i + 1 + d : Nat) : Int) := by omega
              have hob : Hid (∀ b', o = some b' → b' < i + 1 + d) := fun b' h => bestB_lt p i d b' (HO.out.trans h)
              obtain ⟨_, _, e', d0⟩ := CELL.out wr [] HM.out (by simp) i (by omega)
              simp at e'
              obtain ⟨rfl, rfl⟩ := e'
              obtain ⟨_, _, e', d1⟩ := CELL.out wr [] HM.out (by simp) (i + 1 + d) (by omega)
              simp at e'
              obtain ⟨rfl, rfl⟩ := e'
              obtain ⟨k, hk⟩ : ∃ k, i + 1 + d = k := ⟨_, rfl⟩
              have HK := Lib.hid hk
              obtain ⟨xk, hxk⟩ : ∃ xk, p.getD k 0 = xk := ⟨_, rfl⟩
              rw [HXI.out] at d0
              rw [hk, hxk] at d1
              rw [hk] at hkn2 hk0 hob ⊢
              have HS := Lib.hid (show bestB p i (d + 1) = stepB p i o k by rw [bestB, HO.out, hk])
              have HXK := Lib.hid hxk
              clear hxk hkn
              by_cases hgt : xi < xk
              · have hdd : decide (xi < xk) = true := by simpa using hgt
                rcases HZ.out with ⟨rfl, rfl⟩ | ⟨b', rfl, rfl⟩
                · clear HZ
                  have HS2 : Hid (bestB p i (d + 1) = some k) := by
                    show _ = _
                    rw [HS.out, stepB, HXI.out, HXK.out, if_pos hgt]
                  go_wp2_with fail
                  go_quiet (fail)
                  go_wp2_with fail
                  go_roundw
                  case rel => exact ⟨some k, d + 1, _, rfl, .inr ⟨k, rfl, rfl⟩, by first | rfl | (have := HK.out; simp; omega), by omega, HS2, HM.out.drewN _⟩
                  case measure => have := HK.out; simp [intOf]; omega
                · clear HZ
                  obtain ⟨_, _, e', d2⟩ := CELL.out wr [] HM.out (by simp) b' (by have := hob.out b' rfl; omega)
                  simp at e'
                  obtain ⟨rfl, rfl⟩ := e'
                  have hbn : (b' : Int) < n := by have := hob.out b' rfl; omega
                  have hb0 : (0 : Int) ≤ b' := by omega
                  have hbz : decide ((b' : Int) < 0) = false := decide_eq_false (by omega)
                  obtain ⟨xb, hxb⟩ : ∃ xb, p.getD b' 0 = xb := ⟨_, rfl⟩
                  rw [hxb] at d2
                  have HXB := Lib.hid hxb
                  clear hxb
                  by_cases hlt : xk < xb
                  · have hdl : decide (xk < xb) = true := by simpa using hlt
                    have HS2 : Hid (bestB p i (d + 1) = some k) := by
                      show _ = _
                      rw [HS.out, stepB, HXI.out, HXK.out, if_pos hgt]
                      simp only [HXB.out, if_pos hlt]
                    go_wp2_with fail
                    go_quiet (fail)
                    go_wp2_with fail
                    clear hdl hlt hdd hgt d0 d1 d2 hk hbn hb0
                    go_roundw
                    case rel => exact ⟨some k, d + 1, _, rfl, .inr ⟨k, rfl, rfl⟩, by first | rfl | (have := HK.out; simp; omega), by omega, HS2, HM.out.drewN _⟩
                    case measure => have := HK.out; simp [intOf]; omega
                  · have hdl : decide (xk < xb) = false := by simpa using hlt
                    have HS2 : Hid (bestB p i (d + 1) = some b') := by
                      show _ = _
                      rw [HS.out, stepB, HXI.out, HXK.out, if_pos hgt]
                      simp only [HXB.out, if_neg hlt]
                    go_wp2_with fail
                    go_quiet (fail)
                    go_wp2_with fail
                    clear hdl hlt hdd hgt d0 d1 d2 hk hbn hb0
                    go_roundw
                    case rel => exact ⟨some b', d + 1, _, rfl, .inr ⟨b', rfl, rfl⟩, by first | rfl | (have := HK.out; simp; omega), by omega, HS2, HM.out.drewN _⟩
                    case measure => have := HK.out; simp [intOf]; omega
              · have hdd : decide (xi < xk) = false := by simpa using hgt
                have HS2 : Hid (bestB p i (d + 1) = o) := by
                  show _ = _
                  rw [HS.out]
                  unfold stepB
                  rw [HXI.out, HXK.out, if_neg hgt]
                go_wp2_with fail
                go_quiet (fail)
                go_wp2_with fail
                go_roundw
                case rel => exact ⟨o, d + 1, zz, rfl, HZ.out, by first | rfl | (have := HK.out; simp; omega), by omega, HS2, HM.out.drewN _⟩
                case measure => have := HK.out; simp [intOf]; omega
end Go.Proofs.YtcoljkigphnjfaaGreatDoor

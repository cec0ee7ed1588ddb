/- The law ArenaPlays: the walk. -/
import Derived.Test.YtlkakkgmjihlaaaRF
set_option linter.unusedVariables false
set_option linter.unusedSimpArgs false
namespace Go.Proofs.Ytlkakkgmjihlaaa
open Go.RowKit

theorem IsRef.start (w : World) (r : Nat) : IsRef (w.alloc (.cells #[.slice none 0 0, .slice none 0 0, .int .u32 0, .int .i64 r] 50)) w.heap.size ⟨[], [], 0, r⟩ [w.heap.size] :=
  ⟨.slice none 0 0, .slice none 0 0, [], [], Blk.new _ _ _, Sl.nil _ _ _, Sl.nil _ _ _, by simp, by simp, by simp, by simp⟩

theorem PP.start {w0 w : World} {b r : Nat} (hr : r ≤ 1048576) (o : I.Own [] w0 w b ⟨[], [], 0, r⟩) :
    PP 0 w0 (w.alloc (.cells #[.slice none 0 0, .slice none 0 0, .int .u32 0, .int .i64 r] 50)) b w.heap.size ⟨[], [], 0, r⟩ ⟨[], [], 0, r⟩ := by
  refine ⟨Rel.start r hr, [w.heap.size], IsRef.start w r, ?_, o.other ((Mod.refl [] w).alloc _) (by simp) ?_⟩
  · intro k hk
    simp at hk; subst hk
    exact o.mod.size
  · intro k hk
    simp at hk; subst hk
    exact ⟨.inr (Nat.le_refl _), by simp⟩

set_option maxRecDepth 100000 in
set_option maxHeartbeats 4000000 in
theorem arenaPlays_main (w : World) (r : Nat) (hr : r ≤ 1048576) (a0 : Option Addr) (len cap : Nat) (z : Nat → Nat → Int) (hl : Recs w a0 len cap [.u8, .u32, .i64] z) (h100 : len ≤ 100) :
    Calls Try.prog 5 #[.int .i64 r, .slice a0 len cap] w fun e w' => e = .returned (.bool true) ∧ Mod [] w w' := by
  have HL := Lib.hid hl
  have hlc := hl.1
  have hgt : ¬ ((100 : Int) < len) := by omega
  clear hl
  go_enter Try.func5, Try.ntmps5
  go_wp2_with fail
  refine (alive_c w).mono ?_
  rintro e w1 ⟨rfl, m1⟩
  have M1 := Lib.hid m1
  clear m1
  go_wp2_with fail
  refine (I.own_new [] r hr w w1 M1.out (by simp)).mono ?_
  rintro e w2 ⟨rfl, o2, -⟩
  have P2 := Lib.hid (PP.start hr o2)
  clear o2
  generalize w1.heap.size = b at *
  go_wp2_with fail
  generalize w2.heap.size = br at *
  generalize w2.alloc (.cells #[.slice none 0 0, .slice none 0 0, .int .u32 0, .int .i64 (r : Int)] 50) = w3 at *
  go_loopw [8] (fun i wr => ∃ k : Nat, i = .int .i64 k ∧ k ≤ len ∧ ∃ A m, Hid (PP k w wr b br A m)) (fun i _ => len - (intOf i).toNat)
  case atStart => exact ⟨0, rfl, Nat.zero_le _, _, _, P2.out⟩
  case round =>
    obtain ⟨k, rfl, hk, A, m, P⟩ := hrel
    by_cases hlt : k < len
    · obtain ⟨b1, o1, rfl, hb1, ⟨c0, c1, c2⟩, f0, f1, f2⟩ := HL.out.at3 k hlt
      have hm := P.out.mod
      have d0 := (hm.cell (a := ⟨b1, o1 + k * 3, none⟩) hb1 (by simp)).trans c0
      have d1 := (hm.cell (a := ⟨b1, o1 + k * 3 + 1, none⟩) hb1 (by simp)).trans c1
      have d2 := (hm.cell (a := ⟨b1, o1 + k * 3 + 2, none⟩) hb1 (by simp)).trans c2
      obtain ⟨g0, g1⟩ := bounds_u8 f0
      obtain ⟨e0, e1⟩ := bounds_u32 f1
      clear c0 c1 c2 f0 f1 f2 hm
      generalize z k 0 = kd at *
      generalize z k 1 = id at *
      generalize z k 2 = x at *
      obtain ⟨kd, rfl⟩ := Int.eq_ofNat_of_zero_le g0
      obtain ⟨id, rfl⟩ := Int.eq_ofNat_of_zero_le e0
      have PC := Lib.hid (play_c (by omega) P.out kd (by omega) id (by omega) x)
      clear g0 g1 e0 e1
      go_wp2_with fail
      refine PC.out.mono ?_
      rintro e w4 ⟨rfl, A', m', p4⟩
      have P4 := Lib.hid p4
      clear p4
      go_wp2
      go_roundw
      case rel => exact ⟨k + 1, by go_num, hlt, A', m', P4.out⟩
      case measure => simp [intOf]; omega
    · obtain rfl : k = len := by omega
      go_wp2_with fail
      refine (same21_c h100 P.out).mono ?_
      rintro e w5 ⟨rfl, m5⟩
      have M5 := Lib.hid (P.out.mod.trans m5 (by simp))
      clear m5
      go_wp2
      go_ret
      exact ⟨rfl, M5.out⟩

set_option maxRecDepth 100000 in
set_option maxHeartbeats 4000000 in
theorem arenaPlays_walk (w : World) (r : Int) (wr : (Lit.int .i64 r).wf = true) (a0 : Option Addr) (len cap : Nat) (z : Nat → Nat → Int) (hl : Recs w a0 len cap [.u8, .u32, .i64] z) :
    Calls Try.prog 5 #[.int .i64 r, .slice a0 len cap] w fun e w' => e = .returned (.bool true) ∧ Mod [] w w' := by
  clear wr
  by_cases h : len ≤ 100
  · by_cases hr : 0 ≤ r ∧ r ≤ 1048576
    · obtain ⟨r, rfl⟩ := Int.eq_ofNat_of_zero_le hr.1
      exact arenaPlays_main w r (by omega) a0 len cap z hl h
    · have hgt : ¬ ((100 : Int) < len) := by omega
      have hbad : r < 0 ∨ 1048576 < r := by omega
      have HB := Lib.hid hbad
      clear hl hr
      rcases hbad with hr | hr
      · go_enter Try.func5, Try.ntmps5
        go_wp2_with fail
        refine (alive_c w).mono ?_
        rintro e w1 ⟨rfl, m1⟩
        have M1 := Lib.hid m1
        clear m1
        go_wp2_with fail
        refine (I.new_bad r HB.out w1).mono ?_
        rintro e w2 ⟨rfl, rfl⟩
        go_wp2
        go_ret
        exact ⟨rfl, M1.out⟩
      · have hr0 : ¬ r < 0 := by omega
        go_enter Try.func5, Try.ntmps5
        go_wp2_with fail
        refine (alive_c w).mono ?_
        rintro e w1 ⟨rfl, m1⟩
        have M1 := Lib.hid m1
        clear m1
        go_wp2_with fail
        refine (I.new_bad r HB.out w1).mono ?_
        rintro e w2 ⟨rfl, rfl⟩
        go_wp2
        go_ret
        exact ⟨rfl, M1.out⟩
  · have hgt : (100 : Int) < len := by omega
    clear hl
    go_enter Try.func5, Try.ntmps5
    go_wp2_with fail
    refine (alive_c w).mono ?_
    rintro e w1 ⟨rfl, m1⟩
    have M1 := Lib.hid m1
    clear m1
    go_wp2
    go_ret
    exact ⟨rfl, M1.out⟩
end Go.Proofs.Ytlkakkgmjihlaaa

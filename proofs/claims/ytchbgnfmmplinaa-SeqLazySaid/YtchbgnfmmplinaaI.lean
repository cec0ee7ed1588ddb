/- The law SeqRanges: the walk. -/
import Derived.Test.YtchbgnfmmplinaaH
set_option linter.unusedVariables false
set_option linter.unusedSimpArgs false
namespace Go.Proofs.Ytchbgnfmmplinaa
open Go.RowKit

theorem same_yes {w : World} {v1 v2 : Value} {l : List Int} {F1 F2 : List Nat} (h1 : Rv w v1 (l.map ei) F1) (h2 : Rv w v2 (l.map ei) F2) (hl : l.length ≤ 100000) :
    Calls Try.prog 12 #[v1, v2] w fun e w' => e = .returned (.bool true) ∧ Mod [] w w' := by
  refine (same_c h1 h2 hl hl).mono ?_
  rintro e w' ⟨h, m⟩
  exact ⟨by rw [h, decide_eq_true (rfl : l = l)], m⟩

set_option maxRecDepth 100000 in
set_option maxHeartbeats 4000000 in
theorem seqRanges_walk (w : World) (a : Int) (wa : (Lit.int .i64 a).wf = true) (b : Int) (wb : (Lit.int .i64 b).wf = true) (c : Int) (wc : (Lit.int .i64 c).wf = true) (m : Int) (wm : (Lit.int .u8 m).wf = true) :
    Calls Try.prog 3 #[.int .i64 a, .int .i64 b, .int .i64 c, .int .u8 m] w fun e w' => e = .returned (.bool true) ∧ Mod [] w w' := by
  have HA : Hid (I64 a) := bounds_i64 wa
  have HB : Hid (I64 b) := bounds_i64 wb
  have HC : Hid (I64 c) := bounds_i64 wc
  obtain ⟨hm0, hm1⟩ := bounds_u8 wm
  clear wa wb wc wm
  obtain ⟨k, rfl⟩ : ∃ k : Nat, m = k := ⟨m.toNat, by omega⟩
  have hk : k ≤ 255 := by omega
  clear hm0 hm1
  have hn : Hid (k % 60 ≤ 1000 ∧ k % 60 < 60) := ⟨by omega, by omega⟩
  have hnn : Hid (tk (rngL a b c) ((k : Int) % 60) = (rngL a b c).take (k % 60)) := by
    show _ = _
    unfold tk
    congr 1
  have hlen : Hid (((rngL a b c).take (k % 60)).length ≤ 100) := by
    show _ ≤ _
    rw [List.length_take]; omega
  go_enter Try.func3, Try.ntmps3
  go_wp2_with fail
  refine (alive_c w).mono ?_
  rintro e w1 ⟨rfl, m1⟩
  have M1 := Lib.hid m1
  clear m1
  go_wp2_with fail
  refine (refRange_c HA.out HB.out HC.out (k % 60) hn.out.1 w1).mono ?_
  rintro e w2 ⟨v2, rfl, r2⟩
  unfold RNew at r2
  have hl2 : Hid ((((rngL a b c).take (k % 60)).map ei).length = ((rngL a b c).take (k % 60)).length) := List.length_map _
  obtain ⟨A2, c2, rfl⟩ := r2.shape
  rw [hl2.out] at r2 ⊢
  have R2 := Lib.hid r2
  have M2 : Hid (Mod [] w w2) := M1.out.trans r2.mod (by simp)
  clear r2
  have HK : Hid ((k : Int) % 60 ≤ 9223372036854775807) := by show _ ≤ _; omega
  generalize hgL : (rngL a b c).take (k % 60) = L at *
  have HL := Lib.hid hgL
  clear hgL
  generalize hgn : L.length = nl at *
  have HN := Lib.hid hgn
  clear hgn
  have hlm : Hid ((L.map ei).length = nl) := (List.length_map _).trans HN.out
  have HLE : Hid (L.length ≤ 100000) := by show _ ≤ _; rw [HN.out]; exact Nat.le_trans hlen.out (by omega)
  go_wp2_with fail
  refine (range_c HA.out HB.out HC.out w2).mono ?_
  rintro e w3 ⟨lb3, rfl, ⟨R3, s3, f3⟩, m3⟩
  have S3 := Lib.hid s3
  have F3 := Lib.hid f3
  have M3 : Hid (Mod [] w w3) := M2.out.trans m3 (by simp)
  have R3' := Lib.hid (R2.out.later m3)
  clear s3 m3 f3
  go_wp2_with fail
  refine (collect_c S3.out _ HK.out (by rw [hnn.out]; exact HLE.out)).mono ?_
  rintro e w4 ⟨v4, rfl, n4⟩
  rw [hnn.out] at n4
  obtain ⟨A4, c4, rfl⟩ := n4.shape
  rw [hlm.out] at n4 ⊢
  have N4 := Lib.hid n4
  have M4 : Hid (Mod [] w w4) := M3.out.trans n4.mod (by simp)
  have S4 := Lib.hid (S3.out.mod n4.mod (by simp))
  have R4 := Lib.hid (R3'.out.later n4.mod)
  clear n4
  go_wp2_with fail
  refine (same_yes N4.out.rv.choose_spec.1 R4.out.rv.choose_spec.1 HLE.out).mono ?_
  rintro e w5 ⟨rfl, m5⟩
  have M5 : Hid (Mod [] w w5) := M4.out.trans m5 (by simp)
  have S5 := Lib.hid (S4.out.mod m5 (by simp))
  have R5 := Lib.hid (R4.out.later m5)
  clear m5
  go_wp2_with fail
  refine (len_c S5.out _ HK.out (by rw [hnn.out]; exact HLE.out)).mono ?_
  rintro e w6 ⟨rfl, m6⟩
  rw [hnn.out, HN.out]
  have M6 : Hid (Mod [] w w6) := M5.out.trans m6 (by simp)
  have S6 := Lib.hid (S5.out.mod m6 (by simp))
  have R6 := Lib.hid (R5.out.later m6)
  clear m6
  have hbe : ((nl : Int) == (nl : Int)) = true := by simp
  go_wp2_with fail
  refine (collect_c S6.out _ HK.out (by rw [hnn.out]; exact HLE.out)).mono ?_
  rintro e w7 ⟨v7, rfl, n7⟩
  rw [hnn.out] at n7
  obtain ⟨A7, c7, rfl⟩ := n7.shape
  rw [hlm.out] at n7 ⊢
  have N7 := Lib.hid n7
  have M7 : Hid (Mod [] w w7) := M6.out.trans n7.mod (by simp)
  have R7 := Lib.hid (R6.out.later n7.mod)
  clear n7
  go_wp2_with fail
  refine (same_yes N7.out.rv.choose_spec.1 R7.out.rv.choose_spec.1 HLE.out).mono ?_
  rintro e w8 ⟨rfl, m8⟩
  have M8 : Hid (Mod [] w w8) := M7.out.trans m8 (by simp)
  clear m8
  go_wp2
  go_ret
  exact ⟨rfl, M8.out⟩
end Go.Proofs.Ytchbgnfmmplinaa

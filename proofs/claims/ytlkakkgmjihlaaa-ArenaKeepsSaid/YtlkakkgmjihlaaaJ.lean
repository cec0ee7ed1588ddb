/- The law ArenaKeeps: its walk. -/
import Derived.Test.YtlkakkgmjihlaaaF
import Derived.Test.YtlkakkgmjihlaaaG
import Derived.Test.YtlkakkgmjihlaaaH
set_option linter.unusedVariables false
set_option linter.unusedSimpArgs false
namespace Go.Proofs.Ytlkakkgmjihlaaa
open Go.RowKit

structure StK (w wr : World) (b gi gg len k : Nat) (A : AR Int) (z : Nat → Int) (ids : Nat → Nat) (gone : Nat → Bool) : Prop where
  own : I.Own [gi, gg] w wr b A
  rids : Row wr gi 27 len (fun j => .int .u32 (ids j))
  rgone : Row wr gg 4 len (fun j => .bool (gone j))
  inv : KInv A z ids gone k
  fresh : ∀ j, k ≤ j → gone j = false
  ne : gi ≠ gg
  f1 : w.heap.size ≤ gi
  f2 : w.heap.size ≤ gg

theorem StK.lt {w wr : World} {b gi gg len k : Nat} {A : AR Int} {z : Nat → Int} {ids : Nat → Nat} {gone : Nat → Bool} (h : StK w wr b gi gg len k A z ids gone) : gi < wr.heap.size ∧ gg < wr.heap.size := by
  obtain ⟨F, _, _, _, _, hX⟩ := h.own
  exact ⟨hX gi (by simp), hX gg (by simp)⟩

/-- A new id is noted. -/
theorem StK.note {w w3 : World} {b gi gg len k i : Nat} {A : AR Int} {z : Nat → Int} {ids : Nat → Nat} {gone : Nat → Bool}
    (own : I.Own [gi, gg] w w3 b A) (rids : Row w3 gi 27 len (fun j => .int .u32 (ids j))) (rgone : Row w3 gg 4 len (fun j => .bool (gone j))) (ne : gi ≠ gg) (f1 : w.heap.size ≤ gi) (f2 : w.heap.size ≤ gg) (p : Nat)
    (inv : KInv A z (set1 ids i p) gone k) (fresh : ∀ j, k ≤ j → gone j = false) : StK w (w3.setCell ⟨gi, i, none⟩ (.int .u32 p)) b gi gg len k A z (set1 ids i p) gone := by
  have hX := own.choose_spec.2.2.2.2
  have M : Mod [gi] w3 (w3.setCell ⟨gi, i, none⟩ (.int .u32 p)) := (Mod.refl _ _).setCell _ _ (by simp)
  refine ⟨own.other M (by simp; omega) (by simp; exact ⟨hX gi (by simp), hX gg (by simp)⟩), (rids.set i _).congr (fun j _ => ?_), rgone.mod M (by simp; omega), inv, fresh, ne, f1, f2⟩
  unfold set1; split <;> rfl

/-- One is gone. -/
theorem StK.gone1 {w w3 : World} {b gi gg len k i : Nat} {A : AR Int} {z : Nat → Int} {ids : Nat → Nat} {gone : Nat → Bool}
    (own : I.Own [gi, gg] w w3 b A) (rids : Row w3 gi 27 len (fun j => .int .u32 (ids j))) (rgone : Row w3 gg 4 len (fun j => .bool (gone j))) (ne : gi ≠ gg) (f1 : w.heap.size ≤ gi) (f2 : w.heap.size ≤ gg) (hik : i < k)
    (inv : KInv A z ids (set1 gone i true) k) (fresh : ∀ j, k ≤ j → gone j = false) : StK w (w3.setCell ⟨gg, i, none⟩ (.bool true)) b gi gg len k A z ids (set1 gone i true) := by
  have hX := own.choose_spec.2.2.2.2
  have M : Mod [gg] w3 (w3.setCell ⟨gg, i, none⟩ (.bool true)) := (Mod.refl _ _).setCell _ _ (by simp)
  refine ⟨own.other M (by simp; omega) (by simp; exact ⟨hX gi (by simp), hX gg (by simp)⟩), rids.mod M (by simp; omega), (rgone.set i _).congr (fun j _ => ?_), inv, fun j hj => ?_, ne, f1, f2⟩
  · unfold set1; split <;> rfl
  · unfold set1; rw [if_neg (by omega)]; exact fresh j hj

theorem Try.info4 : (Try.prog.info? 4).map (fun i => (i.zero, i.size, i.bytes)) = some (some (.bool false), 1, 1) := by kernel_rfl
theorem made40 (w : World) (n : Nat) (hn : n ≤ 60) : (Instr.makeSlice 40 (.int .i64 n) (.int .i64 n)).run Try.prog w = .ok (.slice (some ⟨w.heap.size, 0, none⟩) n n) (w.alloc (.cells (madeCells #[.int .u32 0] n) 27)) := by
  obtain ⟨i0, hi, hz0, hz1, hz2⟩ := info_parts I.Try.info27'
  have := run_make (P := Try.prog) w 40 27 i0 _ Try.underlying40 hi hz0 .i64 .i64 n n (by omega) (by omega) (by rw [hz2]; omega) (by omega)
  simpa [hz1, Value.cells] using this
theorem made41 (w : World) (n : Nat) (hn : n ≤ 60) : (Instr.makeSlice 41 (.int .i64 n) (.int .i64 n)).run Try.prog w = .ok (.slice (some ⟨w.heap.size, 0, none⟩) n n) (w.alloc (.cells (madeCells #[.bool false] n) 4)) := by
  obtain ⟨i0, hi, hz0, hz1, hz2⟩ := info_parts Try.info4
  have := run_make (P := Try.prog) w 41 4 i0 _ Try.underlying41 hi hz0 .i64 .i64 n n (by omega) (by omega) (by rw [hz2]; omega) (by omega)
  simpa [hz1, Value.cells] using this

set_option maxRecDepth 100000 in
set_option maxHeartbeats 4000000 in
theorem arenaKeeps_main (w : World) (a0 : Option Addr) (len cap : Nat) (z : Nat → Int) (hl : IntRow .i64 w a0 len cap z) (a1 : Option Addr) (len1 cap1 : Nat) (z1 : Nat → Int) (hd : IntRow .u8 w a1 len1 cap1 z1) (h0 : len ≤ 60) (h1 : len1 ≤ 60) :
    Calls Try.prog 4 #[.slice a0 len cap, .slice a1 len1 cap1] w fun e w' => e = .returned (.bool true) ∧ Mod [] w w' := by
  have HL := Lib.hid hl.2
  have HD := Lib.hid hd.2
  clear hl hd
  have hmk0 := fun w => made40 w len h0
  have hmk1 := fun w => made41 w len h0
  go_enter Try.func4, Try.ntmps4
  go_wp2_with fail
  refine (alive_c w).mono ?_
  rintro e w1 ⟨rfl, M1⟩
  have Z1 := Lib.hid M1
  clear M1
  go_wp2_with fail
  refine (I.own_new [] 60 (by omega) w w1 Z1.out (by simp)).mono ?_
  rintro e w2 ⟨rfl, H2, -⟩
  have X2 := Lib.hid H2
  have hs12 : w1.heap.size < w2.heap.size := by obtain ⟨F, ha, _⟩ := H2; exact ha.lt _ (by obtain ⟨vc, vf, Fc, Ff, _, _, _, rfl, _⟩ := ha; simp)
  have hs02 : w.heap.size ≤ w2.heap.size := H2.mod.size
  clear H2
  generalize w1.heap.size = b at *
  go_wp2_with fail
  go_loopw [9] (fun i wr => ∃ (k : Nat) (A : AR Int) (ids : Nat → Nat) (gone : Nat → Bool), i = .int .i64 k ∧ k ≤ len ∧ StK w wr b w2.heap.size (w2.heap.size + 1) len k A z ids gone) (fun i _ => len - (intOf i).toNat)
  case atStart =>
    refine ⟨0, ⟨[], [], 0, 60⟩, fun _ => 0, fun _ => false, rfl, Nat.zero_le _, ?_⟩
    have M : Mod [] w2 ((w2.alloc (.cells (madeCells #[.int .u32 0] len) 27)).alloc (.cells (madeCells #[.bool false] len) 4)) := ((Mod.refl _ _).alloc _).alloc _
    exact ⟨X2.out.other M (by simp) (by simp; omega), (Row.made w2 len _ 27 _ rfl).mod ((Mod.refl [] _).alloc _) (by simp), Row.made _ len _ 4 _ (by simp),
      ⟨X2.out.wf, rfl, rfl, fun j hj => by omega, fun j hj => by omega, fun j k hj => by omega⟩, fun _ _ => rfl, by omega, by omega, by omega⟩
  case round =>
    obtain ⟨k, A, ids, gone, rfl, hk, st⟩ := hrel
    have ST := Lib.hid st
    clear st
    by_cases hlt : k < len
    · obtain ⟨b0, off, rfl, hb0, c0, f0⟩ := HL.out k hlt
      have C0 := Lib.hid c0
      rw [← ST.out.own.mod.cell (a := ⟨b0, _, none⟩) hb0 (by simp)] at c0
      obtain ⟨q1, q2, q3⟩ := ST.out.inv.put (by omega) (ST.out.fresh k (by omega))
      have Q1 := Lib.hid q1
      have Q2 := Lib.hid q2
      have Q3 := Lib.hid q3
      clear q1 q2 q3 f0
      generalize hv : z k = v at *
      have HV := Lib.hid hv
      clear hv
      go_wp2_with fail
      refine (I.own_put ST.out.own Q1.out v).mono ?_
      rintro e w3 ⟨rfl, H3, K3⟩
      have X3 := Lib.hid H3
      have R1 := Lib.hid (ST.out.rids.keep K3 (by simp))
      have R2 := Lib.hid (ST.out.rgone.keep K3 (by simp))
      clear H3 K3 c0
      obtain ⟨p, hp⟩ : ∃ p, p = A.putId := ⟨_, rfl⟩
      have HP := Lib.hid hp
      rw [← hp]
      clear hp
      go_wp2_with fail
      go_loop [12] (fun i => ∃ m : Nat, i = .int .i64 m ∧ m ≤ k) (fun i => k - (intOf i).toNat)
      case atStart => exact ⟨0, rfl, Nat.zero_le _⟩
      case round =>
        obtain ⟨m, rfl, hm⟩ := hrel
        by_cases hmk : m < k
        · have d0 := R1.out.cell m (by omega)
          have d1 := R2.out.cell m (by omega)
          by_cases he : ids m = p
          · have hg : gone m = true := by
              cases hg : gone m with
              | true => rfl
              | false => exact (Q2.out m hmk hg (by rw [he, HP.out])).elim
            rw [hg] at d1
            have hb : ((ids m : Int) == (p : Int)) = true := by rw [beq_iff_eq]; omega
            clear he hg
            go_wp2
            go_round
            case rel => exact ⟨m + 1, by go_num, by omega⟩
            case measure => simp [intOf]; omega
          · have hb : ((ids m : Int) == (p : Int)) = false := by rw [beq_eq_false_iff_ne]; omega
            clear he
            go_wp2
            go_round
            case rel => exact ⟨m + 1, by go_num, by omega⟩
            case measure => simp [intOf]; omega
        obtain rfl : m = k := by omega
        have d0 := R1.out.cell m (by omega)
        have d1 := R1.out.froz m
        have hgi : w2.heap.size < w3.heap.size := R1.out.lt
        have hgg : w2.heap.size + 1 < w3.heap.size := R2.out.lt
        have S4 := Lib.hid (StK.note X3.out R1.out R2.out ST.out.ne ST.out.f1 ST.out.f2 p (by rw [HP.out]; exact Q3.out) (fun j hj => ST.out.fresh j (by omega)))
        by_cases hm1 : m < len1
        · obtain ⟨b1, off1, rfl, hb1, e0, f0⟩ := HD.out m hm1
          have E0 := Lib.hid e0
          have eX := (X3.out.mod.cell (a := ⟨b1, off1 + m, none⟩) hb1 (by simp)).trans e0
          have hw3 : w.heap.size ≤ w3.heap.size := X3.out.mod.size
          clear e0
          generalize z1 m = dv at *
          obtain ⟨g0, g1⟩ := bounds_u8 f0
          obtain ⟨dv, rfl⟩ := Int.eq_ofNat_of_zero_le g0
          clear f0
          by_cases ht : dv % 3 = 1
          · have hb3 : ((dv : Int) % 3 == 1) = true := by rw [beq_iff_eq]; omega
            have hkq : (dv : Int) % ((m : Int) + 1) = ((dv % (m + 1) : Nat) : Int) := by rw [Int.natCast_emod]; rfl
            have hq : dv % (m + 1) < m + 1 := Nat.mod_lt _ (by omega)
            generalize dv % (m + 1) = q at *
            have hqm : q ≤ m := by omega
            have r2 := R2.out.cell q (by omega)
            have r3 := R2.out.froz q
            cases hg : gone q with
            | true =>
              rw [hg] at r2
              clear hg ht
              go_wp2
              go_roundw
              case rel => exact ⟨m + 1, A.put v, set1 ids m p, gone, by go_num, by omega, S4.out⟩
              case measure => simp [intOf]; omega
            | false =>
              rw [hg] at r2
              obtain ⟨t1, t2⟩ := S4.out.inv.at_ q (by omega) hg
              have T1 := Lib.hid t1
              have T2 := Lib.hid t2
              have HG := Lib.hid hg
              have hgne : ¬ w2.heap.size = w2.heap.size + 1 := by omega
              have r4 := S4.out.rids.cell q (by omega)
              have hidq : set1 ids m p q ≤ 100 := S4.out.inv.low q (by omega)
              clear ht hg t1 t2
              obtain ⟨idq, hidq'⟩ : ∃ x, x = set1 ids m p q := ⟨_, rfl⟩
              rw [← hidq'] at r4 hidq T1 T2
              have HQ := Lib.hid hidq'
              clear hidq'
              go_wp2_with fail
              refine (I.own_hold S4.out.own idq T1.out T2.out (by omega) (by omega)).mono ?_
              rintro e w5 ⟨rfl, H5, K5⟩
              have X5 := Lib.hid H5
              have A5 := Lib.hid (S4.out.rids.keep K5 (by simp))
              have B5 := Lib.hid (S4.out.rgone.keep K5 (by simp))
              have c5 := A5.out.cell q (by omega)
              rw [← HQ.out] at c5
              have hc1 : ((A.put v).modify idq (z q, true, 0 + 1)).cells[idq - 2]? = some (z q, true, 0 + 1) := by
                unfold AR.modify; exact List.getElem?_set_self (List.getElem?_eq_some_iff.1 T2.out).1
              have HC1 := Lib.hid hc1
              clear H5 K5 hc1 d0 d1 r2 r3 r4 eX
              go_wp2_with fail
              refine (I.own_drop_held X5.out idq T1.out HC1.out (by omega)).mono ?_
              rintro e w6 ⟨rfl, rfl⟩
              go_wp2_with fail
              refine (I.own_let X5.out idq T1.out HC1.out (by omega) (by omega)).mono ?_
              rintro e w6 ⟨rfl, H6, K6⟩
              rw [show (0 + 1 - 1 : Int) = 0 from rfl, AR.modify_back _ T2.out] at H6
              have X6 := Lib.hid H6
              have A6 := Lib.hid (A5.out.keep K6 (by simp))
              have B6 := Lib.hid (B5.out.keep K6 (by simp))
              have c6 := A6.out.cell q (by omega)
              rw [← HQ.out] at c6
              clear H6 K6 c5
              go_wp2_with fail
              refine (I.own_drop X6.out idq T1.out T2.out (by omega)).mono ?_
              rintro e w7 ⟨rfl, H7, K7⟩
              have A7 := Lib.hid (A6.out.keep K7 (by simp))
              have B7 := Lib.hid (B6.out.keep K7 (by simp))
              have S7 := Lib.hid (StK.gone1 H7 A7.out B7.out ST.out.ne ST.out.f1 ST.out.f2 (i := q) (k := m + 1) (by omega) (by rw [HQ.out]; exact S4.out.inv.drop (by omega) HG.out) (fun j hj => ST.out.fresh j (by omega)))
              have c7 := B7.out.cell q (by omega)
              have c8 := B7.out.froz q
              clear H7 K7 c6
              go_wp2
              go_roundw
              case rel => exact ⟨m + 1, (A.put v).drop 0 idq, set1 ids m p, set1 gone q true, by go_num, by omega, S7.out⟩
              case measure => simp [intOf]; omega
          · have hb3 : ((dv : Int) % 3 == 1) = false := by rw [beq_eq_false_iff_ne]; omega
            clear ht
            go_wp2
            go_roundw
            case rel => exact ⟨m + 1, A.put v, set1 ids m p, gone, by go_num, by omega, S4.out⟩
            case measure => simp [intOf]; omega
        · go_wp2
          go_roundw
          case rel => exact ⟨m + 1, A.put v, set1 ids m p, gone, by go_num, by omega, S4.out⟩
          case measure => simp [intOf]; omega
    obtain rfl : k = len := by omega
    clear hlt
    go_wp2_with fail
    go_loop [14, 15] (fun n i => ∃ m : Nat, i = .int .i64 m ∧ m ≤ k ∧ n = .int .i64 (cnt gone m)) (fun _ i => k - (intOf i).toNat)
    case atStart => exact ⟨0, rfl, Nat.zero_le _, rfl⟩
    case round =>
      obtain ⟨m, rfl, hm, rfl⟩ := hrel
      have hcl := cnt_le gone m
      by_cases hmk : m < k
      · have d0 := ST.out.rids.cell m (by omega)
        have d1 := ST.out.rgone.cell m (by omega)
        have hcs : Hid (cnt gone (m + 1) = cnt gone m + (if gone m then 0 else 1)) := rfl
        cases hg : gone m with
        | true =>
          rw [hg] at d1 hcs
          clear hg
          go_wp2
          go_round
          case rel => exact ⟨m + 1, by go_num, by omega, by rw [hcs.out]; rfl⟩
          case measure => simp [intOf]; omega
        | false =>
          rw [hg] at d1 hcs
          have ha := ST.out.inv.at_ m hmk hg
          have H1 := Lib.hid ha.1
          have H2 := Lib.hid ha.2
          obtain ⟨b0, off, rfl, hb0, c0, f0⟩ := HL.out m (by omega)
          rw [← ST.out.own.mod.cell (a := ⟨b0, _, none⟩) hb0 (by simp)] at c0
          have hv : (z m != z m) = false := by simp
          clear hg ha f0
          go_wp2_with (go_at_call 18; refine (I.own_get ST.out.own (ids m) H1.out H2.out).mono ?_; rintro e w' ⟨rfl, rfl⟩)
          go_round
          case rel => exact ⟨m + 1, by go_num, by omega, by rw [hcs.out]; go_num⟩
          case measure => simp [intOf]; omega
      obtain rfl : m = k := by omega
      have hn : (A.n : Int) = (cnt gone m : Int) := by rw [ST.out.inv.n]
      go_wp2_with (go_at_call 19; refine (I.own_len ST.out.own).mono ?_; rintro e w' ⟨rfl, rfl⟩)
      go_ret
      exact ⟨rfl, ST.out.own.mod⟩

set_option maxRecDepth 100000 in
set_option maxHeartbeats 1600000 in
theorem arenaKeeps_long (w : World) (a0 : Option Addr) (len cap : Nat) (a1 : Option Addr) (len1 cap1 : Nat) (h : (60 : Int) < len ∨ ((len : Int) ≤ 60 ∧ (60 : Int) < len1)) :
    Calls Try.prog 4 #[.slice a0 len cap, .slice a1 len1 cap1] w fun e w' => e = .returned (.bool true) ∧ Mod [] w w' := by
  rcases h with h | ⟨h, h'⟩
  all_goals
    go_enter Try.func4, Try.ntmps4
    go_wp2_with fail
    refine (alive_c w).mono ?_
    rintro e w1 ⟨rfl, M1⟩
    have Z1 := Lib.hid M1
    clear M1
    go_wp2_with fail
    go_ret
    exact ⟨rfl, Z1.out⟩

theorem arenaKeeps_walk (w : World) (a0 : Option Addr) (len cap : Nat) (z : Nat → Int) (hl : IntRow .i64 w a0 len cap z) (a1 : Option Addr) (len1 cap1 : Nat) (z1 : Nat → Int) (hd : IntRow .u8 w a1 len1 cap1 z1) :
    Calls Try.prog 4 #[.slice a0 len cap, .slice a1 len1 cap1] w fun e w' => e = .returned (.bool true) ∧ Mod [] w w' := by
  by_cases h : len ≤ 60
  · by_cases h1 : len1 ≤ 60
    · exact arenaKeeps_main w a0 len cap z hl a1 len1 cap1 z1 hd h h1
    · exact arenaKeeps_long w a0 len cap a1 len1 cap1 (.inr ⟨by omega, by omega⟩)
  · exact arenaKeeps_long w a0 len cap a1 len1 cap1 (.inl (by omega))
end Go.Proofs.Ytlkakkgmjihlaaa

/- The law CacheTrue: what a cache tells is what was put last. -/
import Derived.Test.YtkbpcilcpaomfaaC
namespace Go.Proofs.Ytkbpcilcpaomfaa
open Go.RowKit

/-- The abstract invariant of CacheTrue's loop: an entry of this epoch is what was put last with its key. -/
def InvT (e : Int) (ent : Nat → Nat × Int × Int) (last : Nat → Int) (inn : Nat → Bool) : Prop :=
  ∀ q, q < 8 → (ent q).2.2 ≤ e ∧ ((ent q).2.2 = e → (ent q).1 % 8 = q ∧ inn (ent q).1 = true ∧ last (ent q).1 = (ent q).2.1)

theorem InvT.put {e : Int} {ent : Nat → Nat × Int × Int} {last : Nat → Int} {inn : Nat → Bool} (h : InvT e ent last inn) (k : Nat) (v : Int) :
    InvT e (upd ent (k % 8) (k, v, e)) (upd last k v) (upd inn k true) := by
  intro q hq
  unfold upd
  by_cases hqk : q = k % 8
  · simp [hqk]
  · rw [if_neg hqk]
    refine ⟨(h q hq).1, fun he => ?_⟩
    obtain ⟨h1, h2, h3⟩ := (h q hq).2 he
    have hkk : ¬ (ent q).1 = k := fun hkk => hqk (by rw [← h1, hkk])
    rw [if_neg hkk, if_neg hkk]
    exact ⟨h1, h2, h3⟩

theorem InvT.flush {e : Int} {ent : Nat → Nat × Int × Int} {last : Nat → Int} {inn : Nat → Bool} (h : InvT e ent last inn) : InvT (e + 1) ent last (fun _ => false) := by
  intro q hq
  have := (h q hq).1
  exact ⟨by omega, fun he => by omega⟩

/-- What lies in memory at the head of a round. -/
structure StT (w0 w : World) (k b g gl gi : Nat) (e hi mi : Int) (ent : Nat → Nat × Int × Int) (last : Nat → Int) (inn : Nat → Bool) : Prop where
  head : Head w b g 8 e hi mi
  tab : Tab w g 8 ent
  hlast : Row w gl 3 50 (fun i => .int .i64 (last i))
  hinn : Row w gi 4 50 (fun i => .bool (inn i))
  mod : Mod [] w0 w
  n1 : b ≠ g
  n2 : b ≠ gl
  n3 : b ≠ gi
  n4 : g ≠ gl
  n5 : g ≠ gi
  n6 : gl ≠ gi
  f1 : w0.heap.size ≤ b
  f2 : w0.heap.size ≤ g
  f3 : w0.heap.size ≤ gl
  f4 : w0.heap.size ≤ gi
  e0 : 0 ≤ e
  e1 : e ≤ k + 1
  h0 : 0 ≤ hi
  h1 : hi ≤ k
  m0 : 0 ≤ mi
  m1 : mi ≤ k
  inv : InvT e ent last inn

theorem putT {w0 wr w3 : World} {k b g gl gi : Nat} {e hi mi : Int} {ent : Nat → Nat × Int × Int} {last : Nat → Int} {inn : Nat → Bool}
    (h : StT w0 wr k b g gl gi e hi mi ent last inn) {q : Nat} {v : Int} (T : Tab w3 g 8 (upd ent (q % 8) (q, v, e))) (M : Mod [g] wr w3) :
    StT w0 ((w3.setCell ⟨gl, q, none⟩ (.int .i64 v)).setCell ⟨gi, q, none⟩ (.bool true)) k b g gl gi e hi mi (upd ent (q % 8) (q, v, e)) (upd last q v) (upd inn q true) := by
  have M2 : Mod [gl, gi] w3 ((w3.setCell ⟨gl, q, none⟩ (.int .i64 v)).setCell ⟨gi, q, none⟩ (.bool true)) := ((Mod.refl _ _).setCell _ _ (by simp)).setCell _ _ (by simp)
  have hn1 := h.n1
  have hn2 := h.n2
  have hn3 := h.n3
  have hn4 := h.n4
  have hn5 := h.n5
  have hn6 := h.n6
  have g1 := h.f1
  have g2 := h.f2
  have g3 := h.f3
  have g4 := h.f4
  have ML : Mod [gi] (w3.setCell ⟨gl, q, none⟩ (.int .i64 v)) ((w3.setCell ⟨gl, q, none⟩ (.int .i64 v)).setCell ⟨gi, q, none⟩ (.bool true)) := (Mod.refl _ _).setCell _ _ (by simp)
  have MI : Mod [gl] w3 (w3.setCell ⟨gl, q, none⟩ (.int .i64 v)) := (Mod.refl _ _).setCell _ _ (by simp)
  have hmod : Mod [g, gl, gi] wr ((w3.setCell ⟨gl, q, none⟩ (.int .i64 v)).setCell ⟨gi, q, none⟩ (.bool true)) :=
    (M.mono (S' := [g, gl, gi]) (fun i _ hi => by simp at hi; simp [hi])).trans (M2.mono (S' := [g, gl, gi]) (fun i _ hi => by simp at hi; rcases hi with hi | hi <;> simp [hi])) (fun _ _ hi => hi)
  refine ⟨(h.head.mod M (by simpa using hn1)).mod M2 (by simp; omega), T.mod M2 (by simp; omega), ?_, ?_, h.mod.trans hmod (by simp; omega),
    h.n1, h.n2, h.n3, h.n4, h.n5, h.n6, h.f1, h.f2, h.f3, h.f4, h.e0, h.e1, h.h0, h.h1, h.m0, h.m1, h.inv.put q v⟩
  · refine (((h.hlast.mod M (by simp; omega)).set q (.int .i64 v)).mod ML (by simp; omega)).congr (fun i _ => ?_)
    unfold upd; split <;> rfl
  · refine (((h.hinn.mod M (by simp; omega)).mod MI (by simp; omega)).set q (.bool true)).congr (fun i _ => ?_)
    unfold upd; split <;> rfl

theorem hitT {w0 wr w3 : World} {k b g gl gi : Nat} {e hi mi hi' mi' : Int} {ent : Nat → Nat × Int × Int} {last : Nat → Int} {inn : Nat → Bool}
    (h : StT w0 wr k b g gl gi e hi mi ent last inn) (H : Head w3 b g 8 e hi' mi') (M : Mod [b] wr w3) (a1 : 0 ≤ hi') (a2 : hi' ≤ k + 1) (a3 : 0 ≤ mi') (a4 : mi' ≤ k + 1) :
    StT w0 w3 (k + 1) b g gl gi e hi' mi' ent last inn := by
  have hn1 := h.n1
  have hn2 := h.n2
  have hn3 := h.n3
  have g1 := h.f1
  have he1 := h.e1
  exact ⟨H, h.tab.mod M (by simp; omega), h.hlast.mod M (by simp; omega), h.hinn.mod M (by simp; omega), h.mod.trans M (by simp; omega),
    h.n1, h.n2, h.n3, h.n4, h.n5, h.n6, h.f1, h.f2, h.f3, h.f4, h.e0, by omega, a1, by omega, a3, by omega, h.inv⟩

theorem flushT {w0 wr w3 : World} {k b g gl gi : Nat} {e hi mi : Int} {ent : Nat → Nat × Int × Int} {last : Nat → Int} {inn : Nat → Bool}
    (h : StT w0 wr k b g gl gi e hi mi ent last inn) (H : Head w3 b g 8 (e + 1) hi mi) (M : Mod [b] wr w3) :
    StT w0 (w3.alloc (.cells (madeCells #[.bool false] 50) 4)) (k + 1) b g gl w3.heap.size (e + 1) hi mi ent last (fun _ => false) := by
  have hn1 := h.n1
  have hn2 := h.n2
  have hn3 := h.n3
  have g1 := h.f1
  have g2 := h.f2
  have he1 := h.e1
  have he0 := h.e0
  have hh1 := h.h1
  have hm1 := h.m1
  have s1 := H.lt
  have s2 := (h.tab.mod M (by simp; omega)).choose_spec.1.lt
  have s3 := (h.hlast.mod M (by simp; omega)).lt
  have hsz := M.size
  have hsz2 := h.mod.size
  have A : Mod [] w3 (w3.alloc (.cells (madeCells #[.bool false] 50) 4)) := (Mod.refl _ _).alloc _
  exact ⟨H.mod A (by simp), (h.tab.mod M (by simp; omega)).mod A (by simp), (h.hlast.mod M (by simp; omega)).mod A (by simp), Row.made _ _ _ _ _ rfl, (h.mod.trans M (by simp; omega)).trans' A,
    h.n1, h.n2, by omega, h.n4, by omega, by omega, h.f1, h.f2, h.f3, by omega, by omega, by omega, h.h0, by omega, h.m0, by omega, h.inv.flush⟩

theorem Try.info3 : (Try.prog.info? 3).map (fun i => (i.zero, i.size, i.bytes)) = some (some (.int .i64 0), 1, 8) := by kernel_rfl
theorem Try.info4 : (Try.prog.info? 4).map (fun i => (i.zero, i.size, i.bytes)) = some (some (.bool false), 1, 1) := by kernel_rfl
theorem made30 (w : World) : (Instr.makeSlice 30 (.int .i64 50) (.int .i64 50)).run Try.prog w = .ok (.slice (some ⟨w.heap.size, 0, none⟩) 50 50) (w.alloc (.cells (madeCells #[.int .i64 0] 50) 3)) := by
  obtain ⟨i0, hi, hz0, hz1, hz2⟩ := info_parts Try.info3
  have := run_make (P := Try.prog) w 30 3 i0 _ Try.underlying30 hi hz0 .i64 .i64 50 50 (by omega) (by omega) (by rw [hz2]; omega) (by omega)
  simpa [hz1, Value.cells] using this
theorem made31 (w : World) : (Instr.makeSlice 31 (.int .i64 50) (.int .i64 50)).run Try.prog w = .ok (.slice (some ⟨w.heap.size, 0, none⟩) 50 50) (w.alloc (.cells (madeCells #[.bool false] 50) 4)) := by
  obtain ⟨i0, hi, hz0, hz1, hz2⟩ := info_parts Try.info4
  have := run_make (P := Try.prog) w 31 4 i0 _ Try.underlying31 hi hz0 .i64 .i64 50 50 (by omega) (by omega) (by rw [hz2]; omega) (by omega)
  simpa [hz1, Value.cells] using this

set_option maxRecDepth 100000 in
set_option maxHeartbeats 4000000 in
theorem cacheTrue_walk (w : World) (a0 : Option Addr) (len cap : Nat) (z : Nat → Nat → Int) (hw : Recs w a0 len cap [.u8, .u32, .i64] z) :
    Calls Try.prog 3 #[.slice a0 len cap] w fun e w' => e = .returned (.bool true) ∧ Mod [] w w' := by
  obtain ⟨hlc, hrec⟩ := hw
  by_cases hlen : (200 : Int) < len
  · go_enter Try.func3, Try.ntmps3
    go_wp2_with fail
    refine (alive_c w).mono ?_
    rintro e w1 ⟨rfl, M1⟩
    have Z1 := Lib.hid M1
    clear M1
    go_wp2_with fail
    go_ret
    exact ⟨rfl, Z1.out⟩
  have HR := Lib.hid hrec
  clear hrec
  go_enter Try.func3, Try.ntmps3
  go_wp2_with fail
  refine (alive_c w).mono ?_
  rintro e w1 ⟨rfl, M1⟩
  have Z1 := Lib.hid M1
  have hs1 : w.heap.size ≤ w1.heap.size := M1.size
  clear M1
  go_wp2_with fail
  refine (new_c 3 (by omega) w1).mono ?_
  rintro e w2 ⟨rfl, H2, T2, M2⟩
  have X2 := Lib.hid H2
  have Y2 := Lib.hid T2
  have Z2 := Lib.hid (Z1.out.trans' M2)
  have hs2 : w1.heap.size + 1 < w2.heap.size := H2.lt
  clear H2 T2 M2
  have hmk0 := made30
  have hmk1 := made31
  go_wp2_with fail
  go_loopw [6, 7] (fun vi i wr => ∃ (k gi : Nat) (e hi mi : Int) (ent : Nat → Nat × Int × Int) (last : Nat → Int) (inn : Nat → Bool), i = .int .i64 k ∧ k ≤ len ∧ vi = .slice (some ⟨gi, 0, none⟩) 50 50 ∧
      StT w wr k (w1.heap.size + 1) w1.heap.size w2.heap.size gi e hi mi ent last inn) (fun _ i _ => len - (intOf i).toNat)
  case atStart =>
    refine ⟨0, w2.heap.size + 1, 1, 0, 0, fun _ => (0, 0, 0), fun _ => 0, fun _ => false, rfl, Nat.zero_le _, rfl, ?_⟩
    have M : Mod [] w2 ((w2.alloc (.cells (madeCells #[.int .i64 0] 50) 3)).alloc (.cells (madeCells #[.bool false] 50) 4)) := ((Mod.refl _ _).alloc _).alloc _
    exact ⟨X2.out.mod M (by simp), Y2.out.mod M (by simp), (Row.made w2 50 _ 3 _ rfl).mod ((Mod.refl [] _).alloc _) (by simp), Row.made _ 50 _ 4 _ (by simp), Z2.out.trans' M,
      by omega, by omega, by omega, by omega, by omega, by omega, by omega, by omega, by omega, by omega, by omega, by omega, by omega, by omega, by omega, by omega, fun q hq => ⟨by simp, fun h => by simp at h⟩⟩
  case round =>
    obtain ⟨k, gi, e, hi, mi, ent, last, inn, rfl, hk, rfl, st⟩ := hrel
    have ST := Lib.hid st
    clear st
    by_cases hlt : k < len
    · obtain ⟨b0, off, rfl, hb0, ⟨c0, c1, c2⟩, f0, f1, f2⟩ := Recs.at3 ⟨hlc, HR.out⟩ k hlt
      have hM := ST.out.mod
      have C2 := Lib.hid c2
      rw [← hM.cell (a := ⟨b0, _, none⟩) hb0 (by simp)] at c0 c1 c2
      have hsw : w.heap.size ≤ wr.heap.size := hM.size
      clear hM
      generalize z k 0 = x at *
      generalize z k 1 = y at *
      generalize z k 2 = v at *
      have bx := bounds_u8 f0
      have byy := bounds_u32 f1
      obtain ⟨x0, x1⟩ := bx
      obtain ⟨y0, y1⟩ := byy
      obtain ⟨y, rfl⟩ := Int.eq_ofNat_of_zero_le y0
      have hy : (y : Int) % 50 = ((y % 50 : Nat) : Int) := by omega
      have hq : y % 50 < 50 := by omega
      generalize y % 50 = q at *
      have l1 := ST.out.hlast.cell q hq
      have l2 := ST.out.hlast.froz q
      have i1 := ST.out.hinn.cell q hq
      have i2 := ST.out.hinn.froz q
      have hcases : (x % 8 = 0 ∨ x % 8 = 1 ∨ x % 8 = 2) ∨ x % 8 = 7 ∨ (3 ≤ x % 8 ∧ x % 8 ≤ 6) := by omega
      clear f0 f1 f2
      have hbl : w.heap.size ≤ w1.heap.size := hs1
      rcases hcases with hx | hx | ⟨hx1, hx2⟩
      · rcases hx with hx | hx | hx
        all_goals
          go_wp2_with fail
          refine (put_c q (by omega) v _ _ 3 8 (by omega) rfl _ _ _ _ wr ST.out.head ST.out.tab).mono ?_
          rintro e' w3 ⟨rfl, T3, M3⟩
          have l3 := (M3.cell (a := ⟨w2.heap.size, q, none⟩) ST.out.hlast.lt (by simp; omega)).trans l1
          have l4 := (M3.froz (a := ⟨w2.heap.size, q, none⟩) ST.out.hlast.lt (by simp; omega)).trans l2
          have i3 := (M3.cell (a := ⟨gi, q, none⟩) ST.out.hinn.lt (by simp; exact ST.out.n5.symm)).trans i1
          have i4 := (M3.froz (a := ⟨gi, q, none⟩) ST.out.hinn.lt (by simp; exact ST.out.n5.symm)).trans i2
          have d2 := ((ST.out.mod.trans M3 (by simp; omega)).cell (a := ⟨b0, off + k * 3 + 2, none⟩) hb0 (by simp)).trans C2.out
          have P3 := Lib.hid (putT ST.out T3 M3)
          have hn6 := ST.out.n6
          clear M3 T3 l1 l2 i1 i2 c0 c1 c2
          go_wp2_with fail
          refine (get_hit q (by omega) _ _ 3 8 (by omega) rfl _ _ _ P3.out.h0 (by have := P3.out.h1; omega) _ _ (by exact P3.out.head) (by exact P3.out.tab) (by omega) (by simp [upd]) (by simp [upd])).mono ?_
          rintro e' w4 ⟨rfl, H4, M4⟩
          have P4 := Lib.hid (hitT P3.out H4 M4 (by have := P3.out.h0; omega) (by have := P3.out.h1; omega) P3.out.m0 (by have := P3.out.m1; omega))
          have d3 := (P4.out.mod.cell (a := ⟨b0, off + k * 3 + 2, none⟩) hb0 (by simp)).trans C2.out
          clear M4 H4
          have hv : ((upd ent (q % 8) (q, v, e) (q % 8)).2.1 != v) = false := by simp [upd]
          go_wp2
          go_roundw
          case rel => exact ⟨k + 1, gi, e, hi + 1, mi, _, _, _, by go_num, by omega, rfl, P4.out⟩
          case measure => simp [intOf]; omega
      · go_wp2_with fail
        refine (flush_c _ _ _ _ _ _ ST.out.e0 (by have := ST.out.e1; omega) wr ST.out.head).mono ?_
        rintro e' w3 ⟨rfl, H3, M3⟩
        have P3 := Lib.hid (flushT ST.out H3 M3)
        clear M3 H3 l1 l2 i1 i2 c0 c1 c2
        go_wp2
        go_roundw
        case rel => exact ⟨k + 1, w3.heap.size, e + 1, hi, mi, _, _, _, by go_num, by omega, rfl, P3.out⟩
        case measure => simp [intOf]; omega
      · have hq8 : q % 8 < 8 := by omega
        by_cases he : (ent (q % 8)).2.2 = e
        · by_cases hk' : (ent (q % 8)).1 = q
          · obtain ⟨_, hi1, hi2⟩ := (ST.out.inv (q % 8) hq8).2 he
            rw [hk'] at hi1 hi2
            go_wp2_with fail
            refine (get_hit q (by omega) _ _ 3 8 (by omega) rfl _ _ _ ST.out.h0 (by have := ST.out.h1; omega) _ wr ST.out.head ST.out.tab ST.out.n1 he hk').mono ?_
            rintro e' w3 ⟨rfl, H3, M3⟩
            have l3 := (M3.cell (a := ⟨w2.heap.size, q, none⟩) ST.out.hlast.lt (by simp; omega)).trans l1
            have i3 := (M3.cell (a := ⟨gi, q, none⟩) ST.out.hinn.lt (by simp; exact ST.out.n3.symm)).trans i1
            have P3 := Lib.hid (hitT ST.out H3 M3 (by have := ST.out.h0; omega) (by have := ST.out.h1; omega) ST.out.m0 (by have := ST.out.m1; omega))
            rw [hi1] at i3
            rw [hi2] at l3
            have hv : ((ent (q % 8)).2.1 != (ent (q % 8)).2.1) = false := by simp
            clear M3 H3 l1 l2 i1 i2 c0 c1 c2 hi1 hi2 hk' he
            go_wp2
            go_roundw
            case rel => exact ⟨k + 1, gi, e, hi + 1, mi, _, _, _, by go_num, by omega, rfl, P3.out⟩
            case measure => simp [intOf]; omega
          · go_wp2_with fail
            refine (get_miss2 q (by omega) _ _ 3 8 (by omega) rfl _ _ _ ST.out.m0 (by have := ST.out.m1; omega) _ wr ST.out.head ST.out.tab ST.out.n1 he hk').mono ?_
            rintro e' w3 ⟨rfl, H3, M3⟩
            have P3 := Lib.hid (hitT ST.out H3 M3 ST.out.h0 (by have := ST.out.h1; omega) (by have := ST.out.m0; omega) (by have := ST.out.m1; omega))
            clear M3 H3 l1 l2 i1 i2 c0 c1 c2 he hk'
            go_wp2
            go_roundw
            case rel => exact ⟨k + 1, gi, e, hi, mi + 1, _, _, _, by go_num, by omega, rfl, P3.out⟩
            case measure => simp [intOf]; omega
        · go_wp2_with fail
          refine (get_miss1 q (by omega) _ _ 3 8 (by omega) rfl _ _ _ ST.out.m0 (by have := ST.out.m1; omega) _ wr ST.out.head ST.out.tab ST.out.n1 he).mono ?_
          rintro e' w3 ⟨rfl, H3, M3⟩
          have P3 := Lib.hid (hitT ST.out H3 M3 ST.out.h0 (by have := ST.out.h1; omega) (by have := ST.out.m0; omega) (by have := ST.out.m1; omega))
          clear M3 H3 l1 l2 i1 i2 c0 c1 c2 he
          go_wp2
          go_roundw
          case rel => exact ⟨k + 1, gi, e, hi, mi + 1, _, _, _, by go_num, by omega, rfl, P3.out⟩
          case measure => simp [intOf]; omega
    · go_wp2
      go_ret
      exact ⟨rfl, ST.out.mod⟩
end Go.Proofs.Ytkbpcilcpaomfaa

/- Both hold the same; the law ArenaPlays: the walk. -/
import Derived.Test.YtlkakkgmjihlaaaRE
import Derived.Test.YtlkakkgmjihlaaaF
import Derived.Deep.QuietTactic
import Derived.BigQuiet
set_option linter.unusedVariables false
set_option linter.unusedSimpArgs false
namespace Go.Proofs.Ytlkakkgmjihlaaa
open Go.RowKit

theorem PP.same {K : Nat} {w0 w w' : World} {b br : Nat} {A : AR Int} {m : RM} (h : PP K w0 w b br A m) (M : Mod [] w w') : PP K w0 w' b br A m := by
  obtain ⟨r, Fr, h1, h2, h3⟩ := h
  exact ⟨r, Fr, h1.mod M (by simp), h2, h3.same M⟩
theorem PP.mod {K : Nat} {w0 w : World} {b br : Nat} {A : AR Int} {m : RM} (h : PP K w0 w b br A m) : Mod [] w0 w := by
  obtain ⟨r, Fr, h1, h2, h3⟩ := h; exact h3.mod

theorem idsL_eq (A : AR Int) : idsL A = idsP (isIn A) A.cells.length := rfl
theorem tk_ge {L : List Int} {n : Int} (h : (L.length : Int) ≤ n) : tk L n = L := by
  unfold tk; rw [List.take_of_length_le (by omega)]

theorem same_yes {w : World} {v1 v2 : Value} {l : List Int} {F1 F2 : List Nat} (h1 : Rv w v1 (l.map ei) F1) (h2 : Rv w v2 (l.map ei) F2) (hl : l.length ≤ 100000) :
    Calls Try.prog 32 #[v1, v2] w fun e w' => e = .returned (.bool true) ∧ Mod [] w w' := by
  refine (same_c h1 h2 hl hl).mono ?_
  rintro e w' ⟨h, m⟩
  exact ⟨by rw [h, decide_eq_true (rfl : l = l)], m⟩

set_option maxRecDepth 100000 in
set_option maxHeartbeats 8000000 in
theorem same21_c {K : Nat} {w0 w : World} {b br : Nat} {A : AR Int} {m : RM} (hK : K ≤ 100) (h : PP K w0 w b br A m) :
    Calls Try.prog 21 #[.pointer (some ⟨b, 0, none⟩), .pointer (some ⟨br, 0, none⟩)] w fun e w' => e = .returned (.bool true) ∧ Mod [] w w' := by
  have rel := h.1
  have HP := Lib.hid h
  have REL := Lib.hid rel
  have hll : m.L.length ≤ 100 := by have h1 := rel.len; have h2 := rel.wf.sum; have h3 := rel.small; omega
  obtain ⟨n, hn⟩ : ∃ n, m.L.length = n := ⟨_, rfl⟩
  obtain ⟨rm, hrm⟩ : ∃ r, m.room = r := ⟨_, rfl⟩
  have D19 : Hid (∀ W, Mod [] w W → Calls Try.prog 19 #[.pointer (some ⟨b, 0, none⟩)] W fun e w' => e = .returned (.int .i64 n) ∧ W = w') := fun W M => by
    obtain ⟨r, Fr, h1, h2, h3⟩ := HP.out.same M
    have := I.own_len h3
    rwa [← r.len, hn] at this
  have D24 : Hid (∀ W, Mod [] w W → Calls Try.prog 24 #[.pointer (some ⟨b, 0, none⟩)] W fun e w' => e = .returned (.int .i64 rm) ∧ W = w') := fun W M => by
    obtain ⟨r, Fr, h1, h2, h3⟩ := HP.out.same M
    have := I.own_room h3
    rwa [r.room, hrm] at this
  have D26 : Hid (∀ W, Mod [] w W → Calls Try.prog 26 #[.pointer (some ⟨b, 0, none⟩)] W fun e w' => ∃ lb', e = .returned (.func (.func 35) #[] lb') ∧ (∃ R', Seq Try.prog 35 lb' ei R' (idsL A) w') ∧ Mod [] W w') := fun W M => by
    obtain ⟨r, Fr, h1, h2, F, h3, h4, _⟩ := HP.out.same M
    exact ids_c h3 h4
  have D33 : Hid (∀ W, Mod [] w W → Calls Try.prog 33 #[.pointer (some ⟨br, 0, none⟩)] W fun e w' => ∃ v', e = .returned v' ∧ NewV 27 W ((idsL A).map ei) w' v') := fun W M => by
    obtain ⟨r, Fr, h1, h2, h3⟩ := HP.out.same M
    have h4 := refIds_c h1 (by omega) (by have := r.new; have := r.small; omega) (isIn A) (fun j hj => by
      constructor
      · intro hi
        unfold isIn at hi
        split at hi
        · next x l q e =>
          subst hi
          exact ⟨(j + 2, x, q), (r.mem _ _ _).2 ⟨by omega, by simpa using e⟩, rfl⟩
        · cases hi
      · rintro ⟨t, ht, e⟩
        have := ((r.mem t.1 t.2.1 t.2.2).1 ht).2
        rw [e] at this
        unfold isIn
        rw [show j + 2 - 2 = j from rfl] at this
        rw [this])
    rw [r.new] at h4
    exact h4
  have E500 : Hid (tk (idsL A) 500 = idsL A) := tk_ge (by have := idsTo_len A A.cells.length; have := rel.small; unfold idsL; omega)
  have L5 : Hid ((idsL A).length ≤ 100000) := by show _ ≤ _; have := idsTo_len A A.cells.length; have := rel.small; unfold idsL; omega
  have H5 : Hid ((500 : Int) ≤ 9223372036854775807) := by show _ ≤ _; omega
  obtain ⟨ni, hni⟩ : ∃ q, ((idsL A).map ei).length = q := ⟨_, rfl⟩
  have NI := Lib.hid hni
  obtain ⟨_, Fr, href, _, _⟩ := h
  obtain ⟨ra, rcap, hrc, c0, -, c3, -, hcell⟩ := href.own
  have hb0 : ((n : Int) != (n : Int)) = false := by simp
  have hb1 : ((rm : Int) != (rm : Int)) = false := by simp
  have HC := Lib.hid hcell
  have hrb : br < w.heap.size := World.block_lt_of_cell? w _ c0
  rw [hn] at c0 hll hrc
  rw [hrm] at c3
  have HN := Lib.hid hn
  clear rel hn hrm hni href hcell
  go_enter Try.func21, Try.ntmps21
  go_wp2
  go_region_with (first | (go_at_call 19; refine (D19.out _ (by (repeat (first | exact Mod.refl _ _ | apply Mod.drew | apply Mod.drewN | apply Mod.alloc | refine Mod.setCell ?_ _ _ (by first | simp | (simp; omega)))))).mono ?_; rintro e w1 ⟨rfl, rfl⟩) | (go_at_call 24; refine (D24.out _ (by (repeat (first | exact Mod.refl _ _ | apply Mod.drew | apply Mod.drewN | apply Mod.alloc | refine Mod.setCell ?_ _ _ (by first | simp | (simp; omega)))))).mono ?_; rintro e w1 ⟨rfl, rfl⟩) | (go_at_call 26; refine (D26.out _ (by (repeat (first | exact Mod.refl _ _ | apply Mod.drew | apply Mod.drewN | apply Mod.alloc | refine Mod.setCell ?_ _ _ (by first | simp | (simp; omega)))))).mono ?_; rintro e w2 ⟨lb2, rfl, ⟨R2, s2⟩, m2⟩; have S2 := Lib.hid s2; have M2 : Hid (Mod [] w w2) := Mod.trans (S' := []) (by (repeat (first | exact Mod.refl _ _ | apply Mod.drew | apply Mod.drewN | apply Mod.alloc | refine Mod.setCell ?_ _ _ (by first | simp | (simp; omega))))) m2 (by simp); clear s2 m2) | (go_at_call 25; refine (collect_c S2.out _ H5.out (by rw [E500.out]; exact L5.out)).mono ?_; rintro e w3 ⟨v3, rfl, n3⟩; rw [E500.out] at n3; obtain ⟨A3, c3', rfl⟩ := n3.shape; obtain ⟨F3, r3, _⟩ := n3.rv; have M3 := Lib.hid (M2.out.trans n3.mod (by simp)); clear n3; rw [NI.out] at r3 ⊢; have R3 := Lib.hid r3; clear r3) | (go_at_call 33; refine (D33.out _ M3.out).mono ?_; rintro e w4 ⟨v4, rfl, n4⟩; obtain ⟨A4, c4, rfl⟩ := n4.shape; obtain ⟨F4, r4, _⟩ := n4.rv; have M4 := Lib.hid (M3.out.trans n4.mod (by simp)); have R3' := Lib.hid (R3.out.mod n4.mod (by simp)); clear n4; rw [NI.out] at r4 ⊢; have R4 := Lib.hid r4; clear r4) | (go_at_call 32; refine (same_yes R3'.out R4.out L5.out).mono ?_; rintro e w5 ⟨rfl, m5⟩; have M5 := Lib.hid (M4.out.trans m5 (by simp)); clear m5))
  all_goals
    have c0' := (M5.out.cell (a := ⟨br, 0, none⟩) hrb (by simp)).trans c0
    go_wp2
    go_loopw [5] (fun i wr => ∃ k : Nat, i = .int .i64 k ∧ k ≤ n ∧ Hid (Mod [] w wr)) (fun i _ => n - (intOf i).toNat)
    case atStart => exact ⟨0, rfl, Nat.zero_le _, M5.out⟩
    case round =>
      obtain ⟨k, rfl, hk, MR⟩ := hrel
      have c0r := (MR.out.cell (a := ⟨br, 0, none⟩) hrb (by simp)).trans c0
      by_cases hlt : k < n
      · have hlt' : k < m.L.length := by rw [HN.out]; exact hlt
        obtain ⟨g, e, hgF, _, ⟨d0, d1, d2⟩, _⟩ := HC.out k _ (List.getElem?_eq_getElem hlt')
        subst e
        obtain ⟨h2, hx⟩ := REL.out.at_pos hlt' rfl
        have hlow := (REL.out.mem m.L[k].1 m.L[k].2.1 m.L[k].2.2).1 (List.getElem_mem hlt')
        have hgl : g < w.heap.size := World.block_lt_of_cell? w _ d2
        have y0 := (MR.out.cell (a := ⟨g, k * 3, none⟩) hgl (by simp)).trans d0
        have y1 := (MR.out.cell (a := ⟨g, k * 3 + 1, none⟩) hgl (by simp)).trans d1
        have y2 := (MR.out.cell (a := ⟨g, k * 3 + 2, none⟩) hgl (by simp)).trans d2
        generalize m.L[k] = t at *
        obtain ⟨t0, tx, th⟩ := t
        simp only at y0 y1 y2 hx h2
        unfold eu at y0
        have G18 : Hid (Calls Try.prog 18 #[.pointer (some ⟨b, 0, none⟩), .int .u32 t0] wr fun e w' => e = .returned (.tuple #[.int .i64 tx, .bool true]) ∧ wr = w') := by
          obtain ⟨r, Fr', q1, q2, q3⟩ := HP.out.same MR.out
          exact I.own_get q3 t0 h2 hx
        have G23 : Hid (∀ N, Calls Try.prog 23 #[.pointer (some ⟨b, 0, none⟩), .int .u32 t0] (wr.drewN N) fun e w' => e = .returned (.int .i64 th) ∧ wr.drewN N = w') := fun N => by
          obtain ⟨r, Fr', q1, q2, q3⟩ := HP.out.same (MR.out.drewN N)
          exact I.own_held q3 t0 h2 hx
        have hbx : (tx != tx) = false := by simp
        have hbh : (th != th) = false := by simp
        clear d0 d1 d2 h2 hx hlow hlt'
        generalize (t0 : Int) = ti at *
        go_wp2_with fail
        refine G18.out.mono ?_
        rintro e w6 ⟨rfl, rfl⟩
        go_wp2
        go_quiet (first | (go_at_call 23; refine (G23.out _).mono ?_; rintro e w' ⟨rfl, rfl⟩; exact ⟨rfl, _, rfl⟩) | fail)
        go_wp2
        go_roundw
        case rel => exact ⟨k + 1, by go_num, hlt, MR.out.drewN _⟩
        case measure => simp [intOf]; omega
      · obtain rfl : k = n := by omega
        go_wp2
        go_ret
        exact ⟨rfl, MR.out⟩
end Go.Proofs.Ytlkakkgmjihlaaa

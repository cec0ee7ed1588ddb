/- References: the terms of TBDDs. Printed by topterm5.py. -/
import Derived.Test.YtcoljkigphnjfaaGreatDoorM31
set_option linter.unusedVariables false
set_option linter.unusedSimpArgs false
namespace Go.Proofs.YtcoljkigphnjfaaGreatDoor
open Go.RowKit

def skip5 : Nat → List Bool → Nat → Nat × List Bool × Nat
  | 0, t, q => (0, t, q)
  | k + 1, t, q => if t.take (2 ^ k) = t.drop (2 ^ k) then skip5 k (t.take (2 ^ k)) (q + 1) else (k + 1, t, q)
def freeB : Nat → List Bool → Bool
  | 0, _ => false
  | k + 1, t => decide (t.take (2 ^ k) = t.drop (2 ^ k))
def zero5 : Nat → List Bool → Nat → Nat × List Bool × Nat
  | 0, t, z => (0, t, z)
  | k + 1, t, z => if noneB (t.drop (2 ^ k)) = true ∧ freeB k (t.take (2 ^ k)) = false then zero5 k (t.take (2 ^ k)) (z + 1) else (k + 1, t, z)
def nodeT5 (rec : Nat → List Bool → Nat → List UInt8) (q : Nat) (z : Nat × List Bool × Nat) : List UInt8 :=
  match z.1 with
  | 0 => [dg q, 64] ++ [49]
  | m + 1 => [dg q, 64] ++ [40] ++ [dg z.2.2] ++ [32] ++ rec m (z.2.1.take (2 ^ m)) (z.2.2 + 1) ++ [32] ++ rec m (z.2.1.drop (2 ^ m)) (z.2.2 + 1) ++ [41]
def last5 (k : Nat) (t : List Bool) (l : Nat) : Nat × List Bool × Nat := zero5 (skip5 k t l).1 (skip5 k t l).2.1 (skip5 k t l).2.2
def term5 : Nat → Nat → List Bool → Nat → List UInt8
  | 0, k, t, l => if noneB t then [48] else nodeT5 (fun _ _ _ => []) (skip5 k t l).2.2 (last5 k t l)
  | F + 1, k, t, l => if noneB t then [48] else nodeT5 (term5 F) (skip5 k t l).2.2 (last5 k t l)
theorem cat8 (a b c d e f g h : List UInt8) : ((((((((⟨a.toArray⟩ : ByteArray) ++ ⟨b.toArray⟩) ++ ⟨c.toArray⟩) ++ ⟨d.toArray⟩) ++ ⟨e.toArray⟩) ++ ⟨f.toArray⟩) ++ ⟨g.toArray⟩) ++ ⟨h.toArray⟩) = ⟨(a ++ b ++ c ++ d ++ e ++ f ++ g ++ h).toArray⟩ := by
  simp only [ba_app]
theorem skip5_le : ∀ (k : Nat) (t : List Bool) (q : Nat), (skip5 k t q).1 ≤ k ∧ (skip5 k t q).2.2 + (skip5 k t q).1 = q + k := by
  intro k
  induction k with
  | zero => intro t q; simp [skip5]
  | succ k ih =>
    intro t q
    rw [skip5]
    split
    · have := ih (t.take (2 ^ k)) (q + 1); omega
    · simp
theorem zero5_le : ∀ (k : Nat) (t : List Bool) (q : Nat), (zero5 k t q).1 ≤ k ∧ (zero5 k t q).2.2 + (zero5 k t q).1 = q + k := by
  intro k
  induction k with
  | zero => intro t q; simp [zero5]
  | succ k ih =>
    intro t q
    rw [zero5]
    split
    · have := ih (t.take (2 ^ k)) (q + 1); omega
    · simp
theorem last5_le (k : Nat) (t : List Bool) (l : Nat) : (last5 k t l).1 ≤ k ∧ (last5 k t l).2.2 + (last5 k t l).1 = l + k := by
  have h1 := skip5_le k t l
  have h2 := zero5_le (skip5 k t l).1 (skip5 k t l).2.1 (skip5 k t l).2.2
  unfold last5
  omega
theorem term5_len : ∀ (F k : Nat) (t : List Bool) (l : Nat), k ≤ F → (term5 F k t l).length + 7 ≤ 10 * 2 ^ k := by
  intro F
  induction F with
  | zero =>
    intro k t l hk
    obtain rfl : k = 0 := by omega
    have hl := last5_le 0 t l
    rw [term5]
    split
    · simp
    · unfold nodeT5
      split
      · simp
      · omega
  | succ F ih =>
    intro k t l hk
    have hp := Nat.two_pow_pos k
    rw [term5]
    split
    · simp; omega
    · have hl := last5_le k t l
      generalize last5 k t l = z at *
      unfold nodeT5
      split
      · simp; omega
      · rename_i m hm
        have h1 := ih m (z.2.1.take (2 ^ m)) (z.2.2 + 1) (by omega)
        have h2 := ih m (z.2.1.drop (2 ^ m)) (z.2.2 + 1) (by omega)
        have h3 := pow_mono (show m + 1 ≤ k by omega)
        rw [Nat.pow_succ] at h3
        simp only [List.length_append, List.length_cons, List.length_nil]; omega

set_option maxHeartbeats 2000000 in
theorem free16_c {w : World} {v : Value} {t : List Bool} {F : List Nat} {j : Nat} (h : Rv w v (t.map eb) F) (hl : t.length = 2 ^ j) (hj : j ≤ 6) :
    Calls Tryz.prog 134 #[v] w fun e w' => e = .returned (.bool (freeB j t)) ∧ Mod [] w w' := by
  cases j with
  | zero =>
    obtain ⟨A, cap, rfl⟩ := h.frame
    have h1 : t.length = 1 := by simpa using hl
    simp only [List.length_map, h1]
    unfold freeB
    clear h hl h1
    go_enter Tryz.func134, Tryz.ntmps134
    go_wp2_with fail
    go_ret
    exact ⟨rfl, Mod.refl _ _⟩
  | succ k =>
    obtain ⟨hh, h3, h4, h5⟩ := half_len hl
    have h128 : t.length ≤ 128 := by rw [hl]; have := Nat.pow_le_pow_right (n := 2) (by omega) (show k + 1 ≤ 7 by omega); simpa using this
    obtain ⟨lo, hlo⟩ : ∃ lo, t.take (2 ^ k) = lo := ⟨_, rfl⟩
    obtain ⟨hi, hhi⟩ : ∃ hi, t.drop (2 ^ k) = hi := ⟨_, rfl⟩
    have HV : Hid _ := Lib.hid (halves16_c h h5 (by omega) lo hi (by rw [hh]; exact hlo) (by rw [hh]; exact hhi))
    have SM : Hid (∀ (W : World) (v1 v2 : Value), Rv W v1 (lo.map eb) F → Rv W v2 (hi.map eb) F → _) := fun W v1 v2 a1 a2 => same05_c a1 a2 (by rw [← hlo, h3]; omega) (by rw [← hhi, h4]; omega)
    obtain ⟨N0, hN0⟩ : ∃ N0, 2 ^ k = N0 := ⟨_, rfl⟩
    have LM : Hid ((lo.map eb).length = N0 ∧ (hi.map eb).length = N0) := ⟨by rw [List.length_map, ← hlo, h3, hN0], by rw [List.length_map, ← hhi, h4, hN0]⟩
    obtain ⟨A, cap, rfl⟩ := h.frame
    simp only [List.length_map] at HV ⊢
    have hne : ((t.length : Int) == 1) = false := by rw [beq_eq_false_iff_ne]; omega
    obtain ⟨n, hn⟩ : ∃ n, t.length = n := ⟨_, rfl⟩
    rw [hn] at HV hne ⊢
    have FB : freeB (k + 1) t = decide (lo = hi) := by rw [freeB, hlo, hhi]
    rw [FB]
    clear h hl hh h3 h4 h5 h128 hn hlo hhi hN0 FB
    obtain ⟨bq, hbq⟩ : ∃ bq, decide (lo = hi) = bq := ⟨_, rfl⟩
    rw [hbq] at SM ⊢
    clear hbq
    go_enter Tryz.func134, Tryz.ntmps134
    go_wp2_with fail
    refine HV.out.mono ?_
    rintro e w1 ⟨v1, v2, rfl, m1, r1, r2⟩
    obtain ⟨A1, c1, rfl⟩ := r1.frame
    obtain ⟨A2, c2, rfl⟩ := r2.frame
    rw [LM.out.1] at r1 ⊢
    rw [LM.out.2] at r2 ⊢
    have M1 := Lib.hid m1
    have R1 := Lib.hid r1
    have R2 := Lib.hid r2
    clear m1 r1 r2 HV
    go_wp2_with fail
    refine (SM.out _ _ _ R1.out R2.out).mono ?_
    rintro e w2 ⟨rfl, m2⟩
    have M2 := Lib.hid (M1.out.trans' m2)
    clear m2 SM
    go_wp2_with fail
    go_ret
    exact ⟨rfl, M2.out⟩

set_option maxRecDepth 100000 in
set_option maxHeartbeats 16000000 in
theorem term16_c : ∀ (G k : Nat) (t : List Bool) (l : Nat) (w : World) (v : Value) (F : List Nat), k ≤ G → Rv w v (t.map eb) F → t.length = 2 ^ k → l + k < 10 → k ≤ 6 →
    Calls Tryz.prog 88 #[v, .int .i64 l] w fun e w' => e = .returned (sv (term5 G k t l)) ∧ Mod [] w w' := by
  have nought : ∀ (t : List Bool) (l : Nat) (w : World) (v : Value) (F : List Nat), Rv w v (t.map eb) F → t.length ≤ 1000 → noneB t = true → Calls Tryz.prog 88 #[v, .int .i64 l] w fun e w' => e = .returned (sv [48]) ∧ Mod [] w w' := by
    intro t l w v F h h1 hz
    have NN := Lib.hid (none16_c h (by omega))
    rw [hz] at NN
    clear h hz
    go_enter Tryz.func88, Tryz.ntmps88
    go_wp2_with fail
    refine NN.out.mono ?_
    rintro e w' ⟨rfl, rfl⟩
    go_wp2_with fail
    go_ret
    exact ⟨rfl, Mod.refl _ _⟩
  have main : ∀ (G k : Nat) (t : List Bool) (l : Nat) (w : World) (v : Value) (F : List Nat), Rv w v (t.map eb) F → t.length = 2 ^ k → l + k < 10 → k ≤ 6 →
      Hid (∀ (j b : Nat) (x : List Bool) (W : World) (v' : Value), Rv W v' (x.map eb) F → x.length = 2 ^ j → j + 1 ≤ k → b + 1 + j < 10 → Calls Tryz.prog 88 #[v', .int .i64 ((b : Int) + 1)] W fun e w' => e = .returned (sv (term5 G j x (b + 1))) ∧ Mod [] W w') →
      (k = 0 ∨ k ≤ G + 1) →
      ∀ T, (noneB t = false → nodeT5 (term5 G) (skip5 k t l).2.2 (last5 k t l) = T) → (noneB t = true → [48] = T) →
      Calls Tryz.prog 88 #[v, .int .i64 l] w fun e w' => e = .returned (sv T) ∧ Mod [] w w' := by
    intro G k t l w v F h hl hlk hk IH hkG T hT1 hT2
    have hp64 : t.length ≤ 64 := by rw [hl]; exact pow64 hk
    cases hz : noneB t with
    | true => rw [← hT2 hz]; exact nought t l w v F h (by omega) hz
    | false =>
      have NT := Lib.hid (none16_c h (by omega))
      rw [hz] at NT
      have TE := Lib.hid (hT1 hz)
      obtain ⟨A, cap, rfl⟩ := h.frame
      have H := Lib.hid h
      have HL := Lib.hid hl
      simp only [List.length_map] at H NT ⊢
      obtain ⟨n, hn⟩ : ∃ n, t.length = n := ⟨_, rfl⟩
      rw [hn] at H NT hl hp64 ⊢
      have HN := Lib.hid hn
      have hn64 : n ≤ 64 := by omega
      have hl10 : l < 10 := by omega
      have HNK := Lib.hid hl
      clear h hl hn hz hT1 hT2 nought
      go_enter Tryz.func88, Tryz.ntmps88
      go_wp2_with fail
      refine NT.out.mono ?_
      rintro e w0 ⟨rfl, rfl⟩
      clear NT
      go_wp2_with fail
      go_loopw [0, 5] (fun v0 v5 wr => ∃ (j N q : Nat) (x : List Bool) (B1 : Option Addr) (d1 : Nat), v0 = .slice B1 N d1 ∧ v5 = .int .i64 q ∧ N ≤ 64 ∧ q < 10 ∧ Hid (N = 2 ^ j ∧ x.length = N ∧ skip5 j x q = skip5 k t l ∧ q + j = l + k ∧ j ≤ k) ∧ Hid (Rv wr (.slice B1 N d1) (x.map eb) F) ∧ Hid (Mod [] w0 wr)) (fun _ v5 _ => 10 - (intOf v5).toNat)
      case atStart => exact ⟨k, n, l, t, _, _, rfl, rfl, hn64, hl10, ⟨HNK.out, HN.out, rfl, rfl, Nat.le_refl _⟩, H, Mod.refl _ _⟩
      case round =>
        obtain ⟨j, N, q, x, B1, d1, rfl, rfl, hN, hq, HI, RX, HM⟩ := hrel
        have TGQ := Lib.hid (tag_c q hq)
        have hjk : j ≤ k := HI.out.2.2.2.2
        have hqj : q + j = l + k := HI.out.2.2.2.1
        by_cases hj : j = 0
        · subst hj
          have hN1 : N = 1 := by rw [HI.out.1]
          subst hN1
          have SK : skip5 k t l = (0, x, q) := by rw [← HI.out.2.2.1, skip5]
          have TEc : Hid (T = [dg q, 64] ++ [49]) := by
            show _ = _
            rw [← TE.out]; unfold last5; rw [SK]; rfl
          clear SK
          go_wp2_with fail
          refine wp_loop_rounds 1 ?_
          rw [rounds_succ]
          go_wp2_with fail
          refine (TGQ.out _).mono ?_
          rintro e w3 ⟨rfl, m3⟩
          have N3 := Lib.hid (HM.out.trans' m3)
          clear m3
          unfold sv
          go_wp2_with fail
          go_ret
          exact ⟨by rw [TEc.out]; exact congrArg (fun x => Ending.returned (.string x)) (ba_app [dg q, 64] [49]), N3.out⟩
        · obtain ⟨i, rfl⟩ : ∃ i, j = i + 1 := ⟨j - 1, by omega⟩
          have hx : x.length = 2 ^ (i + 1) := HI.out.2.1.trans HI.out.1
          obtain ⟨xh, x3, x4, x5⟩ := half_len hx
          have hN2 : (1 : Int) < N := by have := HI.out.2.1; omega
          obtain ⟨x1, hx1⟩ : ∃ x1, x.take (2 ^ i) = x1 := ⟨_, rfl⟩
          obtain ⟨x2, hx2⟩ : ∃ x2, x.drop (2 ^ i) = x2 := ⟨_, rfl⟩
          obtain ⟨M, hM⟩ : ∃ M, 2 ^ i = M := ⟨_, rfl⟩
          have hM64 : M ≤ 64 := by have := pow64 (show i ≤ 6 by omega); omega
          have SK : Hid (skip5 (i + 1) x q = if x1 = x2 then skip5 i x1 (q + 1) else (i + 1, x, q)) := by
            show _ = _
            rw [skip5, hx1, hx2]
          have HX : Hid (∀ W, Mod [] wr W → _) := fun W m => halves16_c (RX.out.mod m (by simp)) x5 (by rw [HI.out.2.1]; omega) x1 x2 (by rw [xh]; exact hx1) (by rw [xh]; exact hx2)
          have LX1 : Hid (x1.length = 2 ^ i ∧ x2.length = 2 ^ i) := ⟨by rw [← hx1]; exact x3, by rw [← hx2]; exact x4⟩
          have LMX : Hid ((x1.map eb).length = M ∧ (x2.map eb).length = M) := ⟨by rw [List.length_map, LX1.out.1, hM], by rw [List.length_map, LX1.out.2, hM]⟩
          have SA : Hid (∀ (W : World) (v1 v2 : Value), Rv W v1 (x1.map eb) F → Rv W v2 (x2.map eb) F → _) := fun W v1 v2 a1 a2 => same05_c a1 a2 (by rw [LX1.out.1, hM]; omega) (by rw [LX1.out.2, hM]; omega)
          have HMM := Lib.hid hM
          clear hx xh x3 x4 x5 hx1 hx2 hM
          go_wp2_with fail
          refine (HX.out _ (by (repeat (first | exact Mod.refl _ _ | apply Mod.drew | apply Mod.drewN | apply Mod.alloc | refine Mod.setCell ?_ _ _ (by first | simp | (simp; omega)))))).mono ?_
          rintro e w1 ⟨v1, v2, rfl, m1, r1, r2⟩
          obtain ⟨D1, g1, rfl⟩ := r1.frame
          obtain ⟨D2, g2, rfl⟩ := r2.frame
          rw [LMX.out.1] at r1 ⊢
          rw [LMX.out.2] at r2 ⊢
          have R1 := Lib.hid r1
          have R2 := Lib.hid r2
          have HM1 := Lib.hid (HM.out.trans' m1)
          replace RX := Lib.hid (RX.out.mod m1 (by simp))
          clear m1 r1 r2 HX
          go_wp2_with fail
          refine (SA.out _ _ _ R1.out R2.out).mono ?_
          rintro e w2 ⟨rfl, m1⟩
          have R1 := Lib.hid (R1.out.mod m1 (by simp))
          have HM2 := Lib.hid (HM1.out.trans' m1)
          replace RX := Lib.hid (RX.out.mod m1 (by simp))
          clear m1 SA R2 HM1
          by_cases h1 : x1 = x2
          · rw [decide_eq_true h1]
            have CC : Hid (skip5 i x1 (q + 1) = skip5 k t l) := by
              show _ = _
              rw [← HI.out.2.2.1, SK.out, if_pos h1]
            clear h1 RX
            go_wp2_with fail
            go_roundw
            case rel => exact ⟨i, M, q + 1, x1, D1, g1, rfl, by go_num, hM64, by omega, ⟨HMM.out.symm, by rw [LX1.out.1, HMM.out], CC.out, by omega, by omega⟩, R1, HM2⟩
            case measure => simp [intOf]; omega
          · rw [decide_eq_false h1]
            have SK2 : Hid (skip5 k t l = (i + 1, x, q)) := by
              show _ = _
              rw [← HI.out.2.2.1, SK.out, if_neg h1]
            have HI2 : Hid (N = 2 ^ (i + 1) ∧ x.length = N) := ⟨HI.out.1, HI.out.2.1⟩
            clear h1 R1 HI SK LX1 LMX HMM hN2 hM64 HM
            obtain ⟨wo, rfl⟩ : ∃ wo : World, wo = wr := ⟨_, rfl⟩
            go_wp2_with fail
            go_loopw [0, 8] (fun v0 v8 wr => ∃ (j N z : Nat) (y : List Bool) (B1 : Option Addr) (d1 : Nat), v0 = .slice B1 N d1 ∧ v8 = .int .i64 z ∧ N ≤ 64 ∧ z < 10 ∧ Hid (N = 2 ^ j ∧ y.length = N ∧ zero5 j y z = zero5 (i + 1) x q ∧ z + j = l + k ∧ j ≤ i + 1) ∧ Hid (Rv wr (.slice B1 N d1) (y.map eb) F) ∧ Hid (Mod [] w0 wr)) (fun _ v8 _ => 10 - (intOf v8).toNat)
            case atStart => exact ⟨i + 1, N, q, x, _, _, rfl, rfl, hN, hq, ⟨HI2.out.1, HI2.out.2, rfl, by omega, Nat.le_refl _⟩, RX, HM2⟩
            case round =>
              obtain ⟨j, N, z, y, B1, d1, rfl, rfl, hN, hz, HJ, RY, HM⟩ := hrel
              clear RX HM2 HI2
              have NUZ := Lib.hid (num_c z hz)
              have hji : j ≤ i + 1 := HJ.out.2.2.2.2
              have hzj : z + j = l + k := HJ.out.2.2.2.1
              have LST : Hid (zero5 j y z = last5 k t l) := by
                show _ = _
                rw [HJ.out.2.2.1]; unfold last5; rw [SK2.out]
              by_cases hj : j = 0
              · subst hj
                have hN1 : N = 1 := by rw [HJ.out.1]
                subst hN1
                have TEc : Hid (T = [dg q, 64] ++ [49]) := by
                  show _ = _
                  rw [← TE.out, ← LST.out, SK2.out, zero5]; rfl
                go_wp2_with fail
                refine (TGQ.out _).mono ?_
                rintro e w3 ⟨rfl, m3⟩
                have N3 := Lib.hid (HM.out.trans' m3)
                clear m3
                unfold sv
                go_wp2_with fail
                go_ret
                exact ⟨by rw [TEc.out]; exact congrArg (fun x => Ending.returned (.string x)) (ba_app [dg q, 64] [49]), N3.out⟩
              · obtain ⟨m, rfl⟩ : ∃ m, j = m + 1 := ⟨j - 1, by omega⟩
                have hy : y.length = 2 ^ (m + 1) := HJ.out.2.1.trans HJ.out.1
                obtain ⟨xh, x3, x4, x5⟩ := half_len hy
                have hN2 : (1 : Int) < N := by have := HJ.out.2.1; omega
                have hNe : ((N : Int) == 1) = false := by rw [beq_eq_false_iff_ne]; omega
                obtain ⟨y1, hy1⟩ : ∃ y1, y.take (2 ^ m) = y1 := ⟨_, rfl⟩
                obtain ⟨y2, hy2⟩ : ∃ y2, y.drop (2 ^ m) = y2 := ⟨_, rfl⟩
                obtain ⟨M, hM⟩ : ∃ M, 2 ^ m = M := ⟨_, rfl⟩
                have hM64 : M ≤ 64 := by have := pow64 (show m ≤ 6 by omega); omega
                have ZR : Hid (zero5 (m + 1) y z = if noneB y2 = true ∧ freeB m y1 = false then zero5 m y1 (z + 1) else (m + 1, y, z)) := by
                  show _ = _
                  rw [zero5, hy1, hy2]
                have TEND : Hid (zero5 (m + 1) y z = (m + 1, y, z) → T = [dg q, 64] ++ [40] ++ [dg z] ++ [32] ++ term5 G m y1 (z + 1) ++ [32] ++ term5 G m y2 (z + 1) ++ [41]) := fun h => by
                  rw [← TE.out, ← LST.out, SK2.out, h, ← hy1, ← hy2]; rfl
                have HX : Hid (∀ W, Mod [] wr W → _) := fun W m => halves16_c (RY.out.mod m (by simp)) x5 (by rw [HJ.out.2.1]; omega) y1 y2 (by rw [xh]; exact hy1) (by rw [xh]; exact hy2)
                have LX1 : Hid (y1.length = 2 ^ m ∧ y2.length = 2 ^ m) := ⟨by rw [← hy1]; exact x3, by rw [← hy2]; exact x4⟩
                have LMX : Hid ((y1.map eb).length = M ∧ (y2.map eb).length = M) := ⟨by rw [List.length_map, LX1.out.1, hM], by rw [List.length_map, LX1.out.2, hM]⟩
                have N2 : Hid (∀ (W : World) (v2 : Value), Rv W v2 (y2.map eb) F → _) := fun W v2 a2 => none16_c a2 (by rw [LX1.out.2, hM]; omega)
                have FR : Hid (∀ (W : World) (v2 : Value), Rv W v2 (y1.map eb) F → _) := fun W v2 a2 => free16_c a2 LX1.out.1 (by omega)
                have IHB : Hid (∀ (u : List Bool) (W : World) (v' : Value), Rv W v' (u.map eb) F → u.length = 2 ^ m → _) := fun u W v' a1 a2 => IH.out m z u W v' a1 a2 (by omega) (by omega)
                have LEN : Hid (∀ u, (term5 G m u (z + 1)).length ≤ 1000) := fun u => by have := term5_len G m u (z + 1) (by omega); have := pow64 (show m ≤ 6 by omega); omega
                have HMM := Lib.hid hM
                clear hy xh x3 x4 x5 hy1 hy2 hM
                go_wp2_with fail
                refine (HX.out _ (by (repeat (first | exact Mod.refl _ _ | apply Mod.drew | apply Mod.drewN | apply Mod.alloc | refine Mod.setCell ?_ _ _ (by first | simp | (simp; omega)))))).mono ?_
                rintro e w1 ⟨v1, v2, rfl, m1, r1, r2⟩
                obtain ⟨D1, g1, rfl⟩ := r1.frame
                obtain ⟨D2, g2, rfl⟩ := r2.frame
                rw [LMX.out.1] at r1 ⊢
                rw [LMX.out.2] at r2 ⊢
                have R1 := Lib.hid r1
                have R2 := Lib.hid r2
                have MX := Lib.hid m1
                clear m1 r1 r2
                go_wp2_with fail
                refine (N2.out _ _ R2.out).mono ?_
                rintro e w2 ⟨rfl, rfl⟩
                clear N2
                cases hb : noneB y2 with
                | false =>
                  have TEc := Lib.hid (TEND.out (by rw [ZR.out, if_neg (fun h => by rw [hb] at h; exact absurd h.1 (by simp))]))
                  have MZ := Lib.hid (HM.out.trans' MX.out)
                  clear TEND hb hji hzj R1 R2
                  go_wp2_with fail
                  refine (HX.out _ MX.out).mono ?_
                  rintro e w7 ⟨v1, v2, rfl, m1, r1, r2⟩
                  obtain ⟨E1, h1, rfl⟩ := r1.frame
                  obtain ⟨E2, h2, rfl⟩ := r2.frame
                  rw [LMX.out.1] at r1 ⊢
                  rw [LMX.out.2] at r2 ⊢
                  have RX := Lib.hid r1
                  have RY := Lib.hid r2
                  have N3 := Lib.hid (MZ.out.trans' m1)
                  clear m1 r1 r2 HX
                  go_wp2_with fail
                  refine (TGQ.out _).mono ?_
                  rintro e w3 ⟨rfl, m3⟩
                  have N3 := Lib.hid (N3.out.trans' m3)
                  have RX := Lib.hid (RX.out.mod m3 (by simp))
                  have RY := Lib.hid (RY.out.mod m3 (by simp))
                  clear m3
                  unfold sv
                  go_wp2_with fail
                  refine (NUZ.out _).mono ?_
                  rintro e w4 ⟨rfl, m4⟩
                  have N4 := Lib.hid (N3.out.trans' m4)
                  have RX := Lib.hid (RX.out.mod m4 (by simp))
                  have RY := Lib.hid (RY.out.mod m4 (by simp))
                  clear m4
                  unfold sv
                  go_wp2_with fail
                  refine (IHB.out y1 _ _ RX.out LX1.out.1).mono ?_
                  rintro e w5 ⟨rfl, m5⟩
                  have N5 := Lib.hid (N4.out.trans' m5)
                  have RY := Lib.hid (RY.out.mod m5 (by simp))
                  clear m5
                  unfold sv
                  have hT1 : (term5 G m y1 (z + 1)).length ≤ 1000 := LEN.out y1
                  go_wp2_with fail
                  refine (IHB.out y2 _ _ RY.out LX1.out.2).mono ?_
                  rintro e w6 ⟨rfl, m6⟩
                  have N6 := Lib.hid (N5.out.trans' m6)
                  clear m6
                  unfold sv
                  have hT2 : (term5 G m y2 (z + 1)).length ≤ 1000 := LEN.out y2
                  go_wp2_with fail
                  go_ret
                  exact ⟨by rw [TEc.out]; exact congrArg (fun x => Ending.returned (.string x)) (cat8 [dg q, 64] [40] [dg z] [32] _ [32] _ [41]), N6.out⟩
                | true =>
                  go_wp2_with fail
                  refine (FR.out _ _ R1.out).mono ?_
                  rintro e w5 ⟨rfl, m1⟩
                  have R1 := Lib.hid (R1.out.mod m1 (by simp))
                  have MX := Lib.hid (MX.out.trans' m1)
                  have MZ := Lib.hid (HM.out.trans' MX.out)
                  clear m1 FR
                  cases hf : freeB m y1 with
                  | false =>
                    have CC : Hid (zero5 m y1 (z + 1) = zero5 (i + 1) x q) := by
                      show _ = _
                      rw [← HJ.out.2.2.1, ZR.out, if_pos ⟨hb, hf⟩]
                    clear hb hf TEND RY R2 HX
                    go_wp2_with fail
                    go_roundw
                    case rel => exact ⟨m, M, z + 1, y1, D1, g1, rfl, by go_num, hM64, by omega, ⟨HMM.out.symm, by rw [LX1.out.1, HMM.out], CC.out, by omega, by omega⟩, R1, MZ⟩
                    case measure => simp [intOf]; omega
                  | true =>
                    have TEc := Lib.hid (TEND.out (by rw [ZR.out, if_neg (fun h => by rw [hf] at h; exact absurd h.2 (by simp))]))
                    clear TEND hb hf hji hzj R1 R2
                    go_wp2_with fail
                    refine (HX.out _ MX.out).mono ?_
                    rintro e w7 ⟨v1, v2, rfl, m1, r1, r2⟩
                    obtain ⟨E1, h1, rfl⟩ := r1.frame
                    obtain ⟨E2, h2, rfl⟩ := r2.frame
                    rw [LMX.out.1] at r1 ⊢
                    rw [LMX.out.2] at r2 ⊢
                    have RX := Lib.hid r1
                    have RY := Lib.hid r2
                    have N3 := Lib.hid (MZ.out.trans' m1)
                    clear m1 r1 r2 HX
                    go_wp2_with fail
                    refine (TGQ.out _).mono ?_
                    rintro e w3 ⟨rfl, m3⟩
                    have N3 := Lib.hid (N3.out.trans' m3)
                    have RX := Lib.hid (RX.out.mod m3 (by simp))
                    have RY := Lib.hid (RY.out.mod m3 (by simp))
                    clear m3
                    unfold sv
                    go_wp2_with fail
                    refine (NUZ.out _).mono ?_
                    rintro e w4 ⟨rfl, m4⟩
                    have N4 := Lib.hid (N3.out.trans' m4)
                    have RX := Lib.hid (RX.out.mod m4 (by simp))
                    have RY := Lib.hid (RY.out.mod m4 (by simp))
                    clear m4
                    unfold sv
                    go_wp2_with fail
                    refine (IHB.out y1 _ _ RX.out LX1.out.1).mono ?_
                    rintro e w5 ⟨rfl, m5⟩
                    have N5 := Lib.hid (N4.out.trans' m5)
                    have RY := Lib.hid (RY.out.mod m5 (by simp))
                    clear m5
                    unfold sv
                    have hT1 : (term5 G m y1 (z + 1)).length ≤ 1000 := LEN.out y1
                    go_wp2_with fail
                    refine (IHB.out y2 _ _ RY.out LX1.out.2).mono ?_
                    rintro e w6 ⟨rfl, m6⟩
                    have N6 := Lib.hid (N5.out.trans' m6)
                    clear m6
                    unfold sv
                    have hT2 : (term5 G m y2 (z + 1)).length ≤ 1000 := LEN.out y2
                    go_wp2_with fail
                    go_ret
                    exact ⟨by rw [TEc.out]; exact congrArg (fun x => Ending.returned (.string x)) (cat8 [dg q, 64] [40] [dg z] [32] _ [32] _ [41]), N6.out⟩
  intro G
  induction G with
  | zero =>
    intro k t l w v F hkG h hl hlk hk
    obtain rfl : k = 0 := by omega
    refine main 0 0 t l w v F h hl hlk hk (fun j b x W v' a1 a2 a3 a4 => by omega) (.inl rfl) _ (fun hz => ?_) (fun hz => ?_)
    · rw [term5, if_neg (by rw [hz]; simp)]
      have hlast := last5_le 0 t l
      generalize last5 0 t l = z at *
      unfold nodeT5
      obtain ⟨z1, z2, z3⟩ := z
      simp only at hlast
      obtain rfl : z1 = 0 := by omega
      rfl
    · rw [term5, if_pos hz]
  | succ G ih =>
    intro k t l w v F hkG h hl hlk hk
    refine main G k t l w v F h hl hlk hk (fun j b x W v' a1 a2 a3 a4 => ?_) (.inr (by omega)) _ (fun hz => ?_) (fun hz => ?_)
    · have := ih j x (b + 1) W v' F (by omega) a1 a2 (by omega) (by omega)
      simpa using this
    · rw [term5, if_neg (by rw [hz]; simp)]
    · rw [term5, if_pos hz]
end Go.Proofs.YtcoljkigphnjfaaGreatDoor

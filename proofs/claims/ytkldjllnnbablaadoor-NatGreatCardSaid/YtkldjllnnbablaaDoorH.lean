/- Div64: what it gives. -/
import Derived.Test.YtkldjllnnbablaaDoorG
set_option linter.unusedVariables false
set_option linter.unusedSimpArgs false
namespace Go.Proofs.YtkldjllnnbablaaDoor
open Go.RowKit Go.Shelf

set_option maxRecDepth 100000 in
set_option maxHeartbeats 8000000 in
theorem div64_c (hi lo y : Nat) (h1 : hi < y) (h2 : lo < B64) (h3 : y < B64) (w : World) : Calls Tryd.prog 50 #[.int .u64 hi, .int .u64 lo, .int .u64 y] w fun e w' => e = .returned (.tuple #[.int .u64 (((hi * B64 + lo) / y : Nat) : Int), .int .u64 (((hi * B64 + lo) % y : Nat) : Int)]) ∧ Mod [] w w' := by
  have hy : ((y : Int) == 0) = false := by rw [beq_eq_false_iff_ne]; omega
  have hyh : ¬ (y : Int) ≤ hi := by omega
  by_cases h0 : hi = 0
  · subst h0
    have hz : ¬ (y : Int) = 0 := by omega
    obtain ⟨q, hq⟩ : ∃ q, q = (0 * B64 + lo) / y := ⟨_, rfl⟩
    obtain ⟨r, hr⟩ : ∃ r, r = (0 * B64 + lo) % y := ⟨_, rfl⟩
    have wq : IntKind.u64.wrap ((lo : Int) / (y : Int)) = q := by
      rw [← Int.natCast_ediv, wrapN, hq, Nat.zero_mul, Nat.zero_add, Nat.mod_eq_of_lt]
      have := Nat.div_le_self lo y
      unfold B64 at h2
      omega
    have wr : IntKind.u64.wrap ((lo : Int).tmod (y : Int)) = r := by
      rw [← Int.ofNat_tmod, wrapN, hr, Nat.zero_mul, Nat.zero_add, Nat.mod_eq_of_lt]
      have := Nat.mod_le lo y
      unfold B64 at h2
      omega
    have wr2 : (lo : Int).tmod (y : Int) = r := by rw [← Int.ofNat_tmod, hr, Nat.zero_mul, Nat.zero_add]
    rw [← hq, ← hr]
    have HQ := Lib.hid hq
    have HR := Lib.hid hr
    clear hq hr h2 h3
    go_enter Tryd.func50, Tryd.ntmps50
    go_wp2
    go_quiet (fail)
    go_wp2
    go_ret2
    exact ⟨rfl, (Mod.refl _ _).drewN _⟩
  · obtain ⟨qt, hqt⟩ : ∃ qt, (hi * B64 + lo) / y = qt := ⟨_, rfl⟩
    obtain ⟨rm, hrm⟩ : ∃ rm, (hi * B64 + lo) % y = rm := ⟨_, rfl⟩
    rw [hqt, hrm]
    have HQT := Lib.hid hqt
    have HRM := Lib.hid hrm
    clear hqt hrm
    have hh : ((hi : Int) == 0) = false := by rw [beq_eq_false_iff_ne]; omega
    obtain ⟨s, hs63, hse, hsB, hsY⟩ := shift_of (y := y) (by omega) h3
    obtain ⟨Y, y1, y0, a1, a2, u, L, d1, d0, f1, f2, f3, f4, f5, f6, f7, f8, f9, eY, eY2, eU, huY, hp, hd0⟩ := shift_word h1 h2 hs63 hsB hsY
    have huB : u < B64 := by rw [← eY] at hsY; omega
    have hYB : Y < B64 := by rw [eY]; exact hsY
    have h1y : 0 < y1 := by have := hp.b; omega
    obtain ⟨q, p, r, g1, g2, g3, eq, er⟩ := quo_word huB h1y
    have I0 : Hid (DInv u d1 y1 y0 q r) := by have := DInv.start hp; rw [← eq, ← er] at this; exact this
    have LZ := Lib.hid (Any.bits_LeadingZeros64 lays134 (y : Int) w (by omega) (by unfold B64 at h3; omega))
    have hyt : (y : Int).toNat = y := by omega
    rw [hyt, hse] at LZ
    have hz1 : ¬ (y1 : Int) = 0 := by omega
    have EY := Lib.hid eY
    have EY2 := Lib.hid eY2
    have EU := Lib.hid eU
    have HUY := Lib.hid huY
    have HP := Lib.hid hp
    have HD0 := Lib.hid hd0
    have HYB := Lib.hid hYB
    have H1Y := Lib.hid h1y
    have QF := Lib.hid (fun q1 q0 => @quo_fits q1 q0 hi lo y h1 h2)
    have TD := Lib.hid (fun (q1 v q0 r : Nat) => @two_digits hi lo y s Y u d1 d0 q1 v q0 r (by omega) eY eU)
    clear eY eY2 eU huY hp hd0 huB h1y eq er hyt hse hsB hsY h1 h2 h3 h0
    go_enter Tryd.func50, Tryd.ntmps50
    go_wp2_with fail
    refine LZ.out.mono ?_
    rintro e w' ⟨rfl, hw⟩
    subst hw
    go_wp2_with fail
    go_loopw [15, 16] (fun v15 v16 wr => ∃ q r : Nat, v15 = .int .u64 q ∧ v16 = .int .u64 r ∧ Hid (DInv u d1 y1 y0 q r) ∧ wr = w') (fun v15 _ _ => (intOf v15).toNat)
    case atStart => exact ⟨q, r, rfl, rfl, I0.out, rfl⟩
    case round =>
      clear g1 g2 g3 I0
      obtain ⟨q, r, rfl, rfl, HI, rfl⟩ := hrel
      by_cases ca : (4294967296 : Int) ≤ q
      · have dw := dec_word HP.out HI.out (DInv.dec HP.out HI.out (.inl (by omega))).1
        obtain ⟨q', hq'⟩ : ∃ q', q - 1 = q' := ⟨_, rfl⟩
        obtain ⟨r', hr'⟩ : ∃ r', r + y1 = r' := ⟨_, rfl⟩
        rw [hq', hr'] at dw
        have e1 := dw.1
        have e2 := dw.2
        have hpos := (DInv.dec HP.out HI.out (.inl (by omega))).1
        by_cases cb : (4294967296 : Int) ≤ r'
        · have hQ : q' = (u * 4294967296 + d1) / (y1 * 4294967296 + y0) := by rw [← hq']; exact DInv.break HP.out HI.out (.inl (by omega)) (by omega)
          clear dw hq' hr' hpos
          rw [← EY2.out] at hQ
          obtain ⟨t4, t5, t6, v, m1, m2, m3, m4, ev⟩ := rem_word HYB.out (Nat.lt_of_le_of_lt (Nat.zero_le _) HUY.out) q' hQ
          have hvY : v < Y := by rw [ev]; exact Nat.mod_lt _ (Nat.lt_of_le_of_lt (Nat.zero_le _) HUY.out)
          have HP2 : Hid (DPre v d0 y1 y0) := ⟨HP.out.a, HP.out.b, HP.out.c, HD0.out, by rw [← EY2.out]; exact hvY⟩
          obtain ⟨q2, p2, r2, n1, n2, n3, eq2, er2⟩ := quo_word (Nat.lt_trans hvY HYB.out) H1Y.out
          have I2 : Hid (DInv v d0 y1 y0 q2 r2) := by have := DInv.start HP2.out; rw [← eq2, ← er2] at this; exact this
          have HQ1 := Lib.hid hQ
          have EV := Lib.hid ev
          clear hQ ev hvY eq2 er2
          obtain ⟨qa, hqa⟩ : ∃ qa, qa = q' := ⟨_, rfl⟩
          go_wp2_with fail
          go_loopw [18, 16] (fun v18 v16 wq => ∃ q r : Nat, v18 = .int .u64 q ∧ v16 = .int .u64 r ∧ Hid (DInv v d0 y1 y0 q r) ∧ wq = wr) (fun v18 _ _ => (intOf v18).toNat)
          case atStart => exact ⟨q2, r2, rfl, rfl, I2.out, by first | rfl | trivial⟩
          case round =>
            rw [← hqa] at HQ1
            subst hqa
            clear n1 n2 n3 I2 HI
            obtain ⟨q, r, rfl, rfl, HI, rfl⟩ := hrel
            by_cases ca : (4294967296 : Int) ≤ q
            · have dw := dec_word HP2.out HI.out (DInv.dec HP2.out HI.out (.inl (by omega))).1
              obtain ⟨q', hq'⟩ : ∃ q', q - 1 = q' := ⟨_, rfl⟩
              obtain ⟨r', hr'⟩ : ∃ r', r + y1 = r' := ⟨_, rfl⟩
              rw [hq', hr'] at dw
              have e1 := dw.1
              have e2 := dw.2
              have hpos := (DInv.dec HP2.out HI.out (.inl (by omega))).1
              by_cases cb : (4294967296 : Int) ≤ r'
              · have hQ : q' = (v * 4294967296 + d0) / (y1 * 4294967296 + y0) := by rw [← hq']; exact DInv.break HP2.out HI.out (.inl (by omega)) (by omega)
                clear dw hq' hr' hpos
                rw [← EY2.out] at hQ
                obtain ⟨t8, t9, tA, R, o1, o2, o3, o4, eR⟩ := rem_word HYB.out (Nat.lt_of_le_of_lt (Nat.zero_le _) HUY.out) q' hQ
                have td := TD.out qa v q' R HQ1.out EV.out hQ eR
                obtain ⟨t7, u1, u2⟩ := QF.out qa q' td.1
                have u3 : (R : Int) / 2 ^ s = rm := by rw [← HRM.out, ← td.2, Int.natCast_ediv, Int.natCast_pow]; rfl
                rw [HQT.out] at u2
                clear hQ eR td HI
                go_wp2
                go_ret2
                exact ⟨rfl, Mod.refl _ _⟩
              · have NX : Hid (DInv v d0 y1 y0 q' r') := by
                  have := DInv.next HP2.out HI.out (.inl (by omega)) (by omega)
                  rw [hq', hr'] at this
                  exact this
                have hlt : q' < q := by omega
                clear dw hq' hr' hpos
                go_wp2_with fail
                go_roundw
                case rel => exact ⟨q', r', rfl, rfl, NX.out, by first | rfl | trivial⟩
                case measure => simp [intOf]; omega
            · obtain ⟨t1, t2, t3, k1, k2, k3, kt1, kt3⟩ := test_word HP2.out HI.out (by omega)
              by_cases cc : (t3 : Int) < t1
              · have cc' : 4294967296 * r + d0 < q * y0 := by omega
                have CC := Lib.hid cc'
                clear cc' kt1 kt3
                have dw := dec_word HP2.out HI.out (DInv.dec HP2.out HI.out (.inr CC.out)).1
                obtain ⟨q', hq'⟩ : ∃ q', q - 1 = q' := ⟨_, rfl⟩
                obtain ⟨r', hr'⟩ : ∃ r', r + y1 = r' := ⟨_, rfl⟩
                rw [hq', hr'] at dw
                have e1 := dw.1
                have e2 := dw.2
                have hpos := (DInv.dec HP2.out HI.out (.inr CC.out)).1
                by_cases cb : (4294967296 : Int) ≤ r'
                · have hQ : q' = (v * 4294967296 + d0) / (y1 * 4294967296 + y0) := by rw [← hq']; exact DInv.break HP2.out HI.out (.inr CC.out) (by omega)
                  clear dw hq' hr' hpos
                  rw [← EY2.out] at hQ
                  obtain ⟨t8, t9, tA, R, o1, o2, o3, o4, eR⟩ := rem_word HYB.out (Nat.lt_of_le_of_lt (Nat.zero_le _) HUY.out) q' hQ
                  have td := TD.out qa v q' R HQ1.out EV.out hQ eR
                  obtain ⟨t7, u1, u2⟩ := QF.out qa q' td.1
                  have u3 : (R : Int) / 2 ^ s = rm := by rw [← HRM.out, ← td.2, Int.natCast_ediv, Int.natCast_pow]; rfl
                  rw [HQT.out] at u2
                  clear hQ eR td HI
                  go_wp2
                  go_ret2
                  exact ⟨rfl, Mod.refl _ _⟩
                · have NX : Hid (DInv v d0 y1 y0 q' r') := by
                    have := DInv.next HP2.out HI.out (.inr CC.out) (by omega)
                    rw [hq', hr'] at this
                    exact this
                  have hlt : q' < q := by omega
                  clear dw hq' hr' hpos
                  go_wp2_with fail
                  go_roundw
                  case rel => exact ⟨q', r', rfl, rfl, NX.out, by first | rfl | trivial⟩
                  case measure => simp [intOf]; omega
              · have hQ : q = (v * 4294967296 + d0) / (y1 * 4294967296 + y0) := DInv.done HP2.out HI.out (by omega)
                clear kt1 kt3
                rw [← EY2.out] at hQ
                obtain ⟨t8, t9, tA, R, o1, o2, o3, o4, eR⟩ := rem_word HYB.out (Nat.lt_of_le_of_lt (Nat.zero_le _) HUY.out) q hQ
                have td := TD.out qa v q R HQ1.out EV.out hQ eR
                obtain ⟨t7, u1, u2⟩ := QF.out qa q td.1
                have u3 : (R : Int) / 2 ^ s = rm := by rw [← HRM.out, ← td.2, Int.natCast_ediv, Int.natCast_pow]; rfl
                rw [HQT.out] at u2
                clear hQ eR td HI
                go_wp2
                go_ret2
                exact ⟨rfl, Mod.refl _ _⟩
        · have NX : Hid (DInv u d1 y1 y0 q' r') := by
            have := DInv.next HP.out HI.out (.inl (by omega)) (by omega)
            rw [hq', hr'] at this
            exact this
          have hlt : q' < q := by omega
          clear dw hq' hr' hpos
          go_wp2_with fail
          go_roundw
          case rel => exact ⟨q', r', rfl, rfl, NX.out, by first | rfl | trivial⟩
          case measure => simp [intOf]; omega
      · obtain ⟨t1, t2, t3, k1, k2, k3, kt1, kt3⟩ := test_word HP.out HI.out (by omega)
        by_cases cc : (t3 : Int) < t1
        · have cc' : 4294967296 * r + d1 < q * y0 := by omega
          have CC := Lib.hid cc'
          clear cc' kt1 kt3
          have dw := dec_word HP.out HI.out (DInv.dec HP.out HI.out (.inr CC.out)).1
          obtain ⟨q', hq'⟩ : ∃ q', q - 1 = q' := ⟨_, rfl⟩
          obtain ⟨r', hr'⟩ : ∃ r', r + y1 = r' := ⟨_, rfl⟩
          rw [hq', hr'] at dw
          have e1 := dw.1
          have e2 := dw.2
          have hpos := (DInv.dec HP.out HI.out (.inr CC.out)).1
          by_cases cb : (4294967296 : Int) ≤ r'
          · have hQ : q' = (u * 4294967296 + d1) / (y1 * 4294967296 + y0) := by rw [← hq']; exact DInv.break HP.out HI.out (.inr CC.out) (by omega)
            clear dw hq' hr' hpos
            rw [← EY2.out] at hQ
            obtain ⟨t4, t5, t6, v, m1, m2, m3, m4, ev⟩ := rem_word HYB.out (Nat.lt_of_le_of_lt (Nat.zero_le _) HUY.out) q' hQ
            have hvY : v < Y := by rw [ev]; exact Nat.mod_lt _ (Nat.lt_of_le_of_lt (Nat.zero_le _) HUY.out)
            have HP2 : Hid (DPre v d0 y1 y0) := ⟨HP.out.a, HP.out.b, HP.out.c, HD0.out, by rw [← EY2.out]; exact hvY⟩
            obtain ⟨q2, p2, r2, n1, n2, n3, eq2, er2⟩ := quo_word (Nat.lt_trans hvY HYB.out) H1Y.out
            have I2 : Hid (DInv v d0 y1 y0 q2 r2) := by have := DInv.start HP2.out; rw [← eq2, ← er2] at this; exact this
            have HQ1 := Lib.hid hQ
            have EV := Lib.hid ev
            clear hQ ev hvY eq2 er2
            obtain ⟨qa, hqa⟩ : ∃ qa, qa = q' := ⟨_, rfl⟩
            go_wp2_with fail
            go_loopw [18, 16] (fun v18 v16 wq => ∃ q r : Nat, v18 = .int .u64 q ∧ v16 = .int .u64 r ∧ Hid (DInv v d0 y1 y0 q r) ∧ wq = wr) (fun v18 _ _ => (intOf v18).toNat)
            case atStart => exact ⟨q2, r2, rfl, rfl, I2.out, by first | rfl | trivial⟩
            case round =>
              rw [← hqa] at HQ1
              subst hqa
              clear n1 n2 n3 I2 HI
              obtain ⟨q, r, rfl, rfl, HI, rfl⟩ := hrel
              by_cases ca : (4294967296 : Int) ≤ q
              · have dw := dec_word HP2.out HI.out (DInv.dec HP2.out HI.out (.inl (by omega))).1
                obtain ⟨q', hq'⟩ : ∃ q', q - 1 = q' := ⟨_, rfl⟩
                obtain ⟨r', hr'⟩ : ∃ r', r + y1 = r' := ⟨_, rfl⟩
                rw [hq', hr'] at dw
                have e1 := dw.1
                have e2 := dw.2
                have hpos := (DInv.dec HP2.out HI.out (.inl (by omega))).1
                by_cases cb : (4294967296 : Int) ≤ r'
                · have hQ : q' = (v * 4294967296 + d0) / (y1 * 4294967296 + y0) := by rw [← hq']; exact DInv.break HP2.out HI.out (.inl (by omega)) (by omega)
                  clear dw hq' hr' hpos
                  rw [← EY2.out] at hQ
                  obtain ⟨t8, t9, tA, R, o1, o2, o3, o4, eR⟩ := rem_word HYB.out (Nat.lt_of_le_of_lt (Nat.zero_le _) HUY.out) q' hQ
                  have td := TD.out qa v q' R HQ1.out EV.out hQ eR
                  obtain ⟨t7, u1, u2⟩ := QF.out qa q' td.1
                  have u3 : (R : Int) / 2 ^ s = rm := by rw [← HRM.out, ← td.2, Int.natCast_ediv, Int.natCast_pow]; rfl
                  rw [HQT.out] at u2
                  clear hQ eR td HI
                  go_wp2
                  go_ret2
                  exact ⟨rfl, Mod.refl _ _⟩
                · have NX : Hid (DInv v d0 y1 y0 q' r') := by
                    have := DInv.next HP2.out HI.out (.inl (by omega)) (by omega)
                    rw [hq', hr'] at this
                    exact this
                  have hlt : q' < q := by omega
                  clear dw hq' hr' hpos
                  go_wp2_with fail
                  go_roundw
                  case rel => exact ⟨q', r', rfl, rfl, NX.out, by first | rfl | trivial⟩
                  case measure => simp [intOf]; omega
              · obtain ⟨t1, t2, t3, k1, k2, k3, kt1, kt3⟩ := test_word HP2.out HI.out (by omega)
                by_cases cc : (t3 : Int) < t1
                · have cc' : 4294967296 * r + d0 < q * y0 := by omega
                  have CC := Lib.hid cc'
                  clear cc' kt1 kt3
                  have dw := dec_word HP2.out HI.out (DInv.dec HP2.out HI.out (.inr CC.out)).1
                  obtain ⟨q', hq'⟩ : ∃ q', q - 1 = q' := ⟨_, rfl⟩
                  obtain ⟨r', hr'⟩ : ∃ r', r + y1 = r' := ⟨_, rfl⟩
                  rw [hq', hr'] at dw
                  have e1 := dw.1
                  have e2 := dw.2
                  have hpos := (DInv.dec HP2.out HI.out (.inr CC.out)).1
                  by_cases cb : (4294967296 : Int) ≤ r'
                  · have hQ : q' = (v * 4294967296 + d0) / (y1 * 4294967296 + y0) := by rw [← hq']; exact DInv.break HP2.out HI.out (.inr CC.out) (by omega)
                    clear dw hq' hr' hpos
                    rw [← EY2.out] at hQ
                    obtain ⟨t8, t9, tA, R, o1, o2, o3, o4, eR⟩ := rem_word HYB.out (Nat.lt_of_le_of_lt (Nat.zero_le _) HUY.out) q' hQ
                    have td := TD.out qa v q' R HQ1.out EV.out hQ eR
                    obtain ⟨t7, u1, u2⟩ := QF.out qa q' td.1
                    have u3 : (R : Int) / 2 ^ s = rm := by rw [← HRM.out, ← td.2, Int.natCast_ediv, Int.natCast_pow]; rfl
                    rw [HQT.out] at u2
                    clear hQ eR td HI
                    go_wp2
                    go_ret2
                    exact ⟨rfl, Mod.refl _ _⟩
                  · have NX : Hid (DInv v d0 y1 y0 q' r') := by
                      have := DInv.next HP2.out HI.out (.inr CC.out) (by omega)
                      rw [hq', hr'] at this
                      exact this
                    have hlt : q' < q := by omega
                    clear dw hq' hr' hpos
                    go_wp2_with fail
                    go_roundw
                    case rel => exact ⟨q', r', rfl, rfl, NX.out, by first | rfl | trivial⟩
                    case measure => simp [intOf]; omega
                · have hQ : q = (v * 4294967296 + d0) / (y1 * 4294967296 + y0) := DInv.done HP2.out HI.out (by omega)
                  clear kt1 kt3
                  rw [← EY2.out] at hQ
                  obtain ⟨t8, t9, tA, R, o1, o2, o3, o4, eR⟩ := rem_word HYB.out (Nat.lt_of_le_of_lt (Nat.zero_le _) HUY.out) q hQ
                  have td := TD.out qa v q R HQ1.out EV.out hQ eR
                  obtain ⟨t7, u1, u2⟩ := QF.out qa q td.1
                  have u3 : (R : Int) / 2 ^ s = rm := by rw [← HRM.out, ← td.2, Int.natCast_ediv, Int.natCast_pow]; rfl
                  rw [HQT.out] at u2
                  clear hQ eR td HI
                  go_wp2
                  go_ret2
                  exact ⟨rfl, Mod.refl _ _⟩
          · have NX : Hid (DInv u d1 y1 y0 q' r') := by
              have := DInv.next HP.out HI.out (.inr CC.out) (by omega)
              rw [hq', hr'] at this
              exact this
            have hlt : q' < q := by omega
            clear dw hq' hr' hpos
            go_wp2_with fail
            go_roundw
            case rel => exact ⟨q', r', rfl, rfl, NX.out, by first | rfl | trivial⟩
            case measure => simp [intOf]; omega
        · have hQ : q = (u * 4294967296 + d1) / (y1 * 4294967296 + y0) := DInv.done HP.out HI.out (by omega)
          clear kt1 kt3
          rw [← EY2.out] at hQ
          obtain ⟨t4, t5, t6, v, m1, m2, m3, m4, ev⟩ := rem_word HYB.out (Nat.lt_of_le_of_lt (Nat.zero_le _) HUY.out) q hQ
          have hvY : v < Y := by rw [ev]; exact Nat.mod_lt _ (Nat.lt_of_le_of_lt (Nat.zero_le _) HUY.out)
          have HP2 : Hid (DPre v d0 y1 y0) := ⟨HP.out.a, HP.out.b, HP.out.c, HD0.out, by rw [← EY2.out]; exact hvY⟩
          obtain ⟨q2, p2, r2, n1, n2, n3, eq2, er2⟩ := quo_word (Nat.lt_trans hvY HYB.out) H1Y.out
          have I2 : Hid (DInv v d0 y1 y0 q2 r2) := by have := DInv.start HP2.out; rw [← eq2, ← er2] at this; exact this
          have HQ1 := Lib.hid hQ
          have EV := Lib.hid ev
          clear hQ ev hvY eq2 er2
          obtain ⟨qa, hqa⟩ : ∃ qa, qa = q := ⟨_, rfl⟩
          go_wp2_with fail
          go_loopw [18, 16] (fun v18 v16 wq => ∃ q r : Nat, v18 = .int .u64 q ∧ v16 = .int .u64 r ∧ Hid (DInv v d0 y1 y0 q r) ∧ wq = wr) (fun v18 _ _ => (intOf v18).toNat)
          case atStart => exact ⟨q2, r2, rfl, rfl, I2.out, by first | rfl | trivial⟩
          case round =>
            rw [← hqa] at HQ1
            subst hqa
            clear n1 n2 n3 I2 HI
            obtain ⟨q, r, rfl, rfl, HI, rfl⟩ := hrel
            by_cases ca : (4294967296 : Int) ≤ q
            · have dw := dec_word HP2.out HI.out (DInv.dec HP2.out HI.out (.inl (by omega))).1
              obtain ⟨q', hq'⟩ : ∃ q', q - 1 = q' := ⟨_, rfl⟩
              obtain ⟨r', hr'⟩ : ∃ r', r + y1 = r' := ⟨_, rfl⟩
              rw [hq', hr'] at dw
              have e1 := dw.1
              have e2 := dw.2
              have hpos := (DInv.dec HP2.out HI.out (.inl (by omega))).1
              by_cases cb : (4294967296 : Int) ≤ r'
              · have hQ : q' = (v * 4294967296 + d0) / (y1 * 4294967296 + y0) := by rw [← hq']; exact DInv.break HP2.out HI.out (.inl (by omega)) (by omega)
                clear dw hq' hr' hpos
                rw [← EY2.out] at hQ
                obtain ⟨t8, t9, tA, R, o1, o2, o3, o4, eR⟩ := rem_word HYB.out (Nat.lt_of_le_of_lt (Nat.zero_le _) HUY.out) q' hQ
                have td := TD.out qa v q' R HQ1.out EV.out hQ eR
                obtain ⟨t7, u1, u2⟩ := QF.out qa q' td.1
                have u3 : (R : Int) / 2 ^ s = rm := by rw [← HRM.out, ← td.2, Int.natCast_ediv, Int.natCast_pow]; rfl
                rw [HQT.out] at u2
                clear hQ eR td HI
                go_wp2
                go_ret2
                exact ⟨rfl, Mod.refl _ _⟩
              · have NX : Hid (DInv v d0 y1 y0 q' r') := by
                  have := DInv.next HP2.out HI.out (.inl (by omega)) (by omega)
                  rw [hq', hr'] at this
                  exact this
                have hlt : q' < q := by omega
                clear dw hq' hr' hpos
                go_wp2_with fail
                go_roundw
                case rel => exact ⟨q', r', rfl, rfl, NX.out, by first | rfl | trivial⟩
                case measure => simp [intOf]; omega
            · obtain ⟨t1, t2, t3, k1, k2, k3, kt1, kt3⟩ := test_word HP2.out HI.out (by omega)
              by_cases cc : (t3 : Int) < t1
              · have cc' : 4294967296 * r + d0 < q * y0 := by omega
                have CC := Lib.hid cc'
                clear cc' kt1 kt3
                have dw := dec_word HP2.out HI.out (DInv.dec HP2.out HI.out (.inr CC.out)).1
                obtain ⟨q', hq'⟩ : ∃ q', q - 1 = q' := ⟨_, rfl⟩
                obtain ⟨r', hr'⟩ : ∃ r', r + y1 = r' := ⟨_, rfl⟩
                rw [hq', hr'] at dw
                have e1 := dw.1
                have e2 := dw.2
                have hpos := (DInv.dec HP2.out HI.out (.inr CC.out)).1
                by_cases cb : (4294967296 : Int) ≤ r'
                · have hQ : q' = (v * 4294967296 + d0) / (y1 * 4294967296 + y0) := by rw [← hq']; exact DInv.break HP2.out HI.out (.inr CC.out) (by omega)
                  clear dw hq' hr' hpos
                  rw [← EY2.out] at hQ
                  obtain ⟨t8, t9, tA, R, o1, o2, o3, o4, eR⟩ := rem_word HYB.out (Nat.lt_of_le_of_lt (Nat.zero_le _) HUY.out) q' hQ
                  have td := TD.out qa v q' R HQ1.out EV.out hQ eR
                  obtain ⟨t7, u1, u2⟩ := QF.out qa q' td.1
                  have u3 : (R : Int) / 2 ^ s = rm := by rw [← HRM.out, ← td.2, Int.natCast_ediv, Int.natCast_pow]; rfl
                  rw [HQT.out] at u2
                  clear hQ eR td HI
                  go_wp2
                  go_ret2
                  exact ⟨rfl, Mod.refl _ _⟩
                · have NX : Hid (DInv v d0 y1 y0 q' r') := by
                    have := DInv.next HP2.out HI.out (.inr CC.out) (by omega)
                    rw [hq', hr'] at this
                    exact this
                  have hlt : q' < q := by omega
                  clear dw hq' hr' hpos
                  go_wp2_with fail
                  go_roundw
                  case rel => exact ⟨q', r', rfl, rfl, NX.out, by first | rfl | trivial⟩
                  case measure => simp [intOf]; omega
              · have hQ : q = (v * 4294967296 + d0) / (y1 * 4294967296 + y0) := DInv.done HP2.out HI.out (by omega)
                clear kt1 kt3
                rw [← EY2.out] at hQ
                obtain ⟨t8, t9, tA, R, o1, o2, o3, o4, eR⟩ := rem_word HYB.out (Nat.lt_of_le_of_lt (Nat.zero_le _) HUY.out) q hQ
                have td := TD.out qa v q R HQ1.out EV.out hQ eR
                obtain ⟨t7, u1, u2⟩ := QF.out qa q td.1
                have u3 : (R : Int) / 2 ^ s = rm := by rw [← HRM.out, ← td.2, Int.natCast_ediv, Int.natCast_pow]; rfl
                rw [HQT.out] at u2
                clear hQ eR td HI
                go_wp2
                go_ret2
                exact ⟨rfl, Mod.refl _ _⟩
end Go.Proofs.YtkldjllnnbablaaDoor

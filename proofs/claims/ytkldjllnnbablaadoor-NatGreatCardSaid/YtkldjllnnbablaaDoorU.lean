/- The law NatDivides: its walk. -/
import Derived.Test.YtkldjllnnbablaaDoorT
import Derived.Test.YtkldjllnnbablaaDoorArgs
set_option linter.unusedVariables false
set_option linter.unusedSimpArgs false
namespace Go.Proofs.YtkldjllnnbablaaDoor
open Go.RowKit Go.Shelf

def blocksOf : Option Addr → List Nat
  | some p => [p.block]
  | none => []
/-- Words that came in. -/
theorem intRow_nv {w : World} {a : Option Addr} {len cap : Nat} {z : Nat → Int} (h : IntRow .u64 w a len cap z) : ∃ l F, Nv w (.slice a len cap) l F ∧ l.length = len := by
  have hw : ∀ i, i < len → 0 ≤ z i ∧ z i < 18446744073709551616 := fun i hi => by
    obtain ⟨b, off, _, _, _, hwf⟩ := h.2 i hi
    have hh : (Lit.int .u64 (z i)).wf = true := hwf
    simp [Lit.wf, IntKind.min, IntKind.max, IntKind.signed, IntKind.bits] at hh
    omega
  refine ⟨(List.range len).map fun i => (z i).toNat, blocksOf a, ⟨⟨a, cap, by simp, by simpa using h.1, fun h0 => ?_⟩, fun x hx => ?_⟩, by simp⟩
  · simp at h0
    obtain ⟨b, off, ha, _, _, _⟩ := h.2 0 h0
    refine ⟨b, off, ha, by rw [ha]; simp [blocksOf], fun i c hi => ?_⟩
    rw [List.getElem?_map, List.getElem?_map] at hi
    by_cases q : i < len
    · rw [List.getElem?_range q] at hi
      simp at hi
      subst hi
      obtain ⟨b', off', ha', _, hc, _⟩ := h.2 i q
      rw [ha] at ha'
      simp at ha'
      obtain ⟨rfl, rfl⟩ := ha'
      rw [hc]
      unfold e6
      congr 2
      have := hw i q
      omega
    · rw [List.getElem?_eq_none (by simp; omega)] at hi
      simp at hi
  · obtain ⟨i, hi, rfl⟩ := List.mem_map.1 hx
    have := hw i (by simpa using hi)
    unfold B64
    omega
theorem small_lim {l : List Nat} (h : ∀ x ∈ l, x < B64) (hl : l.length ≤ 8) : vl B64 l < B64 ^ 8 ∧ vl B64 l < lim := by
  have h1 := Nat.lt_of_lt_of_le (vl_lt h) (Nat.pow_le_pow_right (by unfold B64; omega) hl)
  exact ⟨h1, Nat.lt_of_lt_of_le h1 (Nat.pow_le_pow_right (by unfold B64; omega) (by omega))⟩
theorem take_can {l : List Nat} {n k : Nat} (h : Can B64 l n) (hk : k ≤ l.length) (h2 : Can B64 (l.take k) n) : k = l.length := by
  have := congrArg List.length (Can.uniq one_lt_B h2 h)
  rw [List.length_take] at this
  omega

set_option maxRecDepth 100000 in
set_option maxHeartbeats 8000000 in
theorem natDivides_main (w : World) (a : Option Addr) (len cap : Nat) (l F : List Nat) (h : Nv w (.slice a len cap) l F) (hl : l.length = len) (m : Nat) (hm : m < B64) :
    Calls Tryd.prog 3 #[.slice a len cap, .int .u64 m] w fun e w' => e = .returned (.bool true) ∧ Mod [] w w' := by
  have AL := Lib.hid alive_c
  have LG := Lib.hid (long_c a len cap)
  have H := Lib.hid h
  have HL := Lib.hid hl
  have HMB := Lib.hid hm
  clear h hl hm
  by_cases h8 : 8 < len
  · rw [decide_eq_true h8] at LG
    go_enter Tryd.func3, Tryd.ntmps3
    go_wp2_with fail
    refine (AL.out _).mono ?_
    rintro e w1 ⟨rfl, hm1⟩
    have HM1 := Lib.hid hm1
    clear hm1
    go_wp2_with fail
    refine (LG.out _).mono ?_
    rintro e w2 ⟨rfl, rfl⟩
    go_wp2
    go_ret
    exact ⟨rfl, HM1.out⟩
  · rw [decide_eq_false h8] at LG
    have SM := Lib.hid (small_lim H.out.2 (by rw [HL.out]; omega))
    have DV := Lib.hid (fun w1 (hm : Mod [] w w1) => div_c (H.out.mod hm (by simp)) (by rw [HL.out]; omega) m HMB.out)
    have DA := Lib.hid (fun w1 (hm : Mod [] w w1) => digits_c (H.out.mod hm (by simp)) (by rw [HL.out]; omega))
    obtain ⟨x, hx⟩ : ∃ x, vl B64 l = x := ⟨_, rfl⟩
    rw [hx] at SM DV DA
    clear hx
    go_enter Tryd.func3, Tryd.ntmps3
    go_wp2_with fail
    refine (AL.out _).mono ?_
    rintro e w1 ⟨rfl, hm1⟩
    have HM1 := Lib.hid hm1
    clear hm1
    go_wp2_with fail
    refine (LG.out _).mono ?_
    rintro e w2 ⟨rfl, rfl⟩
    go_wp2_with fail
    refine (DV.out _ HM1.out).mono ?_
    rintro e w3 (⟨h0, -, vq, rfl, hnn⟩ | ⟨h0, rfl, hm3⟩)
    · have HM3 := Lib.hid hnn.mod
      obtain ⟨lq, Fq, hcq, hnq, -⟩ := hnn.nv
      have HCQ := Lib.hid hcq
      have HNQ := Lib.hid hnq
      obtain ⟨Aq, capq, rfl, -⟩ := hnq.1.shape
      rw [List.length_map] at HNQ ⊢
      have hz : ((m : Int) == 0) = false := by rw [beq_eq_false_iff_ne]; omega
      have hrm : x % m < m := Nat.mod_lt _ h0
      have HX := Lib.hid (show x / m * m + x % m = x by rw [Nat.mul_comm]; exact Nat.div_add_mod x m)
      have HQL := Lib.hid (show x / m < B64 ^ 8 from Nat.lt_of_le_of_lt (Nat.div_le_self _ _) SM.out.1)
      have HQM := Lib.hid (show x / m * m < B64 ^ 8 from Nat.lt_of_le_of_lt (Nat.div_mul_le_self _ _) SM.out.1)
      have HLQ := Lib.hid ((hcq.fits one_lt_B 8).2 HQL.out)
      have HRB := Lib.hid (Nat.lt_trans hrm HMB.out)
      obtain ⟨r, hr⟩ : ∃ r, x % m = r := ⟨_, rfl⟩
      obtain ⟨q, hq⟩ : ∃ q, x / m = q := ⟨_, rfl⟩
      rw [hr] at HX HRB hrm ⊢
      rw [hq] at HX HCQ HQL HQM
      have hrI : (r : Int) < m := by omega
      obtain ⟨nq, hnq2⟩ : ∃ n, lq.length = n := ⟨_, rfl⟩
      rw [hnq2] at HNQ ⊢
      have HNQL := Lib.hid hnq2
      have DQ := Lib.hid (digits_c HNQ.out (by have := HLQ.out; omega))
      rw [HCQ.out.val] at DQ
      clear hnn hcq hnq hr hq hnq2 hrm
      go_wp2_with fail
      refine DQ.out.mono ?_
      rintro e w4 ⟨v4, rfl, hd4⟩
      have D4 := Lib.hid hd4
      clear hd4 DQ
      go_wp2_with fail
      refine (digits_c (nv_lit w4 [m] _ rfl (by simp) (by simpa using HMB.out)) (by simp)).mono ?_
      rintro e w5 ⟨v5, rfl, hd5⟩
      have D5 := Lib.hid hd5
      have M5 := Lib.hid (Mod.trans (S := []) ((Mod.refl [] w4).alloc _) hd5.1 (by simp))
      obtain ⟨-, d4, F4, e4, -⟩ := D4.out
      obtain ⟨-, d5, F5, e5', -⟩ := D5.out
      have l4 := dig_len (m := 8) e4.2 HQL.out
      have l5 := dig_len (m := 1) e5'.2 (by simpa [vl] using HMB.out)
      have MC := Lib.hid (refMul_c (e4.mod M5.out (by simp)) e5' (by omega) (by omega))
      have M04 := Lib.hid ((HM1.out.trans HM3.out (by simp)).trans (D4.out.1.trans M5.out (by simp)) (by simp))
      rw [show vl B64 [m] = m by simp [vl]] at MC
      clear hd5 e4 e5' l4 l5
      go_wp2_with fail
      refine MC.out.mono ?_
      rintro e w6 ⟨v6, rfl, hd6⟩
      have D6 := Lib.hid hd6
      clear hd6 MC
      go_wp2_with fail
      refine (digits_c (nv_lit w6 [r] _ rfl (by simp) (by simpa using HRB.out)) (by simp)).mono ?_
      rintro e w7 ⟨v7, rfl, hd7⟩
      have D7 := Lib.hid hd7
      have M7 := Lib.hid (Mod.trans (S := []) ((Mod.refl [] w6).alloc _) hd7.1 (by simp))
      obtain ⟨-, d6, F6, e6', -⟩ := D6.out
      obtain ⟨-, d7, F7, e7, -⟩ := D7.out
      have l6 := dig_len (m := 8) e6'.2 HQM.out
      have l7 := dig_len (m := 1) e7.2 (by simpa [vl] using HRB.out)
      have AC := Lib.hid (refAdd_c (e6'.mod M7.out (by simp)) e7 (by omega) (by omega))
      have M07 := Lib.hid (M04.out.trans (D6.out.1.trans M7.out (by simp)) (by simp))
      rw [show vl B64 [r] = r by simp [vl], HX.out] at AC
      clear hd7 e6' e7 l6 l7
      go_wp2_with fail
      refine AC.out.mono ?_
      rintro e w8 ⟨v8, rfl, hd8⟩
      have D8 := Lib.hid hd8
      have M08 := Lib.hid (M07.out.trans hd8.1 (by simp))
      have WC := Lib.hid (words_c (HNQ.out.mod (S := []) ((D4.out.1.trans M5.out (by simp)).trans ((D6.out.1.trans M7.out (by simp)).trans hd8.1 (by simp)) (by simp)) (by simp)) (by have := HLQ.out; omega))
      rw [HNQL.out] at WC
      clear hd8 AC
      go_wp2_with fail
      refine WC.out.mono ?_
      rintro e w9 ⟨hw, k, hk, rfl, hck⟩
      subst hw
      rw [HCQ.out.val] at hck
      obtain rfl : k = nq := (take_can HCQ.out (by rw [HNQL.out]; exact hk) hck).trans HNQL.out
      clear hk hck WC
      go_wp2_with fail
      refine (DA.out _ M08.out).mono ?_
      rintro e w10 ⟨v10, rfl, hd10⟩
      obtain ⟨-, d8, F8, e8, -⟩ := D8.out
      obtain ⟨hm10, d10, F10, e10, -⟩ := hd10
      have l8 := dig_len (m := 8) e8.2 SM.out.1
      have l10 := dig_len (m := 8) e10.2 SM.out.1
      have SC := Lib.hid (same_c (e8.mod hm10 (by simp)) e10 (by omega) (by omega))
      rw [decide_eq_true rfl] at SC
      have M10 := Lib.hid (M08.out.trans hm10 (by simp))
      clear e8 e10 l8 l10 hm10
      go_wp2_with fail
      refine SC.out.mono ?_
      rintro e w11 ⟨rfl, hm11⟩
      have M11 := Lib.hid (M10.out.trans hm11 (by simp))
      clear hm11
      go_wp2
      go_ret
      exact ⟨rfl, M11.out⟩
    · have M3 := Lib.hid (HM1.out.trans hm3 (by simp))
      have hm0 : m = 0 := by
        rcases h0 with h | h
        · exact h
        · exact absurd SM.out.2 h
      have hz : ((m : Int) == 0) = true := by rw [beq_iff_eq]; omega
      clear hm3 h0 hm0
      go_wp2
      go_ret
      exact ⟨rfl, M3.out⟩
theorem natDivides_walk (w : World) (a0 : Option Addr) (len cap : Nat) (z : Nat → Int) (hw : IntRow .u64 w a0 len cap z) (n : Int) (wn : (Lit.int .u64 n).wf = true) :
    Calls Tryd.prog 3 #[.slice a0 len cap, .int .u64 n] w fun e w' => e = .returned (.bool true) ∧ Mod [] w w' := by
  obtain ⟨l, F, hn, hl⟩ := intRow_nv hw
  obtain ⟨h0, h1⟩ := bounds_u64 wn
  obtain ⟨m, rfl⟩ := Int.eq_ofNat_of_zero_le h0
  exact natDivides_main w a0 len cap l F hn hl m (by unfold B64; omega)
end Go.Proofs.YtkldjllnnbablaaDoor

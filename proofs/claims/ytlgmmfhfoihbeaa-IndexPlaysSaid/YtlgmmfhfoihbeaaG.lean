/- The laws alive, IndexNil, IndexMany. -/
import Derived.Test.YtlgmmfhfoihbeaaQO
import Derived.Test.YtlgmmfhfoihbeaaQF
set_option linter.unusedVariables false
set_option linter.unusedSimpArgs false
namespace Go.Proofs.Ytlgmmfhfoihbeaa
open Go.RowKit

set_option maxHeartbeats 1000000 in
theorem alive_c (w : World) : Calls Try.prog 6 #[] w fun e w' => e = .returned (.bool true) ∧ Mod [] w w' := by
  go_enter Try.func6, Try.ntmps6
  go_wp2_with fail
  refine (O.own_new [] (Mod.refl [] w) (by simp)).mono ?_
  rintro e w1 ⟨rfl, H1, -⟩
  have X1 := Lib.hid H1
  clear H1
  generalize w.heap.size + 1 = b at *
  go_wp2_with fail
  refine (O.own_put_new X1.out (by omega) 9 5 (by omega) (by omega) (by simp) (R' := fun k id => k = 9 ∧ id = 5) (by simp)).mono ?_
  rintro e w2 ⟨rfl, H2, -⟩
  have X2 := Lib.hid H2
  clear H2 X1
  go_wp2_with fail
  refine (O.own_put_old X2.out (by omega) 9 6 (by omega) (by omega) (old := 5) (by simp) (R' := fun k id => k = 9 ∧ id = 6) (by intro k id; constructor <;> intro h <;> omega)).mono ?_
  rintro e w3 ⟨rfl, H3, -⟩
  have X3 := Lib.hid H3
  clear H3 X2
  go_wp2_with (go_at_call 9; refine (O.own_len X3.out).mono ?_; rintro e w' ⟨rfl, rfl⟩)
  go_ret
  exact ⟨rfl, X3.out.mod⟩

theorem indexNil_c (k id : Nat) (w : World) : Calls Try.prog 5 #[.int .u32 k, .int .u32 id] w fun e w' => e = .returned (.bool true) ∧ Mod [] w w' := by
  go_enter Try.func5, Try.ntmps5
  go_wp2_with fail
  refine (alive_c w).mono ?_
  rintro e w1 ⟨rfl, M1⟩
  have Z1 := Lib.hid M1
  clear M1
  go_wp2_with (first | (go_at_call 8; refine (O.put_nil k id _).mono ?_; rintro e w' ⟨rfl, rfl⟩) | (go_at_call 11; refine (O.get_nil k _).mono ?_; rintro e w' ⟨rfl, rfl⟩) | (go_at_call 19; refine (O.clear_nil _).mono ?_; rintro e w' ⟨rfl, rfl⟩) | (go_at_call 10; refine (O.drop_nil k _).mono ?_; rintro e w' ⟨rfl, rfl⟩) | (go_at_call 9; refine (O.len_nil _).mono ?_; rintro e w' ⟨rfl, rfl⟩))
  go_ret
  exact ⟨rfl, Z1.out⟩

theorem indexNil_walk (w : World) (k : Int) (wk : (Lit.int .u32 k).wf = true) (id : Int) (wi : (Lit.int .u32 id).wf = true) : Calls Try.prog 5 #[.int .u32 k, .int .u32 id] w fun e w' => e = .returned (.bool true) ∧ Mod [] w w' := by
  obtain ⟨k0, k1⟩ := bounds_u32 wk
  obtain ⟨i0, i1⟩ := bounds_u32 wi
  obtain ⟨k, rfl⟩ := Int.eq_ofNat_of_zero_le k0
  obtain ⟨id, rfl⟩ := Int.eq_ofNat_of_zero_le i0
  exact indexNil_c k id w

/-- The keys 0, t, 2t .. with the numbers 0, 1, 2 .. -/
def R1 (t i : Nat) : Nat → Nat → Prop := fun k id => ∃ l, l < i ∧ k = l * t ∧ id = l
/-- Each second one is dropped, as far as q. -/
def R2 (t i q : Nat) : Nat → Nat → Prop := fun k id => ∃ l, l < i ∧ k = l * t ∧ id = l ∧ (l % 2 = 1 ∨ 2 * q ≤ l)
theorem R1_none {t i : Nat} (ht : 0 < t) : ∀ old, ¬ R1 t i (i * t) old := by
  rintro old ⟨l, hl, he, _⟩
  have := Nat.eq_of_mul_eq_mul_right ht he
  omega
theorem R1_succ {t i : Nat} (ht : 0 < t) : ∀ k' id', R1 t (i + 1) k' id' ↔ (k' = i * t ∧ id' = i) ∨ (k' ≠ i * t ∧ R1 t i k' id') := by
  intro k' id'
  constructor
  · rintro ⟨l, hl, rfl, rfl⟩
    by_cases e : id' = i
    · subst e; exact .inl ⟨rfl, rfl⟩
    · exact .inr ⟨fun h => e (Nat.eq_of_mul_eq_mul_right ht h), id', by omega, rfl, rfl⟩
  · rintro (⟨rfl, rfl⟩ | ⟨_, l, hl, rfl, rfl⟩)
    · exact ⟨id', by omega, rfl, rfl⟩
    · exact ⟨id', by omega, rfl, rfl⟩
theorem R2_in {t i q : Nat} (h : 2 * q < i) : R2 t i q (2 * q * t) (2 * q) := ⟨2 * q, h, rfl, rfl, .inr (Nat.le_refl _)⟩
theorem R2_succ {t i q : Nat} (ht : 0 < t) (h : 2 * q < i) : ∀ k' id', R2 t i (q + 1) k' id' ↔ k' ≠ 2 * q * t ∧ R2 t i q k' id' := by
  intro k' id'
  constructor
  · rintro ⟨l, hl, rfl, rfl, ho⟩
    exact ⟨fun h => by have := Nat.eq_of_mul_eq_mul_right ht h; omega, id', hl, rfl, rfl, by omega⟩
  · rintro ⟨hk, l, hl, rfl, rfl, ho⟩
    have : id' ≠ 2 * q := fun e => hk (by rw [e])
    exact ⟨id', hl, rfl, rfl, by omega⟩

/-- The odd ones. -/
def R3 (t i : Nat) : Nat → Nat → Prop := fun k id => ∃ l, l < i ∧ k = l * t ∧ id = l ∧ l % 2 = 1
theorem R3_of {t i q : Nat} (h : i ≤ 2 * q) : ∀ k id, R3 t i k id ↔ R2 t i q k id := by
  intro k id
  constructor
  · rintro ⟨l, hl, rfl, rfl, ho⟩; exact ⟨id, hl, rfl, rfl, .inl ho⟩
  · rintro ⟨l, hl, rfl, rfl, ho⟩; exact ⟨id, hl, rfl, rfl, by omega⟩
theorem R3_none {t i m : Nat} (ht : 0 < t) (hm : ¬ m % 2 = 1) : ∀ id, ¬ R3 t i (m * t) id := by
  rintro id ⟨l, hl, he, rfl, ho⟩
  have := Nat.eq_of_mul_eq_mul_right ht he
  omega

set_option maxRecDepth 100000 in
set_option maxHeartbeats 2000000 in
theorem indexMany_walk (w : World) (n : Int) (wn : (Lit.int .u16 n).wf = true) (by_ : Int) (wb : (Lit.int .u8 by_).wf = true) : Calls Try.prog 3 #[.int .u16 n, .int .u8 by_] w fun e w' => e = .returned (.bool true) ∧ Mod [] w w' := by
  obtain ⟨n0, n1⟩ := bounds_u16 wn
  obtain ⟨b0, b1⟩ := bounds_u8 wb
  obtain ⟨n, rfl⟩ := Int.eq_ofNat_of_zero_le n0
  obtain ⟨s, rfl⟩ := Int.eq_ofNat_of_zero_le b0
  clear wn wb n0 b0
  go_enter Try.func3, Try.ntmps3
  go_wp2_with fail
  refine (alive_c w).mono ?_
  rintro e w1 ⟨rfl, M1⟩
  have Z1 := Lib.hid M1
  clear M1
  go_wp2_with fail
  refine (O.own_new [] Z1.out (by simp)).mono ?_
  rintro e w2 ⟨rfl, H2, -⟩
  have X2 := Lib.hid H2
  clear H2
  generalize w1.heap.size + 1 = b at *
  go_wp2_with fail
  have eK : ((n : Int) % 2000) = ((n % 2000 : Nat) : Int) := rfl
  have hK : n % 2000 < 2000 := Nat.mod_lt _ (by omega)
  rw [eK]
  clear eK n1
  generalize n % 2000 = K at *
  have es : ((s : Int) + 1) = ((s + 1 : Nat) : Int) := rfl
  rw [es]
  have hs : s + 1 ≤ 256 := by omega
  have hs0 : 0 < s + 1 := by omega
  clear es b1
  generalize s + 1 = t at *
  go_loopw [8] (fun v wr => ∃ i : Nat, v = .int .i64 i ∧ i ≤ K ∧ O.Own [] w wr b (R1 t i) i i) (fun v _ => K - (intOf v).toNat)
  case atStart => exact ⟨0, rfl, Nat.zero_le _, X2.out.congr (by simp [R1])⟩
  case round =>
    obtain ⟨i, rfl, hi, ho⟩ := hrel
    have X3 := Lib.hid ho
    clear ho X2
    by_cases hlt : i < K
    · have hm : i * t ≤ 512000 := by
        have := Nat.mul_le_mul (show i ≤ 2000 by omega) hs
        omega
      have hm1 : (i : Int) * (t : Int) ≤ 512000 := by
        have := Int.ofNat_le.2 hm
        simpa using this
      have hm0 : 0 ≤ (i : Int) * (t : Int) := Int.mul_nonneg (by omega) (by omega)
      go_wp2_with fail
      have em : ((i : Int) * (t : Int)) = ((i * t : Nat) : Int) := by simp
      rw [em]
      refine (O.own_put_new X3.out (by omega) (i * t) i (by omega) (by omega) (R1_none hs0) (R1_succ hs0)).mono ?_
      rintro e w3 ⟨rfl, H3, -⟩
      have X4 := Lib.hid H3
      clear H3 X3 em hm1 hm0
      go_wp2
      go_roundw
      case rel => exact ⟨i + 1, rfl, hlt, X4.out⟩
      case measure => simp [intOf]; omega
    obtain rfl : i = K := by omega
    go_wp2_with (go_at_call 9; refine (O.own_len X3.out).mono ?_; rintro e w' ⟨rfl, rfl⟩)
    go_loopw [9] (fun v wr => ∃ q : Nat, v = .int .i64 ((2 * q : Nat) : Int) ∧ 2 * q ≤ i + 1 ∧ O.Own [] w wr b (R2 t i q) (i - q) i) (fun v _ => i + 1 - (intOf v).toNat)
    case atStart => exact ⟨0, rfl, by omega, X3.out.congr (by simp [R1, R2])⟩
    case round =>
      obtain ⟨q, rfl, hq, ho⟩ := hrel
      have X4 := Lib.hid ho
      clear ho X3
      by_cases hlt2 : 2 * q < i
      · have hm : 2 * q * t ≤ 512000 := by
          have := Nat.mul_le_mul (show 2 * q ≤ 2000 by omega) hs
          omega
        have hR := R2_in (t := t) hlt2
        have hR' := Lib.hid (R2_succ hs0 hlt2)
        have e2 : (((2 * q : Nat) : Int) + 2) = ((2 * (q + 1) : Nat) : Int) := by omega
        generalize hp : 2 * q = p at *
        have hm1 : (p : Int) * (t : Int) ≤ 512000 := by
          have := Int.ofNat_le.2 hm
          simpa using this
        have hm0 : 0 ≤ (p : Int) * (t : Int) := Int.mul_nonneg (by omega) (by omega)
        go_wp2_with fail
        have em : ((p : Int) * (t : Int)) = ((p * t : Nat) : Int) := by simp
        rw [em]
        refine (O.own_drop X4.out (by omega) (p * t) (by omega) hR hR'.out).mono ?_
        rintro e w3 ⟨rfl, hc, H3, -⟩
        have X5 := Lib.hid H3
        clear H3 X4 em hm1 hm0
        have E2 := Lib.hid e2
        clear e2 hR
        go_wp2
        go_roundw
        case rel => exact ⟨q + 1, by rw [← E2.out], by omega, by rw [show i - (q + 1) = i - q - 1 by omega]; exact X5.out⟩
        case measure => simp [intOf]; omega
      · have X5 : Hid (O.Own [] w wr b (R3 t i) (i / 2) i) := by
          have h1 := X4.out.congr (R' := R3 t i) (R3_of (by omega))
          have h2 : i - q = i / 2 := by omega
          rw [h2] at h1
          exact h1
        have hqi : i ≤ 2 * q := by omega
        clear X4
        generalize 2 * q = p at *
        go_wp2
        clear hq hlt2 hqi
        go_loopw [10] (fun v wr => ∃ m : Nat, v = .int .i64 m ∧ m ≤ i ∧ O.Own [] w wr b (R3 t i) (i / 2) i) (fun v _ => i - (intOf v).toNat)
        case atStart => exact ⟨0, rfl, by omega, X5.out⟩
        case round =>
          obtain ⟨m, rfl, hm', ho⟩ := hrel
          have X6 := Lib.hid ho
          clear ho X5
          by_cases hlt3 : m < i
          · have hm : m * t ≤ 512000 := by
              have := Nat.mul_le_mul (show m ≤ 2000 by omega) hs
              omega
            have hm1 : (m : Int) * (t : Int) ≤ 512000 := by
              have := Int.ofNat_le.2 hm
              simpa using this
            have hm0 : 0 ≤ (m : Int) * (t : Int) := Int.mul_nonneg (by omega) (by omega)
            by_cases hodd : m % 2 = 1
            · have ho : ((m : Int) % 2) = 1 := by omega
              have hR : Hid (R3 t i (m * t) m) := ⟨m, hlt3, rfl, rfl, hodd⟩
              clear hodd
              go_wp2_with fail
              have em : ((m : Int) * (t : Int)) = ((m * t : Nat) : Int) := by simp
              rw [em]
              refine (O.own_get X6.out (by omega) (m * t) (by omega) hR.out).mono ?_
              rintro e w3 ⟨rfl, H3, -⟩
              have X7 := Lib.hid H3
              clear H3 X6 em hm1 hm0
              go_wp2
              go_roundw
              case rel => exact ⟨m + 1, rfl, hlt3, X7.out⟩
              case measure => simp [intOf]; omega
            · have ho : ((m : Int) % 2) = 0 := by omega
              have hR := Lib.hid (R3_none (i := i) hs0 hodd)
              clear hodd
              go_wp2_with fail
              have em : ((m : Int) * (t : Int)) = ((m * t : Nat) : Int) := by simp
              rw [em]
              refine (O.own_get_none X6.out (by omega) (m * t) (by omega) hR.out).mono ?_
              rintro e w3 ⟨rfl, H3, -⟩
              have X7 := Lib.hid H3
              clear H3 X6 em hm1 hm0
              go_wp2
              go_roundw
              case rel => exact ⟨m + 1, rfl, hlt3, X7.out⟩
              case measure => simp [intOf]; omega
          · obtain rfl : m = i := by omega
            go_wp2_with (go_at_call 9; refine (O.own_len X6.out).mono ?_; rintro e w' ⟨rfl, rfl⟩)
            go_ret
            exact ⟨by simp, X6.out.mod⟩
end Go.Proofs.Ytlgmmfhfoihbeaa

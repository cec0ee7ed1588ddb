/- Division of two words by one: the plain law of Knuth's algorithm D at two digits. No program. -/
import Derived.Test.YtkldjllnnbablaaDoorF
import Derived.Lib.BitFns
import Derived.Laws.Bits64b
set_option linter.unusedVariables false
set_option linter.unusedSimpArgs false
namespace Go.Proofs.YtkldjllnnbablaaDoor
open Go.RowKit Go.Shelf
set_option maxRecDepth 100000

theorem bitLen_bounds : ∀ (k x : Nat), x < 2 ^ k → k ≤ 64 → 0 < x → ∃ m, Go.Lib.bitLen x = m + 1 ∧ 2 ^ m ≤ x ∧ x < 2 ^ (m + 1) ∧ m < 64 := by
  intro k
  induction k with
  | zero => intro x h _ h0; simp at h; omega
  | succ k ih =>
    intro x h hk h0
    have hx : x < 2 ^ 64 := Nat.lt_of_lt_of_le h (Nat.pow_le_pow_right (by omega) hk)
    have e := Go.Lib.bitLen_half x (by omega) hx
    by_cases h1 : x = 1
    · subst h1
      exact ⟨0, by decide, by omega, by omega, by omega⟩
    · obtain ⟨m, e1, e2, e3, e4⟩ := ih (x / 2) (by rw [Nat.pow_succ] at h; omega) (by omega) (by omega)
      have hm : m + 1 < 64 := by
        rcases Nat.lt_or_ge (m + 1) 64 with q | q
        · exact q
        · have : 2 ^ 63 ≤ 2 ^ m := Nat.pow_le_pow_right (by omega) (by omega)
          omega
      refine ⟨m + 1, by omega, ?_, ?_, hm⟩
      · rw [Nat.pow_succ]; omega
      · rw [Nat.pow_succ]; omega
theorem shift_of {y : Nat} (h0 : 0 < y) (h : y < B64) : ∃ s : Nat, s ≤ 63 ∧ (64 : Int) - (Go.Lib.bitLen y : Int) = (s : Int) ∧ B64 ≤ 2 * (y * 2 ^ s) ∧ y * 2 ^ s < B64 := by
  obtain ⟨m, e1, e2, e3, e4⟩ := bitLen_bounds 64 y (by unfold B64 at h; omega) (Nat.le_refl _) h0
  refine ⟨63 - m, by omega, by omega, ?_, ?_⟩
  · have : 2 ^ m * 2 ^ (63 - m) ≤ y * 2 ^ (63 - m) := Nat.mul_le_mul_right _ e2
    rw [← Nat.pow_add, show m + (63 - m) = 63 by omega] at this
    unfold B64
    omega
  · have : y * 2 ^ (63 - m) < 2 ^ (m + 1) * 2 ^ (63 - m) := Nat.mul_lt_mul_of_pos_right e3 (Nat.pow_pos (by omega))
    rw [← Nat.pow_add, show m + 1 + (63 - m) = 64 by omega] at this
    unfold B64
    omega

/-- A digit's guess, under way: u, d by y1, y0 (halves of 32 bits). -/
structure DPre (u d y1 y0 : Nat) : Prop where
  a : y1 < 4294967296
  b : 4294967296 ≤ 2 * y1
  c : y0 < 4294967296
  d : d < 4294967296
  e : u < y1 * 4294967296 + y0
structure DInv (u d y1 y0 q r : Nat) : Prop where
  eq : q * y1 + r = u
  r : r < 4294967296
  ge : (u * 4294967296 + d) / (y1 * 4294967296 + y0) ≤ q
  le : q ≤ 4294967297
theorem dig_le {u d y1 y0 q r : Nat} (h0 : 0 < y1) (he : q * y1 + r = u) : q * y0 ≤ 4294967296 * r + d ↔ q ≤ (u * 4294967296 + d) / (y1 * 4294967296 + y0) := by
  rw [Nat.le_div_iff_mul_le (by omega), ← he, Nat.mul_add, ← Nat.mul_assoc, Nat.add_mul]
  omega
theorem DInv.start {u d y1 y0 : Nat} (h : DPre u d y1 y0) : DInv u d y1 y0 (u / y1) (u % y1) := by
  have hb := h.b
  have h0 : 0 < y1 := by omega
  have hm := Nat.div_add_mod u y1
  have hr := Nat.mod_lt u h0
  have ha := h.a
  have hc := h.c
  have hd := h.d
  have he := h.e
  refine ⟨by rw [Nat.mul_comm]; exact hm, by omega, ?_, ?_⟩
  · rw [Nat.le_div_iff_mul_le h0]
    have h1 : (u * 4294967296 + d) / (y1 * 4294967296 + y0) * (y1 * 4294967296 + y0) ≤ u * 4294967296 + d := Nat.div_mul_le_self _ _
    generalize (u * 4294967296 + d) / (y1 * 4294967296 + y0) = q at *
    rw [Nat.mul_add, ← Nat.mul_assoc] at h1
    generalize q * y1 = t at *
    generalize q * y0 = t2 at *
    omega
  · rw [← Nat.lt_succ_iff, Nat.div_lt_iff_lt_mul h0]
    omega
theorem DInv.dec {u d y1 y0 q r : Nat} (hp : DPre u d y1 y0) (h : DInv u d y1 y0 q r) (hc : 4294967296 ≤ q ∨ 4294967296 * r + d < q * y0) :
    1 ≤ q ∧ (q - 1) * y1 + (r + y1) = u ∧ (u * 4294967296 + d) / (y1 * 4294967296 + y0) ≤ q - 1 ∧ q - 1 ≤ 4294967296 := by
  have hb := hp.b
  have he := hp.e
  have hd := hp.d
  have h0 : 0 < y1 := by omega
  have h1 : 1 ≤ q := by
    rcases hc with c | c
    · omega
    · rcases Nat.eq_zero_or_pos q with z | z
      · subst z; omega
      · exact z
  have hl := h.le
  have hg := h.ge
  refine ⟨h1, ?_, ?_, by omega⟩
  · have := h.eq
    obtain ⟨p, rfl⟩ : ∃ p, q = p + 1 := ⟨q - 1, by omega⟩
    rw [Nat.add_mul] at this
    simp
    omega
  · rcases hc with c | c
    · have : (u * 4294967296 + d) / (y1 * 4294967296 + y0) < 4294967296 := by
        rw [Nat.div_lt_iff_lt_mul (by omega)]
        omega
      omega
    · have := (dig_le (d := d) (y0 := y0) h0 h.eq)
      have hn : ¬ q ≤ (u * 4294967296 + d) / (y1 * 4294967296 + y0) := fun q2 => by have := this.2 q2; omega
      omega
theorem DInv.next {u d y1 y0 q r : Nat} (hp : DPre u d y1 y0) (h : DInv u d y1 y0 q r) (hc : 4294967296 ≤ q ∨ 4294967296 * r + d < q * y0) (hr : r + y1 < 4294967296) : DInv u d y1 y0 (q - 1) (r + y1) := by
  obtain ⟨h1, h2, h3, h4⟩ := h.dec hp hc
  exact ⟨h2, hr, h3, by omega⟩
theorem DInv.break {u d y1 y0 q r : Nat} (hp : DPre u d y1 y0) (h : DInv u d y1 y0 q r) (hc : 4294967296 ≤ q ∨ 4294967296 * r + d < q * y0) (hr : 4294967296 ≤ r + y1) : q - 1 = (u * 4294967296 + d) / (y1 * 4294967296 + y0) := by
  obtain ⟨h1, h2, h3, h4⟩ := h.dec hp hc
  refine Nat.le_antisymm ((dig_le (by have := hp.b; omega) h2).1 ?_) h3
  have hc2 := hp.c
  have h5 : (q - 1) * y0 ≤ 4294967296 * 4294967296 := Nat.mul_le_mul h4 (by omega)
  omega
theorem DInv.done {u d y1 y0 q r : Nat} (hp : DPre u d y1 y0) (h : DInv u d y1 y0 q r) (hc : q * y0 ≤ 4294967296 * r + d) : q = (u * 4294967296 + d) / (y1 * 4294967296 + y0) :=
  Nat.le_antisymm ((dig_le (by have := hp.b; omega) h.eq).1 hc) h.ge

/-! The same as the machine reckons it. -/
theorem wrapN (a : Nat) : IntKind.u64.wrap (a : Int) = ((a % 18446744073709551616 : Nat) : Int) := by rw [IntKind.wrap_u64]; omega
theorem quo_word {u y1 : Nat} (hu : u < B64) (h0 : 0 < y1) : ∃ q p r : Nat, IntKind.u64.wrap ((u : Int) / (y1 : Int)) = q ∧ IntKind.u64.wrap ((q : Int) * (y1 : Int)) = p ∧ IntKind.u64.wrap ((u : Int) - (p : Int)) = r ∧ q = u / y1 ∧ r = u % y1 := by
  have hm := Nat.div_add_mod u y1
  have hd : u / y1 ≤ u := Nat.div_le_self _ _
  refine ⟨u / y1, u / y1 * y1, u % y1, ?_, ?_, ?_, rfl, rfl⟩
  · rw [← Int.natCast_ediv, wrapN, Nat.mod_eq_of_lt (by unfold B64 at hu; omega)]
  · rw [← Int.natCast_mul, wrapN, Nat.mod_eq_of_lt]
    have := Nat.div_mul_le_self u y1
    unfold B64 at hu; omega
  · rw [Nat.mul_comm] at hm
    rw [IntKind.wrap_u64]
    unfold B64 at hu
    generalize u / y1 * y1 = t at *
    omega
/-- The two products that a digit's test looks at. -/
theorem test_word {u d y1 y0 q r : Nat} (hp : DPre u d y1 y0) (h : DInv u d y1 y0 q r) (hq : q < 4294967296) : ∃ t1 t2 t3 : Nat, IntKind.u64.wrap ((q : Int) * (y0 : Int)) = t1 ∧ IntKind.u64.wrap (4294967296 * (r : Int)) = t2 ∧ IntKind.u64.wrap ((t2 : Int) + (d : Int)) = t3 ∧ t1 = q * y0 ∧ t3 = 4294967296 * r + d := by
  have hc := hp.c
  have hd := hp.d
  have hr := h.r
  have h1 : q * y0 ≤ 4294967295 * 4294967295 := Nat.mul_le_mul (by omega) (by omega)
  refine ⟨q * y0, 4294967296 * r, 4294967296 * r + d, ?_, ?_, ?_, rfl, rfl⟩
  · rw [← Int.natCast_mul, wrapN, Nat.mod_eq_of_lt (by omega)]
  · rw [IntKind.wrap_u64]; omega
  · rw [IntKind.wrap_u64]; omega
theorem dec_word {u d y1 y0 q r : Nat} (hp : DPre u d y1 y0) (h : DInv u d y1 y0 q r) (h1 : 1 ≤ q) : IntKind.u64.wrap ((q : Int) - 1) = ((q - 1 : Nat) : Int) ∧ IntKind.u64.wrap ((r : Int) + (y1 : Int)) = ((r + y1 : Nat) : Int) := by
  have hl := h.le
  have hr := h.r
  have ha := hp.a
  constructor
  · rw [IntKind.wrap_u64]; omega
  · rw [IntKind.wrap_u64]; omega
/-- What is left behind a digit. -/
theorem rem_word {u d Y : Nat} (hY : Y < B64) (h0 : 0 < Y) (q : Nat) (hq : q = (u * 4294967296 + d) / Y) : ∃ t4 t5 t6 v : Nat, IntKind.u64.wrap ((u : Int) * 4294967296) = t4 ∧ IntKind.u64.wrap ((t4 : Int) + (d : Int)) = t5 ∧ IntKind.u64.wrap ((q : Int) * (Y : Int)) = t6 ∧ IntKind.u64.wrap ((t5 : Int) - (t6 : Int)) = v ∧ v = (u * 4294967296 + d) % Y := by
  obtain ⟨v, hv⟩ : ∃ v, v = (u * 4294967296 + d) % Y := ⟨_, rfl⟩
  have hm : Y * q + v = u * 4294967296 + d := by rw [hq, hv]; exact Nat.div_add_mod _ _
  have hr : v < Y := by rw [hv]; exact Nat.mod_lt _ h0
  obtain ⟨t, ht⟩ : ∃ t, q * Y = t := ⟨_, rfl⟩
  rw [Nat.mul_comm, ht] at hm
  unfold B64 at hY
  refine ⟨u * 4294967296 % 18446744073709551616, (u * 4294967296 % 18446744073709551616 + d) % 18446744073709551616, t % 18446744073709551616, v, ?_, ?_, ?_, ?_, hv⟩
  · rw [IntKind.wrap_u64]; omega
  · rw [IntKind.wrap_u64]; omega
  · rw [← Int.natCast_mul, wrapN, ht]
  · rw [IntKind.wrap_u64]
    clear hv hq ht
    omega
/-- The operands, shifted. -/
theorem shift_word {hi lo y s : Nat} (h1 : hi < y) (h2 : lo < B64) (hs : s ≤ 63) (hB : B64 ≤ 2 * (y * 2 ^ s)) (hY : y * 2 ^ s < B64) :
    ∃ Y y1 y0 a1 a2 u L d1 d0 : Nat, IntKind.u64.wrap ((y : Int) * 2 ^ s) = Y ∧ (Y : Int) / 4294967296 = y1 ∧ bits .and .u64 (Y : Int) 4294967295 = y0 ∧
      IntKind.u64.wrap ((hi : Int) * 2 ^ s) = a1 ∧ (lo : Int) / 2 ^ (64 - s) = a2 ∧ bits .or .u64 (a1 : Int) (a2 : Int) = u ∧
      IntKind.u64.wrap ((lo : Int) * 2 ^ s) = L ∧ (L : Int) / 4294967296 = d1 ∧ bits .and .u64 (L : Int) 4294967295 = d0 ∧
      Y = y * 2 ^ s ∧ Y = y1 * 4294967296 + y0 ∧ u * 18446744073709551616 + d1 * 4294967296 + d0 = (hi * 18446744073709551616 + lo) * 2 ^ s ∧ u < Y ∧ DPre u d1 y1 y0 ∧ d0 < 4294967296 := by
  have hpos : 0 < 2 ^ s := Nat.pow_pos (by omega)
  have hpos2 : 0 < 2 ^ (64 - s) := Nat.pow_pos (by omega)
  have hpp : 2 ^ s * 2 ^ (64 - s) = 18446744073709551616 := by rw [← Nat.pow_add, show s + (64 - s) = 64 by omega]
  have hhi : hi * 2 ^ s < y * 2 ^ s := Nat.mul_lt_mul_of_pos_right h1 hpos
  have hhi1 : (hi + 1) * 2 ^ s ≤ y * 2 ^ s := Nat.mul_le_mul_right _ h1
  have ha2 : lo / 2 ^ (64 - s) < 2 ^ s := by rw [Nat.div_lt_iff_lt_mul hpos2, hpp]; exact h2
  have hlo := Nat.div_add_mod lo (2 ^ (64 - s))
  have hlm := Nat.mod_lt lo hpos2
  -- the lower word: lo's low digits, moved up
  have hL : lo * 2 ^ s % 18446744073709551616 = lo % 2 ^ (64 - s) * 2 ^ s := by rw [← hpp, Nat.mul_comm (2 ^ s), Nat.mul_mod_mul_right]
  have hsum : (hi * 2 ^ s + lo / 2 ^ (64 - s)) * 18446744073709551616 + lo % 2 ^ (64 - s) * 2 ^ s = (hi * 18446744073709551616 + lo) * 2 ^ s := by
    have e : lo * 2 ^ s = (2 ^ (64 - s) * (lo / 2 ^ (64 - s)) + lo % 2 ^ (64 - s)) * 2 ^ s := by rw [hlo]
    rw [Nat.add_mul, Nat.add_mul, e, Nat.add_mul (2 ^ (64 - s) * _), Nat.mul_right_comm (2 ^ (64 - s)), Nat.mul_comm (2 ^ (64 - s)) (2 ^ s), hpp, Nat.mul_right_comm hi, Nat.mul_comm (lo / 2 ^ (64 - s))]
    omega
  have hmask : ∀ a : Nat, a < 18446744073709551616 → bits .and .u64 (a : Int) 4294967295 = ((a % 4294967296 : Nat) : Int) := fun a ha => by
    have h := bits_and_u64_nat a 4294967295 ha (by omega)
    have e : a &&& 4294967295 = a % 4294967296 := Nat.and_two_pow_sub_one_eq_mod a 32
    rw [e] at h
    exact h
  have hor : bits .or .u64 ((hi * 2 ^ s : Nat) : Int) ((lo / 2 ^ (64 - s) : Nat) : Int) = ((hi * 2 ^ s + lo / 2 ^ (64 - s) : Nat) : Int) := by
    unfold B64 at hY h2
    have hl2 : lo / 2 ^ (64 - s) ≤ lo := Nat.div_le_self _ _
    rw [bits_or_u64_nat _ _ (by omega) (by omega), Nat.mul_comm hi, ← Nat.two_pow_add_eq_or_of_lt ha2]
  have hpow : ((2 : Int) ^ s) = ((2 ^ s : Nat) : Int) := by rw [Int.natCast_pow]; rfl
  have hpow2 : ((2 : Int) ^ (64 - s)) = ((2 ^ (64 - s) : Nat) : Int) := by rw [Int.natCast_pow]; rfl
  have hu : hi * 2 ^ s + lo / 2 ^ (64 - s) < y * 2 ^ s := by rw [Nat.add_mul] at hhi1; omega
  have hL2 : lo % 2 ^ (64 - s) * 2 ^ s < 18446744073709551616 := by
    rw [← hpp, Nat.mul_comm (2 ^ s)]
    exact Nat.mul_lt_mul_of_pos_right hlm hpos
  have hwY : IntKind.u64.wrap ((y : Int) * 2 ^ s) = ((y * 2 ^ s : Nat) : Int) := by rw [hpow, ← Int.natCast_mul, wrapN, Nat.mod_eq_of_lt (by unfold B64 at hY; exact hY)]
  have hwh : IntKind.u64.wrap ((hi : Int) * 2 ^ s) = ((hi * 2 ^ s : Nat) : Int) := by rw [hpow, ← Int.natCast_mul, wrapN, Nat.mod_eq_of_lt (by unfold B64 at hY; omega)]
  have hwl : IntKind.u64.wrap ((lo : Int) * 2 ^ s) = ((lo % 2 ^ (64 - s) * 2 ^ s : Nat) : Int) := by rw [hpow, ← Int.natCast_mul, wrapN, hL]
  have hdl : (lo : Int) / 2 ^ (64 - s) = ((lo / 2 ^ (64 - s) : Nat) : Int) := by rw [hpow2]; exact (Int.natCast_ediv _ _).symm
  have fin : ∀ u L Y : Nat, u < Y → Y < B64 → B64 ≤ 2 * Y → L < 18446744073709551616 → u * 18446744073709551616 + L = (hi * 18446744073709551616 + lo) * 2 ^ s →
      (Y : Int) / 4294967296 = ((Y / 4294967296 : Nat) : Int) ∧ (L : Int) / 4294967296 = ((L / 4294967296 : Nat) : Int) ∧ Y = Y / 4294967296 * 4294967296 + Y % 4294967296 ∧
      u * 18446744073709551616 + L / 4294967296 * 4294967296 + L % 4294967296 = (hi * 18446744073709551616 + lo) * 2 ^ s ∧ DPre u (L / 4294967296) (Y / 4294967296) (Y % 4294967296) ∧ L % 4294967296 < 4294967296 := by
    intro u L Y q1 q2 q3 q4 q5
    rw [← q5]
    unfold B64 at q2 q3
    clear q5 hsum hor hmask hpow hpow2 hu hL2 hwY hwh hwl hdl hB hY hlo hlm hL ha2 hpp hhi hhi1 hpos hpos2
    exact ⟨by omega, by omega, by omega, by omega, ⟨by omega, by omega, by omega, by omega, by omega⟩, by omega⟩
  refine ⟨y * 2 ^ s, y * 2 ^ s / 4294967296, y * 2 ^ s % 4294967296, hi * 2 ^ s, lo / 2 ^ (64 - s), hi * 2 ^ s + lo / 2 ^ (64 - s), lo % 2 ^ (64 - s) * 2 ^ s, lo % 2 ^ (64 - s) * 2 ^ s / 4294967296, lo % 2 ^ (64 - s) * 2 ^ s % 4294967296,
    hwY, ?_, hmask _ hY, hwh, hdl, hor, hwl, ?_, hmask _ hL2, rfl, ?_, ?_, hu, ?_, ?_⟩
  · exact (fin _ _ _ hu hY hB hL2 hsum).1
  · exact (fin _ _ _ hu hY hB hL2 hsum).2.1
  · exact (fin _ _ _ hu hY hB hL2 hsum).2.2.1
  · exact (fin _ _ _ hu hY hB hL2 hsum).2.2.2.1
  · exact (fin _ _ _ hu hY hB hL2 hsum).2.2.2.2.1
  · exact (fin _ _ _ hu hY hB hL2 hsum).2.2.2.2.2
/-- The two digits together. -/
theorem two_digits {hi lo y s Y u d1 d0 q1 v q0 r : Nat} (h0 : 0 < y) (hY : Y = y * 2 ^ s) (hU : u * 18446744073709551616 + d1 * 4294967296 + d0 = (hi * 18446744073709551616 + lo) * 2 ^ s)
    (hq1 : q1 = (u * 4294967296 + d1) / Y) (hv : v = (u * 4294967296 + d1) % Y) (hq0 : q0 = (v * 4294967296 + d0) / Y) (hr : r = (v * 4294967296 + d0) % Y) :
    q1 * 4294967296 + q0 = (hi * B64 + lo) / y ∧ r / 2 ^ s = (hi * B64 + lo) % y := by
  have hpos : 0 < 2 ^ s := Nat.pow_pos (by omega)
  have hYp : 0 < Y := by rw [hY]; exact Nat.mul_pos h0 hpos
  have e1 := Nat.div_add_mod (u * 4294967296 + d1) Y
  rw [← hq1, ← hv] at e1
  have e2 : (hi * B64 + lo) * 2 ^ s = (v * 4294967296 + d0) + Y * (q1 * 4294967296) := by
    unfold B64
    rw [← hU, ← Nat.mul_assoc]
    generalize Y * q1 = t at *
    omega
  have e3 : (hi * B64 + lo) / y = (hi * B64 + lo) * 2 ^ s / Y := by rw [hY, Nat.mul_div_mul_right _ _ hpos]
  have e4 : (hi * B64 + lo) % y * 2 ^ s = (hi * B64 + lo) * 2 ^ s % Y := by rw [hY, Nat.mul_mod_mul_right]
  rw [e3, e2, Nat.add_mul_div_left _ _ hYp, ← hq0]
  refine ⟨Nat.add_comm _ _, ?_⟩
  rw [e2, Nat.add_mul_mod_self_left, ← hr] at e4
  rw [← e4, Nat.mul_div_cancel _ hpos]
theorem quo_fits {q1 q0 hi lo y : Nat} (h1 : hi < y) (h2 : lo < B64) (h : q1 * 4294967296 + q0 = (hi * B64 + lo) / y) : ∃ t7 : Nat, IntKind.u64.wrap ((q1 : Int) * 4294967296) = t7 ∧ IntKind.u64.wrap ((t7 : Int) + (q0 : Int)) = (((hi * B64 + lo) / y : Nat) : Int) := by
  have hlt : (hi * B64 + lo) / y < B64 := by
    rw [Nat.div_lt_iff_lt_mul (by omega)]
    have : (hi + 1) * B64 ≤ y * B64 := Nat.mul_le_mul_right _ h1
    rw [Nat.add_mul] at this
    rw [Nat.mul_comm B64 y]
    omega
  rw [← h] at hlt ⊢
  unfold B64 at hlt
  refine ⟨q1 * 4294967296, ?_, ?_⟩
  · rw [IntKind.wrap_u64]; omega
  · rw [IntKind.wrap_u64]; omega
end Go.Proofs.YtkldjllnnbablaaDoor

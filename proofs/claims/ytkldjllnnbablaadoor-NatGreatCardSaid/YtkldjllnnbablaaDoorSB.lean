/- Shift. -/
import Derived.Test.YtkldjllnnbablaaDoorSA
set_option linter.unusedVariables false
set_option linter.unusedSimpArgs false
namespace Go.Proofs.YtkldjllnnbablaaDoor
open Go.RowKit Go.Shelf

/-- One word, shifted: what goes into its own place, and what goes into the next. -/
theorem shift_bits (x h r : Nat) (hx : x < B64) (hr : r < 64) (hh : h < 2 ^ r) : ∃ lo s hi : Nat,
    IntKind.u64.wrap ((x : Int) * 2 ^ r) = lo ∧ bits .or .u64 (h : Int) (lo : Int) = s ∧ (x : Int) / 2 / 2 ^ (63 - r) = hi ∧ bits .or .u64 0 (hi : Int) = hi ∧
    s < B64 ∧ hi < 2 ^ r ∧ hi < B64 ∧ s + B64 * hi = h + x * 2 ^ r := by
  have hpos : 0 < 2 ^ r := Nat.pow_pos (by omega)
  have hpos2 : 0 < 2 ^ (64 - r) := Nat.pow_pos (by omega)
  have hpp : 2 ^ r * 2 ^ (64 - r) = 18446744073709551616 := by rw [← Nat.pow_add, show r + (64 - r) = 64 by omega]
  have hL : x * 2 ^ r % 18446744073709551616 = x % 2 ^ (64 - r) * 2 ^ r := by rw [← hpp, Nat.mul_comm (2 ^ r), Nat.mul_mod_mul_right]
  have hlm := Nat.mod_lt x hpos2
  have hL2 : x % 2 ^ (64 - r) * 2 ^ r + 2 ^ r ≤ 18446744073709551616 := by
    have h1 : (x % 2 ^ (64 - r) + 1) * 2 ^ r ≤ 2 ^ (64 - r) * 2 ^ r := Nat.mul_le_mul_right _ hlm
    rw [Nat.add_mul, Nat.one_mul, Nat.mul_comm (2 ^ (64 - r)), hpp] at h1
    exact h1
  have hhi : x / 2 ^ (64 - r) < 2 ^ r := by rw [Nat.div_lt_iff_lt_mul hpos2, hpp]; exact hx
  have hhiB : x / 2 ^ (64 - r) < B64 := Nat.lt_of_le_of_lt (Nat.div_le_self _ _) hx
  have hpow : ((2 : Int) ^ r) = ((2 ^ r : Nat) : Int) := by rw [Int.natCast_pow]; rfl
  have hpow2 : ((2 : Int) ^ (63 - r)) = ((2 ^ (63 - r) : Nat) : Int) := by rw [Int.natCast_pow]; rfl
  refine ⟨x % 2 ^ (64 - r) * 2 ^ r, h + x % 2 ^ (64 - r) * 2 ^ r, x / 2 ^ (64 - r), ?_, ?_, ?_, ?_, ?_, hhi, hhiB, ?_⟩
  · rw [hpow, ← Int.natCast_mul, wrapN, hL]
  · rw [bits_or_u64_nat _ _ (by omega) (by omega), Nat.or_comm, Nat.mul_comm, ← Nat.two_pow_add_eq_or_of_lt hh, Nat.add_comm]
  · have e : x / 2 ^ (64 - r) = x / 2 / 2 ^ (63 - r) := by
      rw [Nat.div_div_eq_div_mul, ← Nat.pow_succ']
      congr 2
      omega
    rw [e, hpow2, Int.natCast_ediv, Int.natCast_ediv]; rfl
  · have h1 := bits_or_u64_nat 0 (x / 2 ^ (64 - r)) (by omega) hhiB
    rw [Nat.zero_or] at h1
    exact h1
  · unfold B64; omega
  · have e : x * 2 ^ r = (2 ^ (64 - r) * (x / 2 ^ (64 - r)) + x % 2 ^ (64 - r)) * 2 ^ r := by rw [Nat.div_add_mod]
    rw [e, Nat.add_mul, Nat.mul_right_comm, Nat.mul_comm (2 ^ (64 - r)) (2 ^ r), hpp]
    unfold B64
    omega

/-- What the loop keeps. -/
structure HInv (w1 : World) (g n q r : Nat) (mA : List Nat) (wr : World) (i : Nat) (l : List Nat) (o : List Nat) (h : Nat) : Prop where
  row : MRow w1 g n wr l
  eq : l = List.replicate q 0 ++ o ++ h :: List.replicate (n - q - i - 1) 0
  len : o.length = i
  carry : h < 2 ^ r
  val : vl B64 o + B64 ^ i * h = 2 ^ r * vl B64 (mA.take i)
theorem HInv.start {w1 : World} {g n q r : Nat} {mA : List Nat} (hg : g = w1.heap.size) (hn : n ≤ maxLen) (hq : q < n) : HInv w1 g n q r mA (w1.alloc (.cells (madeCells #[.int .u64 0] n) 23)) 0 (List.replicate n 0) [] 0 := by
  refine ⟨MRow.start hg hn, ?_, rfl, Nat.pow_pos (by omega), by simp [vl]⟩
  have e : n = q + (n - q - 0 - 1 + 1) := by omega
  conv => lhs; rw [e]
  rw [List.append_nil, ← List.replicate_append_replicate, List.replicate_succ]
theorem HInv.at {w1 wr : World} {g n q r i h : Nat} {mA l o : List Nat} (s : HInv w1 g n q r mA wr i l o h) : l.getD (i + q) 0 = h := by
  rw [s.eq, List.getD_eq_getElem?_getD, List.getElem?_append_right (by simp [s.len]; omega)]
  have e0 : i + q - (List.replicate q 0 ++ o).length = 0 := by simp [s.len]; omega
  rw [e0]; rfl
theorem HInv.step {w1 wr : World} {g n q r i h : Nat} {mA l o : List Nat} (s : HInv w1 g n q r mA wr i l o h) (hn : i + q + 1 < n) {t hi : Nat} (ht : t < B64) (hh : hi < 2 ^ r) (hB : hi < B64) (e : t + B64 * hi = h + mA.getD i 0 * 2 ^ r) :
    MRow w1 g n (wr.setCell ⟨g, i + q, none⟩ (e6 t)) (l.set (i + q) t) ∧ (l.set (i + q) t).getD (i + q + 1) 0 = 0 ∧
    HInv w1 g n q r mA ((wr.setCell ⟨g, i + q, none⟩ (e6 t)).setCell ⟨g, i + q + 1, none⟩ (e6 hi)) (i + 1) ((l.set (i + q) t).set (i + q + 1) hi) (o ++ [t]) hi := by
  obtain ⟨m, hm⟩ : ∃ m, n - q - i - 1 = m + 1 := ⟨n - q - i - 2, by omega⟩
  have hm2 : n - q - (i + 1) - 1 = m := by omega
  have e1 : l.set (i + q) t = List.replicate q 0 ++ (o ++ [t]) ++ 0 :: List.replicate m 0 := by
    rw [s.eq, hm, List.set_append_right _ _ (by simp [s.len]; omega)]
    have e0 : i + q - (List.replicate q 0 ++ o).length = 0 := by simp [s.len]; omega
    rw [e0, List.set_cons_zero, List.replicate_succ]
    simp
  have e2 : (l.set (i + q) t).set (i + q + 1) hi = List.replicate q 0 ++ (o ++ [t]) ++ hi :: List.replicate m 0 := by
    rw [e1, List.set_append_right _ _ (by simp [s.len]; omega)]
    have e0 : i + q + 1 - (List.replicate q 0 ++ (o ++ [t])).length = 0 := by simp [s.len]; omega
    rw [e0, List.set_cons_zero]
  refine ⟨s.row.put t ht, ?_, (s.row.put t ht).put hi hB, ?_, by simp [s.len], hh, ?_⟩
  · rw [e1, List.getD_eq_getElem?_getD, List.getElem?_append_right (by simp [s.len]; omega)]
    have e0 : i + q + 1 - (List.replicate q 0 ++ (o ++ [t])).length = 0 := by simp [s.len]; omega
    rw [e0]; rfl
  · rw [e2, hm2]
  · have hv := s.val
    rw [vl_take_getD, vl_snoc, s.len, Nat.pow_succ]
    have e3 : B64 ^ i * (t + B64 * hi) = B64 ^ i * (h + mA.getD i 0 * 2 ^ r) := by rw [e]
    rw [Nat.mul_add, Nat.mul_add, ← Nat.mul_assoc, Nat.mul_comm (mA.getD i 0), Nat.mul_left_comm] at e3
    rw [Nat.mul_add (2 ^ r)]
    omega
theorem HInv.fin {w1 wr : World} {g n q r h : Nat} {mA l o : List Nat} (s : HInv w1 g n q r mA wr mA.length l o h) (hn : n = mA.length + q + 1) : vl B64 l = vl B64 mA * 2 ^ (q * 64 + r) := by
  have hv := s.val
  rw [List.take_of_length_le (Nat.le_refl _)] at hv
  rw [s.eq, show n - q - mA.length - 1 = 0 by omega, List.replicate_zero, List.append_assoc, vl_append, vl_zero, List.length_replicate, vl_snoc, s.len, hv, Nat.pow_add, Nat.mul_comm q, Nat.pow_mul]
  have : B64 = 2 ^ 64 := rfl
  rw [this, Nat.zero_add, Nat.mul_comm (vl _ mA), Nat.mul_assoc]

theorem HInv.drew {w1 wr : World} {g n q r i h : Nat} {mA l o : List Nat} (s : HInv w1 g n q r mA wr i l o h) : HInv w1 g n q r mA wr.drew i l o h :=
  ⟨⟨s.row.lt, s.row.len, s.row.sl, s.row.mod.drew, s.row.new⟩, s.eq, s.len, s.carry, s.val⟩
theorem lim_pow : lim = 2 ^ (64 * 64) := by
  have h : B64 = 2 ^ 64 := rfl
  unfold lim
  rw [h, ← Nat.pow_mul]
theorem too_far {v k e : Nat} (h1 : 0 < v) (h2 : e ≤ k) : 2 ^ e ≤ v * 2 ^ k := by
  have h3 : 1 * 2 ^ e ≤ v * 2 ^ k := Nat.mul_le_mul h1 (Nat.pow_le_pow_right (by omega) h2)
  rwa [Nat.one_mul] at h3

/-- No shift to the left by less than nothing. -/
theorem shiftNo_c {w : World} {v : Value} {l F : List Nat} (h : Nv w v l F) (hl : l.length ≤ 100000) (k : Int) (hk : k < 0) :
    Calls Tryd.prog 29 #[v, .int .i64 k] w fun e w' => e = .returned (.tuple #[.slice none 0 0, .bool false]) ∧ Mod [] w w' := by
  have CN := Lib.hid (norm_c h hl)
  clear h hl
  go_enter Tryd.func29, Tryd.ntmps29
  go_wp2_with fail
  refine CN.out.mono ?_
  rintro e w1 ⟨v1, rfl, hn⟩
  have HM := Lib.hid hn.mod
  clear hn
  go_wp2
  go_ret2
  exact ⟨rfl, HM.out⟩

set_option maxRecDepth 100000 in
set_option maxHeartbeats 4000000 in
/-- Shift. -/
theorem shift_c {w : World} {v : Value} {l F : List Nat} (h : Nv w v l F) (hl : l.length ≤ 100000) (k : Nat) :
    Calls Tryd.prog 29 #[v, .int .i64 k] w fun e w' => Told w (decide (vl B64 l * 2 ^ k < lim)) (vl B64 l * 2 ^ k) e w' := by
  have CN := Lib.hid (norm_c h hl)
  have FT := Lib.hid fits_c
  have SB := Lib.hid shift_bits
  generalize vl B64 l = va at *
  clear h hl
  go_enter Tryd.func29, Tryd.ntmps29
  go_wp2_with fail
  refine CN.out.mono ?_
  rintro e w1 ⟨v1, rfl, m, hc1, hn⟩
  have MM := Lib.hid hn.mod
  have K1 := Lib.hid hc1
  obtain ⟨F1, r1, -⟩ := hn.rv
  obtain ⟨A, c, rfl⟩ := hn.shape
  have R1 := Lib.hid r1
  clear CN hn hc1 r1
  rw [List.length_map] at R1 ⊢
  obtain ⟨n, hn⟩ : ∃ q, m.length = q := ⟨_, rfl⟩
  rw [hn] at R1 ⊢
  have HN := Lib.hid hn
  clear hn
  by_cases q1 : n ≤ 64
  · have T1 := Lib.hid (decide_eq_true q1)
    go_wp2_with fail
    refine (FT.out _ _ _ _).mono ?_
    rw [T1.out]
    rintro e w3 ⟨rfl, rfl⟩
    by_cases q0 : n = 0
    · subst q0
      have hz : va = 0 := by
        have h1 := K1.out
        rw [List.length_eq_zero_iff.1 HN.out] at h1
        exact h1.nil_val
      subst hz
      have HF := Lib.hid (show decide (0 * 2 ^ k < lim) = true from decide_eq_true (by rw [Nat.zero_mul]; exact Nat.pow_pos (by unfold B64; omega)))
      go_wp2
      go_ret2
      refine .inl ⟨HF.out, _, rfl, ?_⟩
      rw [Nat.zero_mul]
      exact NNew.nil MM.out
    · by_cases qk : k ≤ 4096
      · obtain ⟨q, hq⟩ : ∃ q, k / 64 = q := ⟨_, rfl⟩
        obtain ⟨r, hr⟩ : ∃ r, k % 64 = r := ⟨_, rfl⟩
        have hqI : (k : Int) / 64 = q := by omega
        have hrI : (k : Int) % 64 = r := by omega
        have hq64 : q ≤ 64 := by omega
        have hr64 : r ≤ 63 := by omega
        have hkq : Hid (k = q * 64 + r) := by show _ = _; omega
        clear hq hr
        have hmk : ∀ w, (Instr.makeSlice 22 (.int .i64 ((n : Int) + q + 1)) (.int .i64 ((n : Int) + q + 1))).run Tryd.prog w = .ok (.slice (some ⟨w.heap.size, 0, none⟩) (n + q + 1) (n + q + 1)) (w.alloc (.cells (madeCells #[.int .u64 0] (n + q + 1)) 23)) := fun w => made22 w (n + q + 1) (by omega)
        obtain ⟨g, hg⟩ : ∃ g, w1.heap.size = g := ⟨_, rfl⟩
        have HG := Lib.hid hg
        have fin : Hid (∀ wr : World, ∀ l o : List Nat, ∀ h : Nat, HInv w1 g (n + q + 1) q r m wr n l o h →
            Calls Tryd.prog 44 #[.slice (some ⟨g, 0, none⟩) (n + q + 1) (n + q + 1)] wr fun e w' => Told w (decide (va * 2 ^ k < lim)) (va * 2 ^ k) e w') := fun wr l o h hi => by
          have hv := HInv.fin (by rw [HN.out]; exact hi) (by rw [HN.out])
          rw [K1.out.val, ← hkq.out] at hv
          have h2 := hi.row.full
          obtain ⟨F, h3, _⟩ := h2.rv
          rw [← hv]
          exact (told_c ⟨h3, hi.row.lt⟩ (by rw [hi.row.len]; omega)).mono fun e w' h => h.after (MM.out.trans h2.mod (by simp))
        go_wp2_with fail
        go_loopw [35] (fun i wr => ∃ (j h : Nat) (l o : List Nat), i = .int .i64 j ∧ j ≤ n ∧ Hid (HInv w1 g (n + q + 1) q r m wr j l o h)) (fun i _ => n - (intOf i).toNat)
        case atStart => exact ⟨0, 0, _, _, rfl, Nat.zero_le _, HInv.start hg.symm (by unfold maxLen; omega) (by omega)⟩
        case round =>
          obtain ⟨j, h, l, o, rfl, hj, HI⟩ := hrel
          by_cases hjA : j < n
          · have RA1 := R1.out.mod HI.out.row.mod (by simp)
            obtain ⟨p1, o1, rfl, d1⟩ := RA1.at j (by rw [List.length_map, HN.out]; exact hjA)
            have hxA : m.getD j 0 = m[j]'(by rw [HN.out]; exact hjA) := by rw [List.getD_eq_getElem?_getD, List.getElem?_eq_getElem]; rfl
            rw [List.getElem_map, ← hxA] at d1
            unfold e6 at d1
            have hxB := getD_lt K1.out.lt j
            obtain ⟨lo, s, hi, q1, q2, q3, q4, q5, q6, q7, q8⟩ := SB.out (m.getD j 0) h r hxB (by omega) HI.out.carry
            obtain ⟨s1, s2, s3⟩ := HI.out.step (by omega) q5 q6 q7 q8
            have hx := HI.out.row.at (k := j + q) (by omega)
            rw [HI.out.at] at hx
            have x0 := hx.1
            have x1 := hx.2
            have hy := s1.at (k := j + q + 1) (by omega)
            rw [s2] at hy
            have y0 := hy.1
            have y1 := hy.2
            have ST := Lib.hid s3
            unfold e6 at y0 y1 ST
            generalize m.getD j 0 = x at *
            clear hx hy hxA RA1 HI s1 s2 s3 SB q5 q6 q7 q8 hxB
            go_wp2_with fail
            go_region
            go_wp2_with fail
            go_region
            go_wp2_with fail
            go_roundw
            case rel => exact ⟨j + 1, hi, _, _, by go_num, by omega, ST.out.drew.drew⟩
            case measure => simp [intOf]; omega
          · obtain rfl : j = n := by omega
            have FIN := Lib.hid (fin.out wr l o h HI.out)
            clear fin HI SB
            go_wp2_with fail
            refine FIN.out.mono ?_
            rintro e w4 (⟨ht, v', rfl, hn⟩ | ⟨ht, rfl, hm⟩)
            · have HT := Lib.hid ht
              have HN := Lib.hid hn
              clear ht hn
              go_wp2
              go_ret2
              exact .inl ⟨HT.out, _, rfl, HN.out⟩
            · have HT := Lib.hid ht
              have HM := Lib.hid hm
              clear ht hm
              go_wp2
              go_ret2
              exact .inr ⟨HT.out, rfl, HM.out⟩
      · have NO := Lib.hid (show decide (va * 2 ^ k < lim) = false from decide_eq_false (fun hlt => by
          have h1 : 0 < va := by
            refine K1.out.pos (by unfold B64; omega) (fun e => q0 ?_)
            rw [← HN.out, e]; rfl
          rw [lim_pow] at hlt
          exact absurd (too_far (e := 64 * 64) h1 (by omega)) (Nat.not_le.2 hlt)))
        go_wp2
        go_ret2
        exact .inr ⟨NO.out, rfl, MM.out⟩
  · have T1 := Lib.hid (decide_eq_false q1)
    go_wp2_with fail
    refine (FT.out _ _ _ _).mono ?_
    rw [T1.out]
    rintro e w3 ⟨rfl, rfl⟩
    have NO := Lib.hid (show decide (va * 2 ^ k < lim) = false from decide_eq_false (fun hlt => by
      have h1 : va * 1 ≤ va * 2 ^ k := Nat.mul_le_mul_left _ (Nat.pow_pos (by omega))
      have h2 := K1.out.fits64.2 (by omega)
      rw [HN.out] at h2
      exact q1 h2))
    go_wp2
    go_ret2
    exact .inr ⟨NO.out, rfl, MM.out⟩
end Go.Proofs.YtkldjllnnbablaaDoor

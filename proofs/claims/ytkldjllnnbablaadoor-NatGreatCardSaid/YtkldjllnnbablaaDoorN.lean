/- The reference's Digits. -/
import Derived.Test.YtkldjllnnbablaaDoorM
set_option linter.unusedVariables false
set_option linter.unusedSimpArgs false
namespace Go.Proofs.YtkldjllnnbablaaDoor
open Go.RowKit Go.Shelf

theorem dig_len {d : List Nat} {n m : Nat} (h : Can 10 d n) (hn : n < B64 ^ m) : d.length ≤ 20 * m := by
  refine (h.fits (by omega) _).2 (Nat.lt_of_lt_of_le hn ?_)
  rw [Nat.pow_mul]
  exact Nat.pow_le_pow_left (by unfold B64; omega) m

theorem bit_step {x V p b y : Nat} (hp : p < 64) (hb : b = 2 ^ 64 / 2 ^ (p + 1)) (hy : y = x / b) : b = 2 ^ (63 - p) ∧ V * 2 ^ (p + 1) + x / 2 ^ (64 - (p + 1)) = 2 * (V * 2 ^ p + x / 2 ^ (64 - p)) + y % 2 := by
  have e : b = 2 ^ (63 - p) := by
    rw [hb, Nat.pow_div (by omega) (by omega)]
    congr 1
    omega
  refine ⟨e, ?_⟩
  have e2 : x / 2 ^ (64 - p) = y / 2 := by
    rw [hy, e, Nat.div_div_eq_div_mul, ← Nat.pow_succ]
    congr 2
    omega
  have e3 : x / 2 ^ (64 - (p + 1)) = y := by
    rw [hy, e]
    congr 2
    omega
  rw [e2, e3, Nat.pow_succ, ← Nat.mul_assoc]
  omega

set_option maxRecDepth 100000 in
set_option maxHeartbeats 4000000 in
/-- Digits. -/
theorem digits_c {w : World} {v : Value} {l F : List Nat} (h : Nv w v l F) (hl : l.length ≤ 200) :
    Calls Tryd.prog 15 #[v] w fun e w' => ∃ v', e = .returned v' ∧ DNew w (vl B64 l) w' v' := by
  obtain ⟨A, cap, rfl, hc⟩ := h.1.shape
  have H := Lib.hid h
  clear h
  rw [List.length_map] at H hc ⊢
  obtain ⟨len, hn⟩ : ∃ n, l.length = n := ⟨_, rfl⟩
  rw [hn] at H hc hl ⊢
  have HLEN := Lib.hid hn
  clear hn
  go_enter Tryd.func15, Tryd.ntmps15
  go_wp2_with fail
  go_loopw [4, 3] (fun i v3 wr => ∃ k : Nat, i = .int .i64 ((k : Int) - 1) ∧ k ≤ len ∧ Hid (DNew w (vl B64 (l.drop k)) wr v3)) (fun i _ _ => (intOf i + 1).toNat)
  case atStart =>
    refine ⟨len, by go_num, Nat.le_refl _, ?_⟩
    rw [List.drop_of_length_le (by rw [HLEN.out]; exact Nat.le_refl _)]
    exact DNew.of_new (d := []) (NewV.nil 3 (Mod.refl _ _)) (Can.nil 10)
  case round =>
    obtain ⟨k, hv, hk, HD⟩ := hrel
    rcases k with _ | j
    · obtain rfl := hv
      go_wp2
      go_ret
      exact ⟨_, rfl, HD.out⟩
    · have hv2 := hv.trans (show Value.int .i64 (((j + 1 : Nat) : Int) - 1) = .int .i64 (j : Int) by congr 1; omega)
      clear hv
      subst hv2
      have hxA : l.getD j 0 = l[j]'(by rw [HLEN.out]; omega) := by rw [List.getD_eq_getElem?_getD, List.getElem?_eq_getElem]; rfl
      have RD : Hid (∀ wq, Mod [] w wq → ∃ b o, A = some ⟨b, o, none⟩ ∧ wq.cell? ⟨b, o + j, none⟩ = some (.int .u64 (l.getD j 0 : Nat))) := fun wq m => by
        obtain ⟨b1, o1, e, d1⟩ := (H.out.1.mod m (by simp)).at j (by rw [List.length_map, HLEN.out]; omega)
        rw [List.getElem_map, ← hxA] at d1
        exact ⟨b1, o1, e, d1⟩
      have EX : Hid (vl B64 (l.drop j) = l.getD j 0 + B64 * vl B64 (l.drop (j + 1))) := by
        show _ = _
        rw [hxA]
        exact vl_drop B64 l (by rw [HLEN.out]; omega)
      have HX := Lib.hid (getD_lt H.out.2 j)
      have VB : Hid (vl B64 (l.drop j) < B64 ^ 200) := by
        have h1 := vl_lt (b := B64) (l := l.drop j) (fun x hx => H.out.2 x (List.mem_of_mem_drop hx))
        exact Nat.lt_of_lt_of_le h1 (Nat.pow_le_pow_right (by unfold B64; omega) (by rw [List.length_drop, HLEN.out]; omega))
      generalize l.getD j 0 = x at *
      obtain ⟨V, hV⟩ : ∃ V, vl B64 (l.drop (j + 1)) = V := ⟨_, rfl⟩
      rw [hV] at HD EX
      clear hxA hV
      go_wp2_with fail
      go_loopw [5, 3] (fun v5 v3 wq => ∃ b p : Nat, v5 = .int .u64 b ∧ p ≤ 64 ∧ Hid (b = 2 ^ 64 / 2 ^ (p + 1)) ∧ Hid (DNew w (V * 2 ^ p + x / 2 ^ (64 - p)) wq v3)) (fun v5 _ _ => (intOf v5).toNat)
      case atStart =>
        refine ⟨9223372036854775808, 0, rfl, Nat.zero_le _, by show _ = _; rfl, ?_⟩
        have e : V * 2 ^ 0 + x / 2 ^ (64 - 0) = V := by
          rw [Nat.div_eq_of_lt (by have := HX.out; unfold B64 at this; omega)]; omega
        rw [e]
        exact HD.out
      case round =>
        obtain ⟨b, p, rfl, hp, HB, HV⟩ := hrel
        by_cases hp64 : p < 64
        · have e1 := (bit_step (x := x) (V := V) hp64 HB.out rfl).1
          have hb0 : 0 < b := by rw [e1]; exact Nat.pow_pos (by omega)
          have hbl : b ≤ 9223372036854775808 := by
            rw [e1]
            exact Nat.le_trans (Nat.pow_le_pow_right (by omega) (show 63 - p ≤ 63 by omega)) (by decide)
          obtain ⟨y, hy⟩ : ∃ y, y = x / b := ⟨_, rfl⟩
          have e2 := (bit_step (x := x) (V := V) hp64 HB.out hy).2
          have wy : IntKind.u64.wrap ((x : Int) / (b : Int)) = y := by
            rw [← Int.natCast_ediv, wrapN, ← hy, Nat.mod_eq_of_lt]
            have := HX.out
            have h2 := Nat.div_le_self x b
            unfold B64 at this
            omega
          obtain ⟨b2, hb2⟩ : ∃ b2, b / 2 = b2 := ⟨_, rfl⟩
          have wb : IntKind.u64.wrap ((b : Int) / 2) = b2 := by rw [IntKind.wrap_u64]; omega
          have HB2 : Hid (b2 = 2 ^ 64 / 2 ^ (p + 1 + 1)) := by
            show _ = _
            rw [← hb2, HB.out, Nat.div_div_eq_div_mul, ← Nat.pow_succ]
          have hlt2 : b2 < b := by omega
          have hbz : ¬ (b : Int) = 0 := by omega
          have hbp : (b : Int) > 0 := by omega
          obtain ⟨hm, d, Fd, hd, hf⟩ := HV.out
          have NB : Hid (V * 2 ^ p + x / 2 ^ (64 - p) < B64 ^ 200) := by
            have h1 := VB.out
            have h2 := EX.out
            have h3 : V * 2 ^ p + x / 2 ^ (64 - p) ≤ x + B64 * V := by
              have h4 : V * 2 ^ p ≤ V * B64 := Nat.mul_le_mul_left _ (by unfold B64; exact Nat.le_trans (Nat.pow_le_pow_right (by omega) (show p ≤ 64 by omega)) (by decide))
              have h5 := Nat.div_le_self x (2 ^ (64 - p))
              rw [Nat.mul_comm B64]
              omega
            show _ < _
            omega
          have DC := Lib.hid (fun c0 hc0 => double_c hd (by have := dig_len hd.2 NB.out; omega) c0 hc0)
          obtain ⟨b1, o1, rfl, d1⟩ := RD.out _ hm
          have HM := Lib.hid hm
          obtain ⟨A3, c3, rfl, _⟩ := hd.1.shape
          rw [List.length_map] at DC HV ⊢
          obtain ⟨q3, hq3⟩ : ∃ q, d.length = q := ⟨_, rfl⟩
          rw [hq3] at DC HV ⊢
          have HQ3 := Lib.hid hq3
          have HBL := Lib.hid hbl
          clear hq3 hd hf hm e1 hy hb2 RD hbl
          by_cases hbit : y % 2 = 1
          · have hbi : (y : Int) % 2 = 1 := by omega
            rw [hbit] at e2
            have E2 := Lib.hid e2
            clear e2 hbit
            go_wp2_with fail
            refine (DC.out 1 (by omega)).mono ?_
            rintro e w' ⟨v', rfl, hn⟩
            have HN := Lib.hid (hn.after HM.out)
            rw [← E2.out] at HN
            clear hn
            go_wp2
            go_roundw
            case rel => exact ⟨b2, p + 1, rfl, by omega, HB2, HN.out⟩
            case measure => simp [intOf]; omega
          · have hbi : ¬ (y : Int) % 2 = 1 := by omega
            rw [show y % 2 = 0 by omega] at e2
            have E2 := Lib.hid e2
            clear e2 hbit
            go_wp2_with fail
            refine (DC.out 0 (by omega)).mono ?_
            rintro e w' ⟨v', rfl, hn⟩
            have HN := Lib.hid (hn.after HM.out)
            rw [← E2.out] at HN
            clear hn
            go_wp2
            go_roundw
            case rel => exact ⟨b2, p + 1, rfl, by omega, HB2, HN.out⟩
            case measure => simp [intOf]; omega
        · obtain rfl : p = 64 := by omega
          have hb0 : b = 0 := by rw [HB.out]
          subst hb0
          have h1 := HV.out
          rw [show V * 2 ^ 64 + x / 2 ^ (64 - 64) = vl B64 (l.drop j) by rw [EX.out, Nat.sub_self, Nat.pow_zero, Nat.div_one, Nat.mul_comm V]; unfold B64; exact Nat.add_comm _ _] at h1
          have HV2 := Lib.hid h1
          clear h1
          clear HV HB RD
          go_wp2
          go_roundw
          case rel => exact ⟨j, by go_num, by omega, HV2.out⟩
          case measure => simp [intOf]
end Go.Proofs.YtkldjllnnbablaaDoor

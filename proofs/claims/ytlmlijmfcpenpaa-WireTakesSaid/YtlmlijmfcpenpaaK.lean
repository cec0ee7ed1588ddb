/- The law WireTakes: the walk. -/
import Derived.Test.YtlmlijmfcpenpaaJ
set_option linter.unusedVariables false
set_option linter.unusedSimpArgs false
namespace Go.Proofs.Ytlmlijmfcpenpaa
open Go.RowKit

set_option maxRecDepth 100000 in
set_option maxHeartbeats 40000000 in
theorem wireTakes_main (w : World) (a0 : Option Addr) (len cap : Nat) (l : List UInt8) (F : List Nat) (h : Rd w (.slice a0 len cap) l F) (hF : ∀ k ∈ F, k < w.heap.size) (hl : l.length = len) (hlen : len ≤ 300)
    (a1 : Option Addr) (len1 cap1 : Nat) (z : Nat → Nat → Int) (hz : Recs w a1 len1 cap1 [.u8, .u64] z) (hlen1 : len1 ≤ 30) :
    Calls Try.prog 4 #[.slice a0 len cap, .slice a1 len1 cap1] w fun e w' => e = .returned (.bool true) ∧ Mod [] w w' := by
  have H := Lib.hid h
  have HL := Lib.hid hl
  have HF := Lib.hid hF
  have HZ := Lib.hid hz
  clear h hl hF hz
  go_enter Try.func4, Try.ntmps4
  go_wp2_with fail
  refine (alive_c w).mono ?_
  rintro e w1 ⟨rfl, m1⟩
  have M1 := Lib.hid m1
  clear m1
  go_wp2_with fail
  refine (newreader_c (H.out.mod M1.out (by simp))).mono ?_
  rintro e w2 ⟨rfl, hw2⟩
  have S2 : Hid (TSt w w2 w1.heap.size l F 0 0) := by
    refine ⟨?_, ?_, M1.out.size, by rw [HL.out]; omega, by omega⟩
    · rw [hw2, List.drop_zero]
      exact ⟨_, Blk.new _ _ _, (H.out.mod M1.out (by simp)).mod (S := []) (by (repeat (first | exact Mod.refl _ _ | apply Mod.drew | apply Mod.drewN | apply Mod.alloc | refine Mod.setCell ?_ _ _ (by first | simp | (simp; omega))))) (by simp), fun hm => by have := HF.out _ hm; have := M1.out.size; omega⟩
    · rw [hw2]; exact M1.out.alloc _
  clear hw2
  generalize w1.heap.size = p at *
  go_wp2_with fail
  go_loopw [6, 7, 8] (fun sa se si wr => ∃ a e i : Nat, sa = .int .i64 a ∧ se = .int .i64 e ∧ si = .int .i64 i ∧ i ≤ len1 ∧ a ≤ len ∧ e ≤ 12 ∧ TSt w wr p l F a e) (fun _ _ i _ => len1 - (intOf i).toNat)
  case atStart => exact ⟨0, 0, 0, rfl, rfl, rfl, Nat.zero_le _, Nat.zero_le _, by omega, S2.out⟩
  case round =>
    clear S2 M1
    obtain ⟨a, e, i, rfl, rfl, rfl, hi, ha, he, st⟩ := hrel
    have ST := Lib.hid st
    have M : Hid (Mod [] w wr) := st.mod
    clear st
    by_cases hlt : i < len1
    · obtain ⟨b1, off1, rfl, hb1, ⟨c0, c1⟩, f0, f1⟩ := HZ.out.at2 i hlt
      rw [← M.out.cell (a := ⟨b1, _, none⟩) hb1 (by simp)] at c0 c1
      have hb1' : b1 < wr.heap.size := Nat.lt_of_lt_of_le hb1 M.out.size
      obtain ⟨q0, q1⟩ := bounds_u8 f0
      obtain ⟨mo, hmo, hmo2⟩ := bounds_u64' f1
      rw [hmo] at c1
      have HMO := Lib.hid hmo2
      generalize z i 0 = kd at *
      obtain ⟨kd, rfl⟩ := Int.eq_ofNat_of_zero_le q0
      have C0 := Lib.hid c0
      have C1 := Lib.hid c1
      have TK : Hid (∀ (W : World), Rd W (.slice a0 len cap) l F → ∀ m : Nat, Calls Try.prog 14 #[.slice a0 len cap, .int .i64 a, .int .u64 m] W fun e w' => e = .returned (.tuple #[.int .u64 (takeM (l.drop a) m).1, .int .i64 (takeM (l.drop a) m).2.1, .int .i64 (takeM (l.drop a) m).2.2]) ∧ W = w') :=
        fun W hr m => take_c hr (by rw [HL.out]; omega) a (by rw [HL.out]; omega) m
      have RW : Hid (Rd wr (.slice a0 len cap) l F) := H.out.mod M.out (by simp)
      have hd : Hid ((l.drop a).length = len - a) := by show _ = _; rw [List.length_drop, HL.out]
      clear f0 f1 hmo hmo2
      have fct : Hid (((takeM (l.drop a) mo).2.2 = 0 ∧ (takeM (l.drop a) mo).1 ≤ mo ∧ 0 < (takeM (l.drop a) mo).2.1 ∧ (takeM (l.drop a) mo).2.1 ≤ (l.drop a).length) ∨ (∃ c, takeM (l.drop a) mo = (0, 0, c) ∧ c ≠ 0 ∧ c ≤ 12)) := takeM_facts _ _
      obtain ⟨n, sz, cd, ht⟩ : ∃ n sz cd, takeM (l.drop a) mo = (n, sz, cd) := ⟨_, _, _, rfl⟩
      have HT := Lib.hid ht
      clear ht
      have T1 : Hid (Calls Try.prog 14 #[.slice a0 len cap, .int .i64 a, .int .u64 mo] wr fun e w' => e = .returned (.tuple #[.int .u64 n, .int .i64 sz, .int .i64 cd]) ∧ wr = w') := by
        have := TK.out wr RW.out mo
        rw [HT.out] at this; exact this
      have fct2 := fct.out
      rw [HT.out, hd.out] at fct2
      clear fct
      have hcd : cd ≤ 12 := by
        rcases fct2 with ⟨x, _⟩ | ⟨c, x, _, y⟩
        · simp only at x; omega
        · simp only [Prod.mk.injEq] at x; omega
      have hk3 : kd % 3 = 0 ∨ kd % 3 = 1 ∨ kd % 3 = 2 := by omega
      rcases hk3 with h3 | h3 | h3
      · as_aux_lemma =>
          have hk8 : (((kd : Int) % 3) == 0) = true := by rw [beq_iff_eq]; omega
          clear h3
          by_cases he0 : e = 0
          · have bE : ((e : Int) == 0) = true := by rw [beq_iff_eq]; omega
            rcases fct2 with ⟨x, y, x1, x2⟩ | ⟨c, x, y, _⟩
            · simp only at x y x1 x2
              have bC : ((cd : Int) == 0) = true := by rw [beq_iff_eq]; omega
              have NC := Lib.hid (ST.out.num mo n (a + sz) e (by rw [HL.out]; omega) (by rw [he0, numStep_ok (n := n) (s := sz) (by rw [HT.out, x]), List.drop_drop]))
              have hne : ((n : Int) != (n : Int)) = false := by simp
              clear he0 x
              go_wp2_with fail
              refine T1.out.mono ?_
              rintro r w3 ⟨rfl, rfl⟩
              go_wp2_with fail
              refine NC.out.mono ?_
              rintro r w5 ⟨rfl, sx⟩
              have SX := Lib.hid sx
              clear sx
              go_wp2_with fail
              refine SX.out.err.mono ?_
              rintro r w4 ⟨rfl, rfl⟩
              go_wp2_with fail
              refine (SX.out.left ((len : Int) - ((a : Int) + (sz : Int))) (by rw [HL.out] <;> omega)).mono ?_
              rintro r w4 ⟨rfl, rfl⟩
              go_wp2
              go_roundw
              case rel => exact ⟨a + sz, e, i + 1, by first | rfl | go_num | (congr 1; omega), by first | rfl | go_num, by go_num, by omega, by omega, by omega, SX.out⟩
              case measure => simp [intOf]; omega
            · simp only [Prod.mk.injEq] at x
              obtain ⟨rfl, rfl, rfl⟩ := x
              have bC : ((cd : Int) == 0) = false := by rw [beq_eq_false_iff_ne]; omega
              have NC := Lib.hid (ST.out.num mo 0 a cd (by rw [HL.out]; omega) (by rw [he0, numStep_err HT.out y]))
              have IF := Lib.hid (show (if e = 0 then cd else e) = cd by rw [if_pos he0])
              clear he0 y
              go_wp2_with fail
              refine T1.out.mono ?_
              rintro r w3 ⟨rfl, rfl⟩
              go_wp2_with fail
              refine NC.out.mono ?_
              rintro r w5 ⟨rfl, sx⟩
              have SY := Lib.hid sx
              clear sx
              go_wp2_with fail
              refine (first_c e cd _).mono ?_
              rintro r w6 ⟨rfl, rfl⟩
              rw [IF.out]
              have sx := SY.out
              have SX := Lib.hid sx
              clear sx
              go_wp2_with fail
              refine SX.out.err.mono ?_
              rintro r w4 ⟨rfl, rfl⟩
              go_wp2_with fail
              refine (SX.out.left ((len : Int) - (a : Int)) (by rw [HL.out] <;> omega)).mono ?_
              rintro r w4 ⟨rfl, rfl⟩
              go_wp2
              go_roundw
              case rel => exact ⟨a, cd, i + 1, by first | rfl | go_num | (congr 1; omega), by first | rfl | go_num, by go_num, by omega, by omega, by omega, SX.out⟩
              case measure => simp [intOf]; omega
          · have bE : ((e : Int) == 0) = false := by rw [beq_eq_false_iff_ne]; omega
            have NC := Lib.hid (ST.out.num mo 0 a e (by rw [HL.out]; omega) (numStep_bad he0))
            have IF := Lib.hid (show (if e = 0 then cd else e) = e by rw [if_neg he0])
            clear he0 fct2
            go_wp2_with fail
            refine T1.out.mono ?_
            rintro r w3 ⟨rfl, rfl⟩
            go_wp2_with fail
            refine NC.out.mono ?_
            rintro r w5 ⟨rfl, sx⟩
            have SY := Lib.hid sx
            clear sx
            go_wp2_with fail
            refine (first_c e cd _).mono ?_
            rintro r w6 ⟨rfl, rfl⟩
            rw [IF.out]
            have sx := SY.out
            have SX := Lib.hid sx
            clear sx
            go_wp2_with fail
            refine SX.out.err.mono ?_
            rintro r w4 ⟨rfl, rfl⟩
            go_wp2_with fail
            refine (SX.out.left ((len : Int) - (a : Int)) (by rw [HL.out] <;> omega)).mono ?_
            rintro r w4 ⟨rfl, rfl⟩
            go_wp2
            go_roundw
            case rel => exact ⟨a, e, i + 1, by first | rfl | go_num | (congr 1; omega), by first | rfl | go_num, by go_num, by omega, by omega, by omega, SX.out⟩
            case measure => simp [intOf]; omega
      · as_aux_lemma =>
          have hk8 : (((kd : Int) % 3) == 0) = false := by rw [beq_eq_false_iff_ne]; omega
          have hk9 : (((kd : Int) % 3) == 1) = true := by rw [beq_iff_eq]; omega
          clear h3 fct2
          by_cases he0 : e = 0
          · have bE : ((e : Int) == 0) = true := by rw [beq_iff_eq]; omega
            have S0 : Hid (TSt w wr p l F a 0) := by have := ST.out; rw [he0] at this; exact this
            by_cases hal : a < len
            · have NC := Lib.hid (ST.out.byte_one he0 (by rw [HL.out]; exact hal))
              obtain ⟨b2, off2, rfl, d2⟩ := H.out.at a (by rw [HL.out]; exact hal)
              have hb2 : b2 < w.heap.size := World.block_lt_of_cell? w _ d2
              have D2 := Lib.hid d2
              generalize (l[a]'(by rw [HL.out]; exact hal)) = cb at *
              have hal' : (a : Int) < len := by omega
              have hcb : ((cb.toNat : Int) != (cb.toNat : Int)) = false := by simp
              clear he0 d2
              go_wp2_with fail
              refine T1.out.mono ?_
              rintro r w3 ⟨rfl, rfl⟩
              go_wp2_with fail
              refine NC.out.mono ?_
              rintro r w5 ⟨rfl, sx⟩
              have d3 := (sx.mod.cell (a := ⟨b2, off2 + a, none⟩) hb2 (by simp)).trans D2.out
              have SX := Lib.hid sx
              clear sx
              go_wp2_with fail
              refine SX.out.err.mono ?_
              rintro r w4 ⟨rfl, rfl⟩
              go_wp2_with fail
              refine (SX.out.left ((len : Int) - ((a : Int) + 1)) (by rw [HL.out] <;> omega)).mono ?_
              rintro r w4 ⟨rfl, rfl⟩
              go_wp2
              go_roundw
              case rel => exact ⟨a + 1, e, i + 1, by first | rfl | go_num | (congr 1; omega), by first | rfl | go_num, by go_num, by omega, by omega, by omega, SX.out⟩
              case measure => simp [intOf]; omega
            · have NC := Lib.hid (S0.out.byte_end (by rw [HL.out]; omega))
              have hal' : ¬ ((a : Int) < len) := by omega
              have IF := Lib.hid (show (if e = 0 then 11 else e) = 11 by rw [if_pos he0])
              clear he0
              go_wp2_with fail
              refine T1.out.mono ?_
              rintro r w3 ⟨rfl, rfl⟩
              go_wp2_with fail
              refine NC.out.mono ?_
              rintro r w5 ⟨rfl, sx⟩
              have SY := Lib.hid sx
              clear sx
              go_wp2_with fail
              refine (first_c e 11 _).mono ?_
              rintro r w6 ⟨rfl, rfl⟩
              rw [IF.out]
              have sx := SY.out
              have SX := Lib.hid sx
              clear sx
              go_wp2_with fail
              refine SX.out.err.mono ?_
              rintro r w4 ⟨rfl, rfl⟩
              go_wp2_with fail
              refine (SX.out.left ((len : Int) - (a : Int)) (by rw [HL.out] <;> omega)).mono ?_
              rintro r w4 ⟨rfl, rfl⟩
              go_wp2
              go_roundw
              case rel => exact ⟨a, 11, i + 1, by first | rfl | go_num | (congr 1; omega), by first | rfl | go_num, by go_num, by omega, by omega, by omega, SX.out⟩
              case measure => simp [intOf]; omega
          · have bE : ((e : Int) == 0) = false := by rw [beq_eq_false_iff_ne]; omega
            have NC := Lib.hid (ST.out.byte_bad he0)
            have IF := Lib.hid (show (if e = 0 then 11 else e) = e by rw [if_neg he0])
            clear he0
            go_wp2_with fail
            refine T1.out.mono ?_
            rintro r w3 ⟨rfl, rfl⟩
            go_wp2_with fail
            refine NC.out.mono ?_
            rintro r w5 ⟨rfl, sx⟩
            have SY := Lib.hid sx
            clear sx
            go_wp2_with fail
            refine (first_c e 11 _).mono ?_
            rintro r w6 ⟨rfl, rfl⟩
            rw [IF.out]
            have sx := SY.out
            have SX := Lib.hid sx
            clear sx
            go_wp2_with fail
            refine SX.out.err.mono ?_
            rintro r w4 ⟨rfl, rfl⟩
            go_wp2_with fail
            refine (SX.out.left ((len : Int) - (a : Int)) (by rw [HL.out] <;> omega)).mono ?_
            rintro r w4 ⟨rfl, rfl⟩
            go_wp2
            go_roundw
            case rel => exact ⟨a, e, i + 1, by first | rfl | go_num | (congr 1; omega), by first | rfl | go_num, by go_num, by omega, by omega, by omega, SX.out⟩
            case measure => simp [intOf]; omega
      · as_aux_lemma =>
          rcases mo_split HMO with ⟨HwA, HwU, HMM⟩ | Hkn
          · have hk8 : (((kd : Int) % 3) == 0) = false := by rw [beq_eq_false_iff_ne]; omega
            have hk9 : (((kd : Int) % 3) == 1) = false := by rw [beq_eq_false_iff_ne]; omega
            clear h3 fct2
            have HK : Hid (((mo : Int) < 0 ∧ mo = 0) ∨ (mo : Int) = (mo : Int)) := .inr rfl
            have fct : Hid (((takeM (l.drop a) mo).2.2 = 0 ∧ (takeM (l.drop a) mo).1 ≤ mo ∧ 0 < (takeM (l.drop a) mo).2.1 ∧ (takeM (l.drop a) mo).2.1 ≤ (l.drop a).length) ∨ (∃ c, takeM (l.drop a) mo = (0, 0, c) ∧ c ≠ 0 ∧ c ≤ 12)) := takeM_facts _ _
            obtain ⟨n2, sz2, cd2, ht⟩ : ∃ n sz cd, takeM (l.drop a) mo = (n, sz, cd) := ⟨_, _, _, rfl⟩
            have HT2 := Lib.hid ht
            clear ht
            have T2 : Hid (Calls Try.prog 14 #[.slice a0 len cap, .int .i64 a, .int .u64 (mo : Nat)] wr fun e w' => e = .returned (.tuple #[.int .u64 n2, .int .i64 sz2, .int .i64 cd2]) ∧ wr = w') := by
              have := TK.out wr RW.out mo
              rw [HT2.out] at this
              exact this
            have fct3 := fct.out
            rw [HT2.out, hd.out] at fct3
            clear fct
            have hcd2 : cd2 ≤ 12 := by
              rcases fct3 with ⟨x, _⟩ | ⟨c, x, _, y⟩
              · simp only at x; omega
              · simp only [Prod.mk.injEq] at x; omega
            by_cases he0 : e = 0
            · have bE : ((e : Int) == 0) = true := by rw [beq_iff_eq]; omega
              rcases fct3 with ⟨x, y, x1, x2⟩ | ⟨c, x, y, _⟩
              · simp only at x y x1 x2
                have bC : ((cd2 : Int) == 0) = true := by rw [beq_iff_eq]; omega
                have Hwn := wrap_le HMM y
                by_cases hmore : len - a - sz2 < n2
                · have hmore' : (len : Int) - a - sz2 < n2 := by omega
                  have NC0 : Hid (textStep (l.drop a) e mo = ([], l.drop a, 11)) := by show _ = _; rw [he0, textStep_ok (n := n2) (s := sz2) (by rw [HT2.out, x]), if_pos (by rw [hd.out]; omega)]
                  have IF := Lib.hid (show (if e = 0 then 11 else e) = 11 by rw [if_pos he0])
                  have NC := Lib.hid (ST.out.text (mo : Int) mo HMM.out HK.out [] (a) (11) (by rw [HL.out]; omega) (by exact NC0.out))
                  clear he0 x NC0
                  have hLX : Hid (((len : Int) - (a : Int)) = (l.length : Int) - (a : Nat)) := by show _ = _; rw [HL.out]
                  have hmb := HMM.out
                  go_wp2_with fail
                  refine T1.out.mono ?_
                  rintro r w3 ⟨rfl, rfl⟩
                  go_wp2_with fail
                  refine Calls.mono (by exact T2.out) ?_
                  rintro r w3 ⟨rfl, rfl⟩
                  go_wp2_with fail
                  refine NC.out.mono ?_
                  rintro r w5 ⟨rfl, sx⟩
                  have SY := Lib.hid sx
                  clear sx
                  go_wp2_with fail
                  refine (first_c e 11 _).mono ?_
                  rintro r w6 ⟨rfl, rfl⟩
                  rw [IF.out]
                  have sx := SY.out
                  have SX := Lib.hid sx
                  clear sx
                  go_wp2_with fail
                  refine SX.out.err.mono ?_
                  rintro r w4 ⟨rfl, rfl⟩
                  go_wp2_with fail
                  refine (SX.out.left ((len : Int) - (a : Int)) hLX.out).mono ?_
                  rintro r w4 ⟨rfl, rfl⟩
                  go_wp2
                  clear hmb
                  go_roundw
                  case rel => exact ⟨a, 11, i + 1, by first | rfl | go_num | (congr 1; omega), by first | rfl | go_num, by go_num, by omega, by omega, by omega, SX.out⟩
                  case measure => simp [intOf]; omega
                · have hmore' : ¬ ((len : Int) - a - sz2 < n2) := by omega
                  have NC0 : Hid (textStep (l.drop a) e mo = ((l.drop (a + sz2)).take n2, l.drop (a + sz2 + n2), e)) := by show _ = _; rw [he0, textStep_ok (n := n2) (s := sz2) (by rw [HT2.out, x]), if_neg (by rw [hd.out]; omega), List.drop_drop, List.drop_drop, Nat.add_assoc]
                  have hcv : Hid (∀ (W : World) (c : Nat), Mod [] w W → n2 ≤ c → ∀ A', (a + sz2 < len → A' = a0.map (·.add (a + sz2))) → (convert 22 9 (.slice A' n2 c)).run Try.prog W = .ok (.string ⟨((l.drop (a + sz2)).take n2).toArray⟩) W) := fun W c mW hc A' hA =>
                    conv_rd (F := F) (Rd.recap (Rd.take (n := len - (a + sz2)) ((H.out.mod mW (by simp)).drop (a + sz2) (by omega) A' hA) n2 (by omega)) hc)
                  have NC := Lib.hid (ST.out.text (mo : Int) mo HMM.out HK.out ((l.drop (a + sz2)).take n2) (a + sz2 + n2) (e) (by rw [HL.out]; omega) (by exact NC0.out))
                  generalize (⟨((l.drop (a + sz2)).take n2).toArray⟩ : ByteArray) = txt at *
                  have hteq : (txt.toList == txt.toList) = true := by simp
                  have hsz : a + sz2 + n2 ≤ len := by omega
                  have hcap : len ≤ cap := by obtain ⟨_, hh⟩ := H.out.len; exact hh
                  clear he0 x NC0
                  have hLX : Hid (((len : Int) - ((a : Int) + (sz2 : Int) + (n2 : Int))) = (l.length : Int) - ((a + sz2 + n2 : Nat) : Int)) := by show _ = _; rw [HL.out]; omega
                  by_cases hcs : cap = a + sz2
                  · subst hcs
                    have hmb := HMM.out
                    go_wp2_with fail
                    refine T1.out.mono ?_
                    rintro r w3 ⟨rfl, rfl⟩
                    go_wp2_with fail
                    refine Calls.mono (by exact T2.out) ?_
                    rintro r w3 ⟨rfl, rfl⟩
                    go_wp2_with fail
                    refine NC.out.mono ?_
                    rintro r w5 ⟨rfl, sx⟩
                    go_wp2
                    rw [hcv.out w5 0 sx.mod (by omega) a0 (fun hh => absurd hh (by omega))]
                    have SX := Lib.hid sx
                    clear sx
                    go_wp2_with fail
                    refine SX.out.err.mono ?_
                    rintro r w4 ⟨rfl, rfl⟩
                    go_wp2_with fail
                    refine (SX.out.left ((len : Int) - ((a : Int) + (sz2 : Int) + (n2 : Int))) hLX.out).mono ?_
                    rintro r w4 ⟨rfl, rfl⟩
                    go_wp2
                    clear hmb
                    go_roundw
                    case rel => exact ⟨a + sz2 + n2, e, i + 1, by first | rfl | go_num | (congr 1; omega), by first | rfl | go_num, by go_num, by omega, by omega, by omega, SX.out⟩
                    case measure => simp [intOf]; omega
                  · have hmb := HMM.out
                    go_wp2_with fail
                    refine T1.out.mono ?_
                    rintro r w3 ⟨rfl, rfl⟩
                    go_wp2_with fail
                    refine Calls.mono (by exact T2.out) ?_
                    rintro r w3 ⟨rfl, rfl⟩
                    go_wp2_with fail
                    refine NC.out.mono ?_
                    rintro r w5 ⟨rfl, sx⟩
                    go_wp2
                    rw [hcv.out w5 (cap - (a + sz2)) sx.mod (by omega) _ (fun _ => rfl)]
                    have SX := Lib.hid sx
                    clear sx
                    go_wp2_with fail
                    refine SX.out.err.mono ?_
                    rintro r w4 ⟨rfl, rfl⟩
                    go_wp2_with fail
                    refine (SX.out.left ((len : Int) - ((a : Int) + (sz2 : Int) + (n2 : Int))) hLX.out).mono ?_
                    rintro r w4 ⟨rfl, rfl⟩
                    go_wp2
                    clear hmb
                    go_roundw
                    case rel => exact ⟨a + sz2 + n2, e, i + 1, by first | rfl | go_num | (congr 1; omega), by first | rfl | go_num, by go_num, by omega, by omega, by omega, SX.out⟩
                    case measure => simp [intOf]; omega
              · simp only [Prod.mk.injEq] at x
                obtain ⟨rfl, rfl, rfl⟩ := x
                have bC : ((cd2 : Int) == 0) = false := by rw [beq_eq_false_iff_ne]; omega
                have NC0 : Hid (textStep (l.drop a) e mo = ([], l.drop a, cd2)) := by show _ = _; rw [he0, textStep_err HT2.out y]
                have IF := Lib.hid (show (if e = 0 then cd2 else e) = cd2 by rw [if_pos he0])
                have NC := Lib.hid (ST.out.text (mo : Int) mo HMM.out HK.out [] (a) (cd2) (by rw [HL.out]; omega) (by exact NC0.out))
                clear he0 y NC0
                have hLX : Hid (((len : Int) - (a : Int)) = (l.length : Int) - (a : Nat)) := by show _ = _; rw [HL.out]
                have hmb := HMM.out
                go_wp2_with fail
                refine T1.out.mono ?_
                rintro r w3 ⟨rfl, rfl⟩
                go_wp2_with fail
                refine Calls.mono (by exact T2.out) ?_
                rintro r w3 ⟨rfl, rfl⟩
                go_wp2_with fail
                refine NC.out.mono ?_
                rintro r w5 ⟨rfl, sx⟩
                have SY := Lib.hid sx
                clear sx
                go_wp2_with fail
                refine (first_c e cd2 _).mono ?_
                rintro r w6 ⟨rfl, rfl⟩
                rw [IF.out]
                have sx := SY.out
                have SX := Lib.hid sx
                clear sx
                go_wp2_with fail
                refine SX.out.err.mono ?_
                rintro r w4 ⟨rfl, rfl⟩
                go_wp2_with fail
                refine (SX.out.left ((len : Int) - (a : Int)) hLX.out).mono ?_
                rintro r w4 ⟨rfl, rfl⟩
                go_wp2
                clear hmb
                go_roundw
                case rel => exact ⟨a, cd2, i + 1, by first | rfl | go_num | (congr 1; omega), by first | rfl | go_num, by go_num, by omega, by omega, by omega, SX.out⟩
                case measure => simp [intOf]; omega
            · have bE : ((e : Int) == 0) = false := by rw [beq_eq_false_iff_ne]; omega
              have NC0 : Hid (textStep (l.drop a) e mo = ([], l.drop a, e)) := textStep_bad he0
              have NC := Lib.hid (ST.out.text (mo : Int) mo HMM.out HK.out [] (a) (e) (by rw [HL.out]; omega) (by exact NC0.out))
              rcases fct3 with ⟨x, y, x1, x2⟩ | ⟨c, x, y, _⟩
              · simp only at x y x1 x2
                have bC : ((cd2 : Int) == 0) = true := by rw [beq_iff_eq]; omega
                by_cases hmore : len - a - sz2 < n2
                · have hmore' : (len : Int) - a - sz2 < n2 := by omega
                  have IF := Lib.hid (show (if e = 0 then 11 else e) = e by rw [if_neg he0])
                  clear he0 x NC0
                  have hLX : Hid (((len : Int) - (a : Int)) = (l.length : Int) - (a : Nat)) := by show _ = _; rw [HL.out]
                  have hmb := HMM.out
                  go_wp2_with fail
                  refine T1.out.mono ?_
                  rintro r w3 ⟨rfl, rfl⟩
                  go_wp2_with fail
                  refine Calls.mono (by exact T2.out) ?_
                  rintro r w3 ⟨rfl, rfl⟩
                  go_wp2_with fail
                  refine NC.out.mono ?_
                  rintro r w5 ⟨rfl, sx⟩
                  have SY := Lib.hid sx
                  clear sx
                  go_wp2_with fail
                  refine (first_c e 11 _).mono ?_
                  rintro r w6 ⟨rfl, rfl⟩
                  rw [IF.out]
                  have sx := SY.out
                  have SX := Lib.hid sx
                  clear sx
                  go_wp2_with fail
                  refine SX.out.err.mono ?_
                  rintro r w4 ⟨rfl, rfl⟩
                  go_wp2_with fail
                  refine (SX.out.left ((len : Int) - (a : Int)) hLX.out).mono ?_
                  rintro r w4 ⟨rfl, rfl⟩
                  go_wp2
                  clear hmb
                  go_roundw
                  case rel => exact ⟨a, e, i + 1, by first | rfl | go_num | (congr 1; omega), by first | rfl | go_num, by go_num, by omega, by omega, by omega, SX.out⟩
                  case measure => simp [intOf]; omega
                · have hmore' : ¬ ((len : Int) - a - sz2 < n2) := by omega
                  have IF := Lib.hid (show (if e = 0 then cd2 else e) = e by rw [if_neg he0])
                  clear he0 x NC0
                  have hLX : Hid (((len : Int) - (a : Int)) = (l.length : Int) - (a : Nat)) := by show _ = _; rw [HL.out]
                  have hmb := HMM.out
                  go_wp2_with fail
                  refine T1.out.mono ?_
                  rintro r w3 ⟨rfl, rfl⟩
                  go_wp2_with fail
                  refine Calls.mono (by exact T2.out) ?_
                  rintro r w3 ⟨rfl, rfl⟩
                  go_wp2_with fail
                  refine NC.out.mono ?_
                  rintro r w5 ⟨rfl, sx⟩
                  have SY := Lib.hid sx
                  clear sx
                  go_wp2_with fail
                  refine (first_c e cd2 _).mono ?_
                  rintro r w6 ⟨rfl, rfl⟩
                  rw [IF.out]
                  have sx := SY.out
                  have SX := Lib.hid sx
                  clear sx
                  go_wp2_with fail
                  refine SX.out.err.mono ?_
                  rintro r w4 ⟨rfl, rfl⟩
                  go_wp2_with fail
                  refine (SX.out.left ((len : Int) - (a : Int)) hLX.out).mono ?_
                  rintro r w4 ⟨rfl, rfl⟩
                  go_wp2
                  clear hmb
                  go_roundw
                  case rel => exact ⟨a, e, i + 1, by first | rfl | go_num | (congr 1; omega), by first | rfl | go_num, by go_num, by omega, by omega, by omega, SX.out⟩
                  case measure => simp [intOf]; omega
              · simp only [Prod.mk.injEq] at x
                obtain ⟨rfl, rfl, rfl⟩ := x
                have bC : ((cd2 : Int) == 0) = false := by rw [beq_eq_false_iff_ne]; omega
                have IF := Lib.hid (show (if e = 0 then cd2 else e) = e by rw [if_neg he0])
                clear he0 y NC0
                have hLX : Hid (((len : Int) - (a : Int)) = (l.length : Int) - (a : Nat)) := by show _ = _; rw [HL.out]
                have hmb := HMM.out
                go_wp2_with fail
                refine T1.out.mono ?_
                rintro r w3 ⟨rfl, rfl⟩
                go_wp2_with fail
                refine Calls.mono (by exact T2.out) ?_
                rintro r w3 ⟨rfl, rfl⟩
                go_wp2_with fail
                refine NC.out.mono ?_
                rintro r w5 ⟨rfl, sx⟩
                have SY := Lib.hid sx
                clear sx
                go_wp2_with fail
                refine (first_c e cd2 _).mono ?_
                rintro r w6 ⟨rfl, rfl⟩
                rw [IF.out]
                have sx := SY.out
                have SX := Lib.hid sx
                clear sx
                go_wp2_with fail
                refine SX.out.err.mono ?_
                rintro r w4 ⟨rfl, rfl⟩
                go_wp2_with fail
                refine (SX.out.left ((len : Int) - (a : Int)) hLX.out).mono ?_
                rintro r w4 ⟨rfl, rfl⟩
                go_wp2
                clear hmb
                go_roundw
                case rel => exact ⟨a, e, i + 1, by first | rfl | go_num | (congr 1; omega), by first | rfl | go_num, by go_num, by omega, by omega, by omega, SX.out⟩
                case measure => simp [intOf]; omega
          · have hk8 : (((kd : Int) % 3) == 0) = false := by rw [beq_eq_false_iff_ne]; omega
            have hk9 : (((kd : Int) % 3) == 1) = false := by rw [beq_eq_false_iff_ne]; omega
            clear h3 fct2
            have HMM := zero_le63
            have HK : Hid ((wrap64 (mo : Int) < 0 ∧ 0 = 0) ∨ wrap64 (mo : Int) = ((0 : Nat) : Int)) := .inl ⟨Hkn.out, rfl⟩
            have fct : Hid (((takeM (l.drop a) 0).2.2 = 0 ∧ (takeM (l.drop a) 0).1 ≤ 0 ∧ 0 < (takeM (l.drop a) 0).2.1 ∧ (takeM (l.drop a) 0).2.1 ≤ (l.drop a).length) ∨ (∃ c, takeM (l.drop a) 0 = (0, 0, c) ∧ c ≠ 0 ∧ c ≤ 12)) := takeM_facts _ _
            obtain ⟨n2, sz2, cd2, ht⟩ : ∃ n sz cd, takeM (l.drop a) 0 = (n, sz, cd) := ⟨_, _, _, rfl⟩
            have HT2 := Lib.hid ht
            clear ht
            have T2 : Hid (Calls Try.prog 14 #[.slice a0 len cap, .int .i64 a, .int .u64 (0 : Nat)] wr fun e w' => e = .returned (.tuple #[.int .u64 n2, .int .i64 sz2, .int .i64 cd2]) ∧ wr = w') := by
              have := TK.out wr RW.out 0
              rw [HT2.out] at this
              exact this
            have fct3 := fct.out
            rw [HT2.out, hd.out] at fct3
            clear fct
            have hcd2 : cd2 ≤ 12 := by
              rcases fct3 with ⟨x, _⟩ | ⟨c, x, _, y⟩
              · simp only at x; omega
              · simp only [Prod.mk.injEq] at x; omega
            by_cases he0 : e = 0
            · have bE : ((e : Int) == 0) = true := by rw [beq_iff_eq]; omega
              rcases fct3 with ⟨x, y, x1, x2⟩ | ⟨c, x, y, _⟩
              · simp only at x y x1 x2
                have bC : ((cd2 : Int) == 0) = true := by rw [beq_iff_eq]; omega
                have Hwn := wrap_le HMM y
                by_cases hmore : len - a - sz2 < n2
                · exfalso; omega
                · have hmore' : ¬ ((len : Int) - a - sz2 < n2) := by omega
                  have NC0 : Hid (textStep (l.drop a) e 0 = ((l.drop (a + sz2)).take n2, l.drop (a + sz2 + n2), e)) := by show _ = _; rw [he0, textStep_ok (n := n2) (s := sz2) (by rw [HT2.out, x]), if_neg (by rw [hd.out]; omega), List.drop_drop, List.drop_drop, Nat.add_assoc]
                  have hcv : Hid (∀ (W : World) (c : Nat), Mod [] w W → n2 ≤ c → ∀ A', (a + sz2 < len → A' = a0.map (·.add (a + sz2))) → (convert 22 9 (.slice A' n2 c)).run Try.prog W = .ok (.string ⟨((l.drop (a + sz2)).take n2).toArray⟩) W) := fun W c mW hc A' hA =>
                    conv_rd (F := F) (Rd.recap (Rd.take (n := len - (a + sz2)) ((H.out.mod mW (by simp)).drop (a + sz2) (by omega) A' hA) n2 (by omega)) hc)
                  have NC := Lib.hid (ST.out.text (wrap64 (mo : Int)) 0 HMM.out HK.out ((l.drop (a + sz2)).take n2) (a + sz2 + n2) (e) (by rw [HL.out]; omega) (by exact NC0.out))
                  generalize (⟨((l.drop (a + sz2)).take n2).toArray⟩ : ByteArray) = txt at *
                  have hteq : (txt.toList == txt.toList) = true := by simp
                  have hsz : a + sz2 + n2 ≤ len := by omega
                  have hcap : len ≤ cap := by obtain ⟨_, hh⟩ := H.out.len; exact hh
                  clear he0 x NC0
                  have hLX : Hid (((len : Int) - ((a : Int) + (sz2 : Int) + (n2 : Int))) = (l.length : Int) - ((a + sz2 + n2 : Nat) : Int)) := by show _ = _; rw [HL.out]; omega
                  by_cases hcs : cap = a + sz2
                  · subst hcs
                    have hw0 := wrap0
                    have hkn := Hkn.out
                    go_wp2_with fail
                    refine T1.out.mono ?_
                    rintro r w3 ⟨rfl, rfl⟩
                    go_wp2_with fail
                    refine Calls.mono (by exact T2.out) ?_
                    rintro r w3 ⟨rfl, rfl⟩
                    go_wp2_with fail
                    refine NC.out.mono ?_
                    rintro r w5 ⟨rfl, sx⟩
                    go_wp2
                    rw [hcv.out w5 0 sx.mod (by omega) a0 (fun hh => absurd hh (by omega))]
                    have SX := Lib.hid sx
                    clear sx
                    go_wp2_with fail
                    refine SX.out.err.mono ?_
                    rintro r w4 ⟨rfl, rfl⟩
                    go_wp2_with fail
                    refine (SX.out.left ((len : Int) - ((a : Int) + (sz2 : Int) + (n2 : Int))) hLX.out).mono ?_
                    rintro r w4 ⟨rfl, rfl⟩
                    go_wp2
                    clear hw0 hkn
                    go_roundw
                    case rel => exact ⟨a + sz2 + n2, e, i + 1, by first | rfl | go_num | (congr 1; omega), by first | rfl | go_num, by go_num, by omega, by omega, by omega, SX.out⟩
                    case measure => simp [intOf]; omega
                  · have hw0 := wrap0
                    have hkn := Hkn.out
                    go_wp2_with fail
                    refine T1.out.mono ?_
                    rintro r w3 ⟨rfl, rfl⟩
                    go_wp2_with fail
                    refine Calls.mono (by exact T2.out) ?_
                    rintro r w3 ⟨rfl, rfl⟩
                    go_wp2_with fail
                    refine NC.out.mono ?_
                    rintro r w5 ⟨rfl, sx⟩
                    go_wp2
                    rw [hcv.out w5 (cap - (a + sz2)) sx.mod (by omega) _ (fun _ => rfl)]
                    have SX := Lib.hid sx
                    clear sx
                    go_wp2_with fail
                    refine SX.out.err.mono ?_
                    rintro r w4 ⟨rfl, rfl⟩
                    go_wp2_with fail
                    refine (SX.out.left ((len : Int) - ((a : Int) + (sz2 : Int) + (n2 : Int))) hLX.out).mono ?_
                    rintro r w4 ⟨rfl, rfl⟩
                    go_wp2
                    clear hw0 hkn
                    go_roundw
                    case rel => exact ⟨a + sz2 + n2, e, i + 1, by first | rfl | go_num | (congr 1; omega), by first | rfl | go_num, by go_num, by omega, by omega, by omega, SX.out⟩
                    case measure => simp [intOf]; omega
              · simp only [Prod.mk.injEq] at x
                obtain ⟨rfl, rfl, rfl⟩ := x
                have bC : ((cd2 : Int) == 0) = false := by rw [beq_eq_false_iff_ne]; omega
                have NC0 : Hid (textStep (l.drop a) e 0 = ([], l.drop a, cd2)) := by show _ = _; rw [he0, textStep_err HT2.out y]
                have IF := Lib.hid (show (if e = 0 then cd2 else e) = cd2 by rw [if_pos he0])
                have NC := Lib.hid (ST.out.text (wrap64 (mo : Int)) 0 HMM.out HK.out [] (a) (cd2) (by rw [HL.out]; omega) (by exact NC0.out))
                clear he0 y NC0
                have hLX : Hid (((len : Int) - (a : Int)) = (l.length : Int) - (a : Nat)) := by show _ = _; rw [HL.out]
                have hw0 := wrap0
                have hkn := Hkn.out
                go_wp2_with fail
                refine T1.out.mono ?_
                rintro r w3 ⟨rfl, rfl⟩
                go_wp2_with fail
                refine Calls.mono (by exact T2.out) ?_
                rintro r w3 ⟨rfl, rfl⟩
                go_wp2_with fail
                refine NC.out.mono ?_
                rintro r w5 ⟨rfl, sx⟩
                have SY := Lib.hid sx
                clear sx
                go_wp2_with fail
                refine (first_c e cd2 _).mono ?_
                rintro r w6 ⟨rfl, rfl⟩
                rw [IF.out]
                have sx := SY.out
                have SX := Lib.hid sx
                clear sx
                go_wp2_with fail
                refine SX.out.err.mono ?_
                rintro r w4 ⟨rfl, rfl⟩
                go_wp2_with fail
                refine (SX.out.left ((len : Int) - (a : Int)) hLX.out).mono ?_
                rintro r w4 ⟨rfl, rfl⟩
                go_wp2
                clear hw0 hkn
                go_roundw
                case rel => exact ⟨a, cd2, i + 1, by first | rfl | go_num | (congr 1; omega), by first | rfl | go_num, by go_num, by omega, by omega, by omega, SX.out⟩
                case measure => simp [intOf]; omega
            · have bE : ((e : Int) == 0) = false := by rw [beq_eq_false_iff_ne]; omega
              have NC0 : Hid (textStep (l.drop a) e 0 = ([], l.drop a, e)) := textStep_bad he0
              have NC := Lib.hid (ST.out.text (wrap64 (mo : Int)) 0 HMM.out HK.out [] (a) (e) (by rw [HL.out]; omega) (by exact NC0.out))
              rcases fct3 with ⟨x, y, x1, x2⟩ | ⟨c, x, y, _⟩
              · simp only at x y x1 x2
                have bC : ((cd2 : Int) == 0) = true := by rw [beq_iff_eq]; omega
                by_cases hmore : len - a - sz2 < n2
                · exfalso; omega
                · have hmore' : ¬ ((len : Int) - a - sz2 < n2) := by omega
                  have IF := Lib.hid (show (if e = 0 then cd2 else e) = e by rw [if_neg he0])
                  clear he0 x NC0
                  have hLX : Hid (((len : Int) - (a : Int)) = (l.length : Int) - (a : Nat)) := by show _ = _; rw [HL.out]
                  have hw0 := wrap0
                  have hkn := Hkn.out
                  go_wp2_with fail
                  refine T1.out.mono ?_
                  rintro r w3 ⟨rfl, rfl⟩
                  go_wp2_with fail
                  refine Calls.mono (by exact T2.out) ?_
                  rintro r w3 ⟨rfl, rfl⟩
                  go_wp2_with fail
                  refine NC.out.mono ?_
                  rintro r w5 ⟨rfl, sx⟩
                  have SY := Lib.hid sx
                  clear sx
                  go_wp2_with fail
                  refine (first_c e cd2 _).mono ?_
                  rintro r w6 ⟨rfl, rfl⟩
                  rw [IF.out]
                  have sx := SY.out
                  have SX := Lib.hid sx
                  clear sx
                  go_wp2_with fail
                  refine SX.out.err.mono ?_
                  rintro r w4 ⟨rfl, rfl⟩
                  go_wp2_with fail
                  refine (SX.out.left ((len : Int) - (a : Int)) hLX.out).mono ?_
                  rintro r w4 ⟨rfl, rfl⟩
                  go_wp2
                  clear hw0 hkn
                  go_roundw
                  case rel => exact ⟨a, e, i + 1, by first | rfl | go_num | (congr 1; omega), by first | rfl | go_num, by go_num, by omega, by omega, by omega, SX.out⟩
                  case measure => simp [intOf]; omega
              · simp only [Prod.mk.injEq] at x
                obtain ⟨rfl, rfl, rfl⟩ := x
                have bC : ((cd2 : Int) == 0) = false := by rw [beq_eq_false_iff_ne]; omega
                have IF := Lib.hid (show (if e = 0 then cd2 else e) = e by rw [if_neg he0])
                clear he0 y NC0
                have hLX : Hid (((len : Int) - (a : Int)) = (l.length : Int) - (a : Nat)) := by show _ = _; rw [HL.out]
                have hw0 := wrap0
                have hkn := Hkn.out
                go_wp2_with fail
                refine T1.out.mono ?_
                rintro r w3 ⟨rfl, rfl⟩
                go_wp2_with fail
                refine Calls.mono (by exact T2.out) ?_
                rintro r w3 ⟨rfl, rfl⟩
                go_wp2_with fail
                refine NC.out.mono ?_
                rintro r w5 ⟨rfl, sx⟩
                have SY := Lib.hid sx
                clear sx
                go_wp2_with fail
                refine (first_c e cd2 _).mono ?_
                rintro r w6 ⟨rfl, rfl⟩
                rw [IF.out]
                have sx := SY.out
                have SX := Lib.hid sx
                clear sx
                go_wp2_with fail
                refine SX.out.err.mono ?_
                rintro r w4 ⟨rfl, rfl⟩
                go_wp2_with fail
                refine (SX.out.left ((len : Int) - (a : Int)) hLX.out).mono ?_
                rintro r w4 ⟨rfl, rfl⟩
                go_wp2
                clear hw0 hkn
                go_roundw
                case rel => exact ⟨a, e, i + 1, by first | rfl | go_num | (congr 1; omega), by first | rfl | go_num, by go_num, by omega, by omega, by omega, SX.out⟩
                case measure => simp [intOf]; omega
    · obtain rfl : i = len1 := by omega
      clear hlt
      by_cases he0 : e = 0
      · have bE : ((e : Int) == 0) = true := by rw [beq_iff_eq]; omega
        by_cases hal : a < len
        · have hal' : (a : Int) < len := by omega
          have EN : Hid (Calls Try.prog 21 #[.pointer (some ⟨p, 0, none⟩)] wr fun r w' => r = .returned (.int .u8 (7 : Nat)) ∧ wr = w') := by
            have := End_c ST.out.rdr
            have e1 : endOf (l.drop a) e = 7 := by
              unfold endOf; rw [if_neg (by simp [he0]), if_neg]
              intro h; have := congrArg List.length h; rw [List.length_drop, HL.out] at this; simp at this; omega
            rw [e1] at this; exact this
          clear he0
          go_wp2_with fail
          refine EN.out.mono ?_
          rintro r w4 ⟨rfl, rfl⟩
          go_wp2
          go_ret
          exact ⟨rfl, M.out⟩
        · have hal' : ¬ ((a : Int) < len) := by omega
          have EN : Hid (Calls Try.prog 21 #[.pointer (some ⟨p, 0, none⟩)] wr fun r w' => r = .returned (.int .u8 e) ∧ wr = w') := by
            have := End_c ST.out.rdr
            have e1 : endOf (l.drop a) e = e := by
              unfold endOf; rw [if_neg (by simp [he0]), if_pos (List.drop_eq_nil_of_le (by rw [HL.out]; omega)), he0]
            rw [e1] at this; exact this
          have hee : ((e : Int) == (e : Int)) = true := by simp
          clear he0
          go_wp2_with fail
          refine EN.out.mono ?_
          rintro r w4 ⟨rfl, rfl⟩
          go_wp2
          go_ret
          exact ⟨rfl, M.out⟩
      · have bE : ((e : Int) == 0) = false := by rw [beq_eq_false_iff_ne]; omega
        have EN : Hid (Calls Try.prog 21 #[.pointer (some ⟨p, 0, none⟩)] wr fun r w' => r = .returned (.int .u8 e) ∧ wr = w') := by
          have := End_c ST.out.rdr
          have e1 : endOf (l.drop a) e = e := by unfold endOf; rw [if_pos he0]
          rw [e1] at this; exact this
        have hee : ((e : Int) == (e : Int)) = true := by simp
        clear he0
        go_wp2_with fail
        refine EN.out.mono ?_
        rintro r w4 ⟨rfl, rfl⟩
        go_wp2
        go_ret
        exact ⟨rfl, M.out⟩
end Go.Proofs.Ytlmlijmfcpenpaa

/- Greatest; the law NatGreat: its walk. -/
import Derived.Test.YtkldjllnnbablaaDoorSJ
set_option linter.unusedVariables false
set_option linter.unusedSimpArgs false
namespace Go.Proofs.YtkldjllnnbablaaDoor
open Go.RowKit Go.Shelf

theorem greatest_step (k : Nat) : 2 * (2 ^ k - 1) + 1 = 2 ^ (k + 1) - 1 := by
  have := Nat.pow_pos (n := k) (show 0 < 2 by omega)
  rw [Nat.pow_succ]; omega
theorem two_lt_B (k m : Nat) (h : k ≤ 64 * m) : 2 ^ k - 1 < B64 ^ m := by
  have := pow_up h
  have := Nat.pow_pos (n := k) (show 0 < 2 by omega)
  omega

set_option maxRecDepth 100000 in
set_option maxHeartbeats 4000000 in
/-- Greatest. -/
theorem greatest_c (w : World) : Calls Tryd.prog 36 #[] w fun e w' => ∃ v', e = .returned v' ∧ DNew w (lim - 1) w' v' := by
  have LP := Lib.hid lim_pow
  go_enter Tryd.func36, Tryd.ntmps36
  go_wp2_with fail
  go_loopw [1, 2] (fun v i wr => ∃ k : Nat, i = .int .i64 k ∧ k ≤ 4096 ∧ Hid (DNew w (2 ^ k - 1) wr v)) (fun _ i _ => 4096 - (intOf i).toNat)
  case atStart => exact ⟨0, rfl, Nat.zero_le _, DNew.of_new (d := []) (NewV.nil 3 (Mod.refl _ _)) (Can.nil 10)⟩
  case round =>
    obtain ⟨k, rfl, hk, HN⟩ := hrel
    by_cases hk2 : k < 4096
    · obtain ⟨m, d, F, hd, hf⟩ := HN.out
      have hdl := dig_len (m := 64) hd.2 (two_lt_B k 64 (by omega))
      have DC := Lib.hid (double_c hd (by omega) 1 (by omega))
      clear hdl hd hf
      go_wp2_with fail
      refine DC.out.mono ?_
      rintro e w2 ⟨v', rfl, hn⟩
      have HN2 := Lib.hid (hn.after HN.out.1)
      rw [greatest_step] at HN2
      clear hn
      go_wp2_with fail
      go_roundw
      case rel => exact ⟨k + 1, by go_num, by omega, HN2.out⟩
      case measure => simp [intOf]; omega
    · obtain rfl : k = 64 * 64 := by omega
      rw [← LP.out] at HN
      go_wp2
      go_ret
      exact ⟨_, rfl, HN.out⟩

theorem Sl.lit_at (w : World) (E size n : Nat) (cs : Array Value) (g : Nat) (hg : w.heap.size = g) (hm : n ≤ maxLen) (hs : cs.size = n * size) : Sl (w.alloc (.cells cs E)) E size (.slice (some ⟨g, 0, none⟩) n n) n cs.toList [g] := by
  subst hg; exact Sl.lit w E size n cs hm hs
theorem NewV.of_empty_at {E : Nat} {w w1 : World} {l : List Value} {n g : Nat} {v' : Value} {F' : List Nat} (hg : w.heap.size = g) (hs1 : Sl w1 E 1 v' (0 + n) ([] ++ l) F') (hn : l.length = n) (hm1 : Mod [g] (w.alloc (.cells #[] E)) w1)
    (hf1 : ∀ k ∈ F', k ∈ [g] ∨ (w.alloc (.cells #[] E)).heap.size ≤ k) : NewV E w l w1 v' := by
  subst hg; exact NewV.of_empty hs1 hn hm1 hf1
/-- The greatest word; all words of the greatest number. -/
def M64 : Nat := 18446744073709551615
def full : List Nat := List.replicate 64 M64
theorem full_lt : ∀ x ∈ full, x < B64 := fun x hx => by rw [(List.mem_replicate.1 hx).2]; unfold M64 B64; omega
theorem vl_reps (k : Nat) : vl B64 (List.replicate k M64) + 1 = B64 ^ k := by
  induction k with
  | zero => rfl
  | succ k ih =>
    rw [List.replicate_succ, vl, Nat.pow_succ, ← ih, Nat.add_mul, Nat.mul_comm B64]
    unfold M64 B64; omega
theorem vl_full : vl B64 full = lim - 1 := by
  have := vl_reps 64
  unfold full lim
  omega
theorem full_can : Can B64 full (lim - 1) := ⟨full_lt, vl_full, fun x hx => by
  have := List.mem_of_getLast? hx
  rw [(List.mem_replicate.1 this).2]; unfold M64; omega⟩
theorem lim_pos : 2 ≤ lim := by
  have h : B64 ^ 1 ≤ B64 ^ 64 := Nat.pow_le_pow_right (by unfold B64; omega) (by omega)
  unfold lim
  rw [Nat.pow_one] at h
  unfold B64 at h ⊢
  omega

theorem Told.is {w w' : World} {q : Bool} {n : Nat} {e : Ending} (h : Told w q n e w') (b : Bool) (hq : q = b) (hn : b = true → n < lim) : ∃ v', e = .returned (.tuple #[v', .bool b]) ∧ (b = true → CNum w' v' n) ∧ Mod [] w w' := by
  subst hq
  cases q with
  | true => obtain ⟨v', he, hc, hm⟩ := h.yes rfl (hn rfl); exact ⟨v', he, fun _ => hc, hm⟩
  | false => obtain ⟨he, hm⟩ := h.no rfl; exact ⟨_, he, fun h => by simp at h, hm⟩
section
variable {w : World} {v1 v2 : Value} {a b : Nat}
theorem num_add_no (h1 : Num w v1 a) (h2 : Num w v2 b) (h : lim ≤ a + b) : Calls Tryd.prog 24 #[v1, v2] w fun e w' => e = .returned (.tuple #[.slice none 0 0, .bool false]) ∧ Mod [] w w' := by
  obtain ⟨l, F, n1, rfl, q1⟩ := h1
  obtain ⟨l2, F2, n2, rfl, q2⟩ := h2
  exact (add_c n1 n2 (by omega) (by omega)).mono fun e w' ht => ht.no (decide_eq_false (by omega))
theorem num_mul_no (h1 : Num w v1 a) (h2 : Num w v2 b) (h : lim ≤ a * b) : Calls Tryd.prog 28 #[v1, v2] w fun e w' => e = .returned (.tuple #[.slice none 0 0, .bool false]) ∧ Mod [] w w' := by
  obtain ⟨l, F, n1, rfl, q1⟩ := h1
  obtain ⟨l2, F2, n2, rfl, q2⟩ := h2
  exact (mul_c n1 n2 (by omega) (by omega)).mono fun e w' ht => ht.no (by rw [decide_eq_false (show ¬ vl B64 l * vl B64 l2 < lim by omega), Bool.and_false])
theorem num_sub_no (h1 : Num w v1 a) (h2 : Num w v2 b) (h : lim ≤ a) : Calls Tryd.prog 25 #[v1, v2] w fun e w' => e = .returned (.tuple #[.slice none 0 0, .bool false]) ∧ Mod [] w w' := by
  obtain ⟨l, F, n1, rfl, q1⟩ := h1
  obtain ⟨l2, F2, n2, rfl, q2⟩ := h2
  exact (sub_c n1 n2 (by omega) (by omega)).mono fun e w' ht => ht.no (by rw [decide_eq_false (show ¬ vl B64 l < lim by omega), Bool.false_and])
theorem num_text_no (h1 : Num w v1 a) (h : lim ≤ a) : Calls Tryd.prog 31 #[v1] w fun e w' => e = .returned (.tuple #[.string ⟨#[]⟩, .bool false]) ∧ Mod [] w w' := by
  obtain ⟨l, F, n1, rfl, q1⟩ := h1
  refine (text_c n1 (by omega)).mono fun e w' ht => ?_
  rcases ht with ⟨hm, ⟨q, _⟩ | ⟨_, he⟩⟩
  · omega
  · exact ⟨he, hm⟩
theorem num_div_no (h1 : Num w v1 a) (h : lim ≤ a) (m : Nat) (hmB : m < B64) : Calls Tryd.prog 12 #[v1, .int .u64 m] w fun e w' => e = .returned (.tuple #[.slice none 0 0, .int .u64 0, .bool false]) ∧ Mod [] w w' := by
  obtain ⟨l, F, n1, rfl, q1⟩ := h1
  refine (div_c n1 (by omega) m hmB).mono fun e w' ht => ?_
  rcases ht with ⟨_, q, _⟩ | ⟨_, he, hm⟩
  · omega
  · exact ⟨he, hm⟩
theorem num_cmp (h1 : Num w v1 a) (h2 : Num w v2 b) (z : Int) (hz : cmpN a b = z) : Calls Tryd.prog 19 #[v1, v2] w fun e w' => e = .returned (.int .i64 z) ∧ Mod [] w w' := by
  obtain ⟨l, F, n1, rfl, q1⟩ := h1
  obtain ⟨l2, F2, n2, rfl, q2⟩ := h2
  exact (cmp_c n1 n2 (by omega) (by omega)).mono fun e w' ht => ⟨by rw [ht.1, hz], ht.2⟩
theorem num_shift (h1 : Num w v1 a) (k : Nat) (b : Bool) (h : decide (a * 2 ^ k < lim) = b) : Calls Tryd.prog 29 #[v1, .int .i64 k] w fun e w' => ∃ v', e = .returned (.tuple #[v', .bool b]) ∧ Mod [] w w' := by
  obtain ⟨l, F, n1, rfl, q1⟩ := h1
  refine (shift_c n1 (by omega) k).mono fun e w' ht => ?_
  obtain ⟨v', he, _, hm⟩ := ht.is b h (fun hb => of_decide_eq_true (h.trans hb))
  exact ⟨v', he, hm⟩
end
theorem num_lit (w : World) (x g : Nat) (hg : w.heap.size = g) (hx : x < B64) : Num (w.alloc (.cells #[.int .u64 x] 23)) (.slice (some ⟨g, 0, none⟩) 1 1) x :=
  ⟨[x], [g], nv_lit w [x] g hg.symm (by simp) (by simpa using hx), by simp [vl], by simp⟩
theorem num_nil (w : World) : Num w (.slice none 0 0) 0 := ⟨[], [], Nv.nil w, rfl, by simp⟩
/-- A text of too many digits. -/
theorem parse_more {w : World} {d : List Nat} {a : Nat} (hd : Can 10 d a) (h1 : lim ≤ a * 10) (hl : d.length ≤ 1234) : Calls Tryd.prog 32 #[.string (⟨(textOf d).toArray⟩ ++ ⟨#[48]⟩)] w fun e w' => e = .returned (.tuple #[.slice none 0 0, .bool false]) ∧ Mod [] w w' := by
  obtain ⟨t1, t2, t3⟩ := textOf_read hd
  have h3 := t3 1233 hl
  have e1 : ((⟨(textOf d).toArray⟩ : ByteArray) ++ ⟨#[48]⟩).data.toList = textOf d ++ [48] := by simp
  have e2 : ((⟨(textOf d).toArray⟩ : ByteArray) ++ ⟨#[48]⟩).size = (textOf d).length + 1 := by simp [ByteArray.size]
  refine (parse_c _ (by rw [e2]; omega) w).mono fun e w' ht => ht.no ?_
  rw [e1, decide_eq_false (show ¬ rdv (textOf d ++ [48]) < lim by
    rw [rdv_snoc, t2]
    have : (48 : UInt8).toNat = 48 := rfl
    omega), Bool.and_false]
theorem ten_up (k a b : Nat) (ha : a = 93 * k + 4) (hb : b = 28 * k + 2) : 2 ^ a < 10 ^ b := by
  subst ha hb
  rw [Nat.pow_add, Nat.pow_add, Nat.pow_mul, Nat.pow_mul]
  have h : (2 ^ 93) ^ k ≤ (10 ^ 28) ^ k := Nat.pow_le_pow_left (by decide) k
  exact Nat.mul_lt_mul_of_le_of_lt h (by decide) (Nat.pow_pos (by decide))
theorem ten_digits : ∀ b, b = 1234 → lim < 10 ^ b := by
  intro b hb
  obtain ⟨e, he⟩ : ∃ e, e = 64 * 64 := ⟨_, rfl⟩
  have hl : lim = 2 ^ e := by rw [he]; exact lim_pow
  rw [hl]
  exact ten_up 44 e b (by omega) (by omega)
theorem len_lim {d : List Nat} (hd : Can 10 d (lim - 1)) : d.length ≤ 1234 := by
  obtain ⟨b, hb⟩ : ∃ b, b = 1234 := ⟨_, rfl⟩
  rw [← hb]
  exact (hd.fits (by omega) b).2 (Nat.lt_of_le_of_lt (Nat.sub_le _ _) (ten_digits b hb))
theorem shift_gen (e : Nat) (hl : lim = 2 ^ (e + 1)) (r : Nat) : decide (1 * 2 ^ (e + r) < lim) = decide (r = 0) := by
  rw [hl]
  have h : (1 * 2 ^ (e + r) < 2 ^ (e + 1)) ↔ r = 0 := by
    rw [Nat.one_mul, Nat.pow_lt_pow_iff_right (by omega)]
    omega
  by_cases q : r = 0
  · rw [decide_eq_true q, decide_eq_true (h.2 q)]
  · rw [decide_eq_false q, decide_eq_false (fun x => q (h.1 x))]
theorem shift_one (r kk : Nat) (h : kk = 4095 + r) : decide (1 * 2 ^ kk < lim) = decide (r = 0) := by
  obtain ⟨e, he⟩ : ∃ e, e = 4095 := ⟨_, rfl⟩
  have hl : lim = 2 ^ (e + 1) := by
    rw [show e + 1 = 64 * 64 by omega]; exact lim_pow
  rw [h, ← he]
  exact shift_gen e hl r

set_option maxRecDepth 100000 in
set_option maxHeartbeats 16000000 in
theorem natGreat_main (w : World) (n k : Nat) (hn : n < 256) (hk : k < 256) :
    Calls Tryd.prog 9 #[.int .u8 n, .int .u8 k] w fun e w' => e = .returned (.bool true) ∧ Mod [] w w' := by
  have AL := Lib.hid alive_c
  obtain ⟨i0, hi, hz0, hz1, hz2⟩ := info_parts Tryd.info23
  have hmk : ∀ w, (Instr.makeSlice 22 (.int .i64 64) (.int .i64 64)).run Tryd.prog w = .ok (.slice (some ⟨w.heap.size, 0, none⟩) 64 64) (w.alloc (.cells (madeCells #[.int .u64 0] 64) 23)) := fun w => made22 w 64 (by omega)
  go_enter Tryd.func9, Tryd.ntmps9
  generalize hMX : (18446744073709551615 : Int) = MX
  have HMX := Lib.hid hMX
  clear hMX
  go_wp2_with fail
  refine (AL.out w).mono ?_
  rintro e w1 ⟨rfl, m1⟩
  have MM := Lib.hid m1
  clear m1
  obtain ⟨g, hg⟩ : ∃ g, w1.heap.size = g := ⟨_, rfl⟩
  go_wp2_with fail
  have HMB : Hid (e6 M64 = .int .u64 MX) := by show _ = _; rw [← HMX.out]; rfl
  clear HMX
  go_loopw [6] (fun i wr => ∃ j : Nat, i = .int .i64 j ∧ j ≤ 64 ∧ Hid (Fill w1 g 64 wr (List.replicate j M64))) (fun i _ => 64 - (intOf i).toNat)
  case atStart => exact ⟨0, rfl, Nat.zero_le _, Fill.start hg.symm (by unfold maxLen; omega)⟩
  case round =>
    obtain ⟨j, rfl, hj, HF⟩ := hrel
    by_cases hj2 : j < 64
    · have hx := HF.out.at (k := j) (by simp) hj2
      have x0 := hx.1
      have x1 := hx.2
      have ST := Lib.hid (HF.out.put (k := j) (by simp) hj2 M64 (by unfold M64 B64; omega))
      rw [HMB.out, ← List.replicate_succ'] at ST
      clear hx HF
      go_wp2_with fail
      go_roundw
      case rel => exact ⟨j + 1, by go_num, by omega, ST.out⟩
      case measure => simp [intOf]; omega
    · obtain rfl : j = 64 := by omega
      have NV : Hid (Nv wr (.slice (some ⟨g, 0, none⟩) 64 64) full [g]) := ⟨by
        have h1 := HF.out.full (by simp)
        obtain ⟨F, h2, -⟩ := h1.rv
        have h3 := HF.out.sl
        rw [List.length_replicate, Nat.sub_self, List.replicate_zero, List.append_nil] at h3
        exact Rv.of_sl h3 (by unfold full; simp), full_lt⟩
      have MM2 := Lib.hid (MM.out.trans HF.out.mod (by simp))
      clear HF MM
      have FL : Hid ((full.map e6).length = 64) := by show _ = _; unfold full; simp
      obtain ⟨g2, hg2⟩ : ∃ g, wr.heap.size = g := ⟨_, rfl⟩
      have TA : Sl (wr.alloc (.cells #[] 23)) 23 1 (.slice (some ⟨g2, 0, none⟩) 0 0) 0 [] [g2] := (Sl.lit_at wr 23 1 0 #[] g2 hg2 (by unfold maxLen; omega) rfl)
      have TC : 0 < 64 → ∃ a, some (⟨g, 0, none⟩ : Addr) = some a ∧ ∀ j u, (full.map e6)[j]? = some u → (wr.alloc (.cells #[] 23)).cell? (a.add j) = some u := (NV.out.1.mod (S := []) (by (repeat (first | exact Mod.refl _ _ | apply Mod.drew | apply Mod.drewN | apply Mod.alloc | refine Mod.setCell ?_ _ _ (by first | simp | (simp; omega))))) (by simp)).src
      have TD : 0 + 64 ≤ maxLen := by unfold maxLen; omega
      have TE : (0 + 64) * 8 ≤ 140737488355328 := by omega
      have TF : 64 + 2 ≤ maxLen := by unfold maxLen; omega
      have TG : (64 + 2) * 8 ≤ 140737488355328 := by omega
      have TH : 64 + 1 ≤ maxLen := by unfold maxLen; omega
      have TI : (64 + 1) * 8 ≤ 140737488355328 := by omega
      go_wp2_with (first
        | (at_builtin; refine wpList_append_slz _ rfl _ _ 22 rfl 23 i0 (.int .u64 0) 1 8 Tryd.underlying22 hi hz0 hz1 hz2 rfl (by decide) _ 0 [] [g2] rfl TA (some ⟨g, 0, none⟩) 64 64 (full.map e6) rfl FL.out TC (e6_one _) TD TE ?_; intro va wa Fa hsa hma hfa; have NA := Lib.hid (NewV.of_empty_at hg2 hsa FL.out hma hfa); obtain ⟨aa, ca, rfl, _⟩ := hsa.shape; obtain ⟨Fb, sb, mb, fb⟩ := NA.out; rw [FL.out] at sb; have TA2 := sb.mod (S := []) ((Mod.refl [] wa).alloc (.cells #[.int .u64 0, .int .u64 0] 23)) (by simp); clear hsa hma hfa sb)
        | (at_builtin; refine wpList_append_sl _ rfl _ _ 22 rfl 23 i0 (.int .u64 0) 1 8 Tryd.underlying22 hi hz0 hz1 hz2 rfl (by decide) _ 64 (full.map e6) Fb rfl TA2 ⟨_, 0, none⟩ 2 2 [.int .u64 0, .int .u64 0] (by decide) rfl rfl (by intro j u hu; exact list_new_at _ _ _ _ (by simp) j u hu) (e6_one [0, 0]) TF TG ?_; intro vb wb Fc hsb hmb hfb; have NB := Lib.hid (NewV.app mb fb FL.out rfl ((Mod.refl [] wa).alloc (.cells #[.int .u64 0, .int .u64 0] 23)) hsb hmb hfb); obtain ⟨ab, cb, rfl, _⟩ := hsb.shape; obtain ⟨g3, hg3⟩ : ∃ g, wb.heap.size = g := ⟨_, rfl⟩; have MB := Lib.hid NB.out.mod; have TA3 := Sl.lit_at wb 23 1 0 #[] g3 hg3 (by unfold maxLen; omega) rfl; have TC3 := ((NV.out.1.mod (S := []) MB.out (by simp)).mod (S := []) ((Mod.refl [] wb).alloc (.cells #[] 23)) (by simp)).src; clear hsb hmb hfb TA2 mb fb NA TA TC)
        | (at_builtin; refine wpList_append_slz _ rfl _ _ 22 rfl 23 i0 (.int .u64 0) 1 8 Tryd.underlying22 hi hz0 hz1 hz2 rfl (by decide) _ 0 [] [g3] rfl TA3 (some ⟨g, 0, none⟩) 64 64 (full.map e6) rfl FL.out TC3 (e6_one _) TD TE ?_; intro vc wc Fd hsc hmc hfc; have NC := Lib.hid (NewV.of_empty_at hg3 hsc FL.out hmc hfc); obtain ⟨ac, cc, rfl, _⟩ := hsc.shape; obtain ⟨Fe, sc, mc, fc⟩ := NC.out; rw [FL.out] at sc; have TA4 := sc.mod (S := []) ((Mod.refl [] wc).alloc (.cells #[.int .u64 n] 23)) (by simp); clear hsc hmc hfc sc)
        | (at_builtin; refine wpList_append_sl _ rfl _ _ 22 rfl 23 i0 (.int .u64 0) 1 8 Tryd.underlying22 hi hz0 hz1 hz2 rfl (by decide) _ 64 (full.map e6) Fe rfl TA4 ⟨_, 0, none⟩ 1 1 [.int .u64 n] (by decide) rfl rfl (by intro j u hu; exact list_new_at _ _ _ _ (by simp) j u hu) (e6_one [n]) TH TI ?_; intro vd wd Ff hsd hmd hfd; have ND := Lib.hid (NewV.app mc fc FL.out rfl ((Mod.refl [] wc).alloc (.cells #[.int .u64 n] 23)) hsd hmd hfd); obtain ⟨ad, cd, rfl, _⟩ := hsd.shape; clear hsd hmd hfd TA4 mc fc NC TA3 TC3)
        | fail)
      have FN : Hid (CNum wd (.slice (some ⟨g, 0, none⟩) 64 64) (lim - 1)) := ⟨full, [g], (NV.out.mod NB.out.mod (by simp)).mod ND.out.mod (by simp), full_can, by unfold full; simp⟩
      have OV : Hid (Num wd (.slice ab 66 cb) (lim - 1)) := by
        obtain ⟨Fo, ro, -⟩ := NB.out.rv
        have ro2 := ro.mod ND.out.mod (by simp)
        refine ⟨full ++ [0, 0], Fo, ⟨by rw [List.map_append]; exact ro2, fun x hx => ?_⟩, ?_, by unfold full; simp⟩
        · rcases List.mem_append.1 hx with q | q
          · exact full_lt x q
          · simp at q; rw [q]; unfold B64; omega
        · rw [vl_append, vl_full]; simp [vl]
      have MO : Hid (Num wd (.slice ad 65 cd) (lim - 1 + lim * n)) := by
        obtain ⟨Fo, ro, -⟩ := ND.out.rv
        refine ⟨full ++ [n], Fo, ⟨by rw [List.map_append]; exact ro, fun x hx => ?_⟩, ?_, by unfold full; simp⟩
        · rcases List.mem_append.1 hx with q | q
          · exact full_lt x q
          · simp at q; rw [q]; unfold B64; omega
        · rw [vl_snoc, vl_full]; unfold full; rw [List.length_replicate]; rfl
      have MM := Lib.hid ((MM2.out.trans NB.out.mod (by simp)).trans ND.out.mod (by simp))
      have LP := Lib.hid lim_pos
      obtain ⟨r, hr⟩ : ∃ r, k % 3 = r := ⟨_, rfl⟩
      obtain ⟨kk, hkk⟩ : ∃ kk, kk = 4095 + r := ⟨_, rfl⟩
      have SH := Lib.hid (shift_one r kk hkk)
      obtain ⟨b, hb⟩ : ∃ b, decide (r = 0) = b := ⟨_, rfl⟩
      rw [hb] at SH
      have hrI : ((k : Int) % 3 == 0) = b := by
        rw [← hb]
        by_cases q : r = 0
        · rw [decide_eq_true q, beq_iff_eq]; omega
        · rw [decide_eq_false q, beq_eq_false_iff_ne]; omega
      have hkI : 4095 + (k : Int) % 3 = (kk : Int) := by omega
      clear hr hb hkk NB ND NV MM2 FL TD TE TF TG TH TI hg2 hg3
      obtain ⟨N, hN⟩ : ∃ N, lim - 1 + lim * n = N := ⟨_, rfl⟩
      rw [hN] at MO
      have HNN := Lib.hid hN
      clear hN
      by_cases hn0 : n = 0
      · skip
        subst hn0
        have EN : Hid (N = lim - 1) := by show _ = _; rw [← HNN.out]; rfl
        refine (num_add OV.out (num_nil _) (by have := LP.out; omega)).mono ?_
        rintro e w11 ⟨v11, rfl, n11, m11⟩
        replace MM := Lib.hid (MM.out.trans m11 (by simp))
        replace FN := Lib.hid (FN.out.mod m11)
        replace OV := Lib.hid (OV.out.mod m11)
        replace MO := Lib.hid (MO.out.mod m11)
        have AN := Lib.hid n11
        clear n11 m11
        clear OV
        obtain ⟨g21, hg21⟩ : ∃ g, w11.heap.size = g := ⟨_, rfl⟩
        go_wp2_with fail
        refine (num_add_no (FN.out.num.mod ((Mod.refl [] w11).alloc (.cells #[.int .u64 1] 23))) (num_lit w11 1 g21 hg21 (by unfold B64; omega)) (by have := LP.out; omega)).mono ?_
        rintro e w12 ⟨rfl, m12⟩
        have ml12 := ((Mod.refl [] w11).alloc (.cells #[.int .u64 1] 23)).trans m12 (by simp)
        replace MM := Lib.hid (MM.out.trans ml12 (by simp))
        replace FN := Lib.hid (FN.out.mod ml12)
        replace MO := Lib.hid (MO.out.mod ml12)
        replace AN := Lib.hid (AN.out.mod ml12)
        clear m12 ml12 hg21
        obtain ⟨g22, hg22⟩ : ∃ g, w12.heap.size = g := ⟨_, rfl⟩
        go_wp2_with fail
        refine (num_mul_no (FN.out.num.mod ((Mod.refl [] w12).alloc (.cells #[.int .u64 2] 23))) (num_lit w12 2 g22 hg22 (by unfold B64; omega)) (by have := LP.out; omega)).mono ?_
        rintro e w13 ⟨rfl, m13⟩
        have ml13 := ((Mod.refl [] w12).alloc (.cells #[.int .u64 2] 23)).trans m13 (by simp)
        replace MM := Lib.hid (MM.out.trans ml13 (by simp))
        replace FN := Lib.hid (FN.out.mod ml13)
        replace MO := Lib.hid (MO.out.mod ml13)
        replace AN := Lib.hid (AN.out.mod ml13)
        clear m13 ml13 hg22
        obtain ⟨g23, hg23⟩ : ∃ g, w13.heap.size = g := ⟨_, rfl⟩
        go_wp2_with fail
        refine (num_add_no (MO.out.mod ((Mod.refl [] w13).alloc (.cells #[.int .u64 1] 23))) (num_lit w13 1 g23 hg23 (by unfold B64; omega)) (by have := LP.out; have := EN.out; omega)).mono ?_
        rintro e w14 ⟨rfl, m14⟩
        have ml14 := ((Mod.refl [] w13).alloc (.cells #[.int .u64 1] 23)).trans m14 (by simp)
        replace MM := Lib.hid (MM.out.trans ml14 (by simp))
        replace FN := Lib.hid (FN.out.mod ml14)
        replace MO := Lib.hid (MO.out.mod ml14)
        replace AN := Lib.hid (AN.out.mod ml14)
        clear m14 ml14 hg23
        go_wp2_with fail
        refine (num_text MO.out (by have := LP.out; have := EN.out; omega)).mono ?_
        rintro e w15 ⟨d15, -, rfl, m15⟩
        replace MM := Lib.hid (MM.out.trans m15 (by simp))
        replace FN := Lib.hid (FN.out.mod m15)
        replace MO := Lib.hid (MO.out.mod m15)
        replace AN := Lib.hid (AN.out.mod m15)
        clear m15
        go_wp2_with fail
        refine (num_div MO.out (by have := LP.out; have := EN.out; omega) 3 (by omega) (by unfold B64; omega)).mono ?_
        rintro e w16 ⟨v16, rfl, -, m16⟩
        replace MM := Lib.hid (MM.out.trans m16 (by simp))
        replace FN := Lib.hid (FN.out.mod m16)
        replace MO := Lib.hid (MO.out.mod m16)
        replace AN := Lib.hid (AN.out.mod m16)
        clear m16
        obtain ⟨g24, hg24⟩ : ∃ g, w16.heap.size = g := ⟨_, rfl⟩
        go_wp2_with fail
        refine (num_shift (num_lit w16 1 g24 hg24 (by unfold B64; omega)) kk b SH.out).mono ?_
        rintro e w17 ⟨v17, rfl, m17⟩
        have ml17 := ((Mod.refl [] w16).alloc (.cells #[.int .u64 1] 23)).trans m17 (by simp)
        replace MM := Lib.hid (MM.out.trans ml17 (by simp))
        replace FN := Lib.hid (FN.out.mod ml17)
        replace MO := Lib.hid (MO.out.mod ml17)
        replace AN := Lib.hid (AN.out.mod ml17)
        clear m17 ml17 hg24
        go_wp2_with fail
        refine (num_sub MO.out MO.out (by have := LP.out; have := EN.out; omega) (Nat.le_refl _)).mono ?_
        rintro e w18 ⟨v18, rfl, -, m18⟩
        replace MM := Lib.hid (MM.out.trans m18 (by simp))
        replace FN := Lib.hid (FN.out.mod m18)
        replace MO := Lib.hid (MO.out.mod m18)
        replace AN := Lib.hid (AN.out.mod m18)
        clear m18
        go_wp2_with fail
        refine (num_text FN.out.num (by have := LP.out; omega)).mono ?_
        rintro e w19 ⟨d, hd, rfl, m19⟩
        replace MM := Lib.hid (MM.out.trans m19 (by simp))
        replace FN := Lib.hid (FN.out.mod m19)
        replace MO := Lib.hid (MO.out.mod m19)
        replace AN := Lib.hid (AN.out.mod m19)
        have HD := Lib.hid hd
        have HDL := Lib.hid (len_lim hd)
        have htl : (textOf d).length ≤ 1234 := (textOf_read hd).2.2 1233 HDL.out
        clear hd m19
        go_wp2_with fail
        refine (num_parse HD.out (by have := LP.out; omega) HDL.out).mono ?_
        rintro e w20 ⟨v20, rfl, n20, m20⟩
        replace MM := Lib.hid (MM.out.trans m20 (by simp))
        replace FN := Lib.hid (FN.out.mod m20)
        replace MO := Lib.hid (MO.out.mod m20)
        replace AN := Lib.hid (AN.out.mod m20)
        have BKN := Lib.hid n20
        clear n20 m20
        go_wp2_with fail
        refine (parse_more HD.out (by have := LP.out; omega) HDL.out).mono ?_
        rintro e w21 ⟨rfl, m21⟩
        replace MM := Lib.hid (MM.out.trans m21 (by simp))
        replace FN := Lib.hid (FN.out.mod m21)
        replace MO := Lib.hid (MO.out.mod m21)
        replace AN := Lib.hid (AN.out.mod m21)
        replace BKN := Lib.hid (BKN.out.mod m21)
        clear m21
        go_wp2_with fail
        refine (num_sameWords AN.out FN.out (Nat.add_zero _)).mono ?_
        rintro e w22 ⟨rfl, m22⟩
        replace MM := Lib.hid (MM.out.trans m22 (by simp))
        replace FN := Lib.hid (FN.out.mod m22)
        replace MO := Lib.hid (MO.out.mod m22)
        replace AN := Lib.hid (AN.out.mod m22)
        replace BKN := Lib.hid (BKN.out.mod m22)
        clear m22
        go_wp2_with fail
        refine (greatest_c w22).mono ?_
        rintro e w23 ⟨v23, rfl, m23, dd, FF, hdd, -⟩
        replace MM := Lib.hid (MM.out.trans m23 (by simp))
        replace FN := Lib.hid (FN.out.mod m23)
        replace MO := Lib.hid (MO.out.mod m23)
        replace AN := Lib.hid (AN.out.mod m23)
        replace BKN := Lib.hid (BKN.out.mod m23)
        have GD := Lib.hid hdd
        clear hdd m23
        obtain rfl := Can.uniq (by omega) HD.out GD.out.2
        go_wp2_with fail
        refine (refText_c GD.out (Nat.le_trans HDL.out (by omega))).mono ?_
        rintro e w24 ⟨rfl, m24⟩
        replace MM := Lib.hid (MM.out.trans m24 (by simp))
        replace FN := Lib.hid (FN.out.mod m24)
        replace MO := Lib.hid (MO.out.mod m24)
        replace AN := Lib.hid (AN.out.mod m24)
        replace BKN := Lib.hid (BKN.out.mod m24)
        clear m24
        go_wp2_with fail
        refine (num_sameWords BKN.out FN.out rfl).mono ?_
        rintro e w25 ⟨rfl, m25⟩
        replace MM := Lib.hid (MM.out.trans m25 (by simp))
        replace FN := Lib.hid (FN.out.mod m25)
        replace MO := Lib.hid (MO.out.mod m25)
        replace AN := Lib.hid (AN.out.mod m25)
        replace BKN := Lib.hid (BKN.out.mod m25)
        clear m25
        have CZ : Hid (cmpN N (lim - 1) = 0) := by show _ = _; rw [EN.out, cmpN, if_neg (Nat.lt_irrefl _), if_neg (Nat.lt_irrefl _)]
        go_wp2_with fail
        refine (num_cmp MO.out FN.out.num 0 CZ.out).mono ?_
        rintro e w26 ⟨rfl, m26⟩
        replace MM := Lib.hid (MM.out.trans m26 (by simp))
        replace FN := Lib.hid (FN.out.mod m26)
        replace MO := Lib.hid (MO.out.mod m26)
        replace AN := Lib.hid (AN.out.mod m26)
        replace BKN := Lib.hid (BKN.out.mod m26)
        clear m26
        go_wp2
        go_ret
        exact ⟨rfl, MM.out⟩
      · skip
        have BIG : Hid (lim ≤ N) := by
          show _ ≤ _
          rw [← HNN.out]
          have h1 : lim * 1 ≤ lim * n := Nat.mul_le_mul_left _ (by omega)
          have := LP.out
          omega
        have hnb : ((n : Int) == 0) = false := by rw [beq_eq_false_iff_ne]; omega
        have hmin : min (n : Int) 1 = 1 := by omega
        refine (num_add OV.out (num_nil _) (by have := LP.out; omega)).mono ?_
        rintro e w11 ⟨v11, rfl, n11, m11⟩
        replace MM := Lib.hid (MM.out.trans m11 (by simp))
        replace FN := Lib.hid (FN.out.mod m11)
        replace OV := Lib.hid (OV.out.mod m11)
        replace MO := Lib.hid (MO.out.mod m11)
        have AN := Lib.hid n11
        clear n11 m11
        clear OV
        obtain ⟨g21, hg21⟩ : ∃ g, w11.heap.size = g := ⟨_, rfl⟩
        go_wp2_with fail
        refine (num_add_no (FN.out.num.mod ((Mod.refl [] w11).alloc (.cells #[.int .u64 1] 23))) (num_lit w11 1 g21 hg21 (by unfold B64; omega)) (by have := LP.out; omega)).mono ?_
        rintro e w12 ⟨rfl, m12⟩
        have ml12 := ((Mod.refl [] w11).alloc (.cells #[.int .u64 1] 23)).trans m12 (by simp)
        replace MM := Lib.hid (MM.out.trans ml12 (by simp))
        replace FN := Lib.hid (FN.out.mod ml12)
        replace MO := Lib.hid (MO.out.mod ml12)
        replace AN := Lib.hid (AN.out.mod ml12)
        clear m12 ml12 hg21
        obtain ⟨g22, hg22⟩ : ∃ g, w12.heap.size = g := ⟨_, rfl⟩
        go_wp2_with fail
        refine (num_mul_no (FN.out.num.mod ((Mod.refl [] w12).alloc (.cells #[.int .u64 2] 23))) (num_lit w12 2 g22 hg22 (by unfold B64; omega)) (by have := LP.out; omega)).mono ?_
        rintro e w13 ⟨rfl, m13⟩
        have ml13 := ((Mod.refl [] w12).alloc (.cells #[.int .u64 2] 23)).trans m13 (by simp)
        replace MM := Lib.hid (MM.out.trans ml13 (by simp))
        replace FN := Lib.hid (FN.out.mod ml13)
        replace MO := Lib.hid (MO.out.mod ml13)
        replace AN := Lib.hid (AN.out.mod ml13)
        clear m13 ml13 hg22
        obtain ⟨g23, hg23⟩ : ∃ g, w13.heap.size = g := ⟨_, rfl⟩
        go_wp2_with fail
        refine (num_add_no (MO.out.mod ((Mod.refl [] w13).alloc (.cells #[.int .u64 1] 23))) (num_lit w13 1 g23 hg23 (by unfold B64; omega)) (by have := LP.out; have := BIG.out; omega)).mono ?_
        rintro e w14 ⟨rfl, m14⟩
        have ml14 := ((Mod.refl [] w13).alloc (.cells #[.int .u64 1] 23)).trans m14 (by simp)
        replace MM := Lib.hid (MM.out.trans ml14 (by simp))
        replace FN := Lib.hid (FN.out.mod ml14)
        replace MO := Lib.hid (MO.out.mod ml14)
        replace AN := Lib.hid (AN.out.mod ml14)
        clear m14 ml14 hg23
        go_wp2_with fail
        refine (num_text_no MO.out BIG.out).mono ?_
        rintro e w15 ⟨rfl, m15⟩
        replace MM := Lib.hid (MM.out.trans m15 (by simp))
        replace FN := Lib.hid (FN.out.mod m15)
        replace MO := Lib.hid (MO.out.mod m15)
        replace AN := Lib.hid (AN.out.mod m15)
        clear m15
        go_wp2_with fail
        refine (num_div_no MO.out BIG.out 3 (by unfold B64; omega)).mono ?_
        rintro e w16 ⟨rfl, m16⟩
        replace MM := Lib.hid (MM.out.trans m16 (by simp))
        replace FN := Lib.hid (FN.out.mod m16)
        replace MO := Lib.hid (MO.out.mod m16)
        replace AN := Lib.hid (AN.out.mod m16)
        clear m16
        obtain ⟨g24, hg24⟩ : ∃ g, w16.heap.size = g := ⟨_, rfl⟩
        go_wp2_with fail
        refine (num_shift (num_lit w16 1 g24 hg24 (by unfold B64; omega)) kk b SH.out).mono ?_
        rintro e w17 ⟨v17, rfl, m17⟩
        have ml17 := ((Mod.refl [] w16).alloc (.cells #[.int .u64 1] 23)).trans m17 (by simp)
        replace MM := Lib.hid (MM.out.trans ml17 (by simp))
        replace FN := Lib.hid (FN.out.mod ml17)
        replace MO := Lib.hid (MO.out.mod ml17)
        replace AN := Lib.hid (AN.out.mod ml17)
        clear m17 ml17 hg24
        go_wp2_with fail
        refine (num_sub_no MO.out MO.out BIG.out).mono ?_
        rintro e w18 ⟨rfl, m18⟩
        replace MM := Lib.hid (MM.out.trans m18 (by simp))
        replace FN := Lib.hid (FN.out.mod m18)
        replace MO := Lib.hid (MO.out.mod m18)
        replace AN := Lib.hid (AN.out.mod m18)
        clear m18
        go_wp2_with fail
        refine (num_text FN.out.num (by have := LP.out; omega)).mono ?_
        rintro e w19 ⟨d, hd, rfl, m19⟩
        replace MM := Lib.hid (MM.out.trans m19 (by simp))
        replace FN := Lib.hid (FN.out.mod m19)
        replace MO := Lib.hid (MO.out.mod m19)
        replace AN := Lib.hid (AN.out.mod m19)
        have HD := Lib.hid hd
        have HDL := Lib.hid (len_lim hd)
        have htl : (textOf d).length ≤ 1234 := (textOf_read hd).2.2 1233 HDL.out
        clear hd m19
        go_wp2_with fail
        refine (num_parse HD.out (by have := LP.out; omega) HDL.out).mono ?_
        rintro e w20 ⟨v20, rfl, n20, m20⟩
        replace MM := Lib.hid (MM.out.trans m20 (by simp))
        replace FN := Lib.hid (FN.out.mod m20)
        replace MO := Lib.hid (MO.out.mod m20)
        replace AN := Lib.hid (AN.out.mod m20)
        have BKN := Lib.hid n20
        clear n20 m20
        go_wp2_with fail
        refine (parse_more HD.out (by have := LP.out; omega) HDL.out).mono ?_
        rintro e w21 ⟨rfl, m21⟩
        replace MM := Lib.hid (MM.out.trans m21 (by simp))
        replace FN := Lib.hid (FN.out.mod m21)
        replace MO := Lib.hid (MO.out.mod m21)
        replace AN := Lib.hid (AN.out.mod m21)
        replace BKN := Lib.hid (BKN.out.mod m21)
        clear m21
        go_wp2_with fail
        refine (num_sameWords AN.out FN.out (Nat.add_zero _)).mono ?_
        rintro e w22 ⟨rfl, m22⟩
        replace MM := Lib.hid (MM.out.trans m22 (by simp))
        replace FN := Lib.hid (FN.out.mod m22)
        replace MO := Lib.hid (MO.out.mod m22)
        replace AN := Lib.hid (AN.out.mod m22)
        replace BKN := Lib.hid (BKN.out.mod m22)
        clear m22
        go_wp2_with fail
        refine (greatest_c w22).mono ?_
        rintro e w23 ⟨v23, rfl, m23, dd, FF, hdd, -⟩
        replace MM := Lib.hid (MM.out.trans m23 (by simp))
        replace FN := Lib.hid (FN.out.mod m23)
        replace MO := Lib.hid (MO.out.mod m23)
        replace AN := Lib.hid (AN.out.mod m23)
        replace BKN := Lib.hid (BKN.out.mod m23)
        have GD := Lib.hid hdd
        clear hdd m23
        obtain rfl := Can.uniq (by omega) HD.out GD.out.2
        go_wp2_with fail
        refine (refText_c GD.out (Nat.le_trans HDL.out (by omega))).mono ?_
        rintro e w24 ⟨rfl, m24⟩
        replace MM := Lib.hid (MM.out.trans m24 (by simp))
        replace FN := Lib.hid (FN.out.mod m24)
        replace MO := Lib.hid (MO.out.mod m24)
        replace AN := Lib.hid (AN.out.mod m24)
        replace BKN := Lib.hid (BKN.out.mod m24)
        clear m24
        go_wp2_with fail
        refine (num_sameWords BKN.out FN.out rfl).mono ?_
        rintro e w25 ⟨rfl, m25⟩
        replace MM := Lib.hid (MM.out.trans m25 (by simp))
        replace FN := Lib.hid (FN.out.mod m25)
        replace MO := Lib.hid (MO.out.mod m25)
        replace AN := Lib.hid (AN.out.mod m25)
        replace BKN := Lib.hid (BKN.out.mod m25)
        clear m25
        have CZ : Hid (cmpN N (lim - 1) = 1) := by show _ = _; have := BIG.out; have := LP.out; rw [cmpN, if_neg (by omega), if_pos (by omega)]
        go_wp2_with fail
        refine (num_cmp MO.out FN.out.num 1 CZ.out).mono ?_
        rintro e w26 ⟨rfl, m26⟩
        replace MM := Lib.hid (MM.out.trans m26 (by simp))
        replace FN := Lib.hid (FN.out.mod m26)
        replace MO := Lib.hid (MO.out.mod m26)
        replace AN := Lib.hid (AN.out.mod m26)
        replace BKN := Lib.hid (BKN.out.mod m26)
        clear m26
        go_wp2
        go_ret
        exact ⟨rfl, MM.out⟩
theorem natGreat_walk (w : World) (n : Int) (wn : (Lit.int .u8 n).wf = true) (k : Int) (wk : (Lit.int .u8 k).wf = true) :
    Calls Tryd.prog 9 #[.int .u8 n, .int .u8 k] w fun e w' => e = .returned (.bool true) ∧ Mod [] w w' := by
  obtain ⟨h0, h1⟩ := bounds_u8 wn
  obtain ⟨k0, k1⟩ := bounds_u8 wk
  obtain ⟨m, rfl⟩ := Int.eq_ofNat_of_zero_le h0
  obtain ⟨j, rfl⟩ := Int.eq_ofNat_of_zero_le k0
  exact natGreat_main w m j (by omega) (by omega)
end Go.Proofs.YtkldjllnnbablaaDoor

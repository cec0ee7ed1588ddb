/- divided, Div. -/
import Derived.Test.YtkldjllnnbablaaDoorH
set_option linter.unusedVariables false
set_option linter.unusedSimpArgs false
namespace Go.Proofs.YtkldjllnnbablaaDoor
open Go.RowKit Go.Shelf

theorem MRow.later {w1 wr w' : World} {g n : Nat} {l : List Nat} (h : MRow w1 g n wr l) (m : Mod [] wr w') : MRow w1 g n w' l := ⟨h.lt, h.len, h.sl.mod m (by simp), h.mod.trans m (by simp), h.new⟩

/-- What the loop keeps: the quotient's words from the top. -/
structure VInv (w1 : World) (g n m : Nat) (l : List Nat) (wr : World) (k r : Nat) (q : List Nat) : Prop where
  row : MRow w1 g n wr (List.replicate k 0 ++ q)
  len : k + q.length = n
  rest : r < m
  val : vl B64 (l.drop k) = m * vl B64 q + r
theorem VInv.step {w1 wr : World} {g n m j r : Nat} {l q : List Nat} (h : VInv w1 g n m l wr (j + 1) r q) (hl : l.length = n) (hj : j < n) (hm : 0 < m) (hlt : ∀ x ∈ l, x < B64) :
    VInv w1 g n m l (wr.setCell ⟨g, j, none⟩ (e6 ((r * B64 + l.getD j 0) / m))) j ((r * B64 + l.getD j 0) % m) ((r * B64 + l.getD j 0) / m :: q) := by
  have hx := getD_lt hlt j
  have hd : (r * B64 + l.getD j 0) / m < B64 := by
    rw [Nat.div_lt_iff_lt_mul hm]
    have := h.rest
    have h2 : (r + 1) * B64 ≤ m * B64 := Nat.mul_le_mul_right _ this
    rw [Nat.add_mul] at h2
    rw [Nat.mul_comm B64 m]
    omega
  have hdm := Nat.div_add_mod (r * B64 + l.getD j 0) m
  refine ⟨?_, by simp; have := h.len; omega, Nat.mod_lt _ hm, ?_⟩
  · have h1 := h.row.put (k := j) _ hd
    have e : (List.replicate (j + 1) 0 ++ q).set j ((r * B64 + l.getD j 0) / m) = List.replicate j 0 ++ ((r * B64 + l.getD j 0) / m) :: q := by
      rw [List.replicate_succ', List.append_assoc, List.set_append_right _ _ (by simp)]
      simp
    rw [e] at h1
    exact h1
  · have e : l.getD j 0 = l[j]'(by omega) := by rw [List.getD_eq_getElem?_getD, List.getElem?_eq_getElem (by omega)]; rfl
    rw [vl_drop B64 l (by omega), h.val, ← e]
    simp only [vl]
    rw [Nat.mul_add, Nat.mul_add, Nat.mul_left_comm m]
    rw [Nat.mul_comm B64 r]
    omega

set_option maxRecDepth 100000 in
set_option maxHeartbeats 4000000 in
/-- divided. -/
theorem divided_c {w : World} {v : Value} {l F : List Nat} (h : Nv w v l F) (hl : l.length ≤ 1000) (m : Nat) (hm : 0 < m) (hmB : m < B64) :
    Calls Tryd.prog 38 #[v, .int .u64 m] w fun e w' => ∃ v', e = .returned (.tuple #[v', .int .u64 ((vl B64 l % m : Nat) : Int)]) ∧ NNew w (vl B64 l / m) w' v' := by
  obtain ⟨A, cap, rfl, hc⟩ := h.1.shape
  obtain ⟨r0, hr0⟩ : ∃ r0, vl B64 l % m = r0 := ⟨_, rfl⟩
  rw [hr0]
  have HR0 := Lib.hid hr0
  have H := Lib.hid h
  have HM := Lib.hid hm
  have HMB := Lib.hid hmB
  clear h hm hmB hr0
  rw [List.length_map] at H hc ⊢
  obtain ⟨n, hn⟩ : ∃ n, l.length = n := ⟨_, rfl⟩
  rw [hn] at hl hc H ⊢
  have HN := Lib.hid hn
  clear hn
  have hmk := fun w => made22 w n (by omega)
  have DC := Lib.hid div64_c
  obtain ⟨g, hg⟩ : ∃ g, w.heap.size = g := ⟨_, rfl⟩
  go_enter Tryd.func38, Tryd.ntmps38
  go_wp2_with fail
  go_loopw [8, 7] (fun i v7 wr => ∃ (k r : Nat) (q : List Nat), i = .int .i64 ((k : Int) - 1) ∧ v7 = .int .u64 r ∧ k ≤ n ∧ Hid (VInv w g n m l wr k r q)) (fun i _ _ => (intOf i + 1).toNat)
  case atStart =>
    refine ⟨n, 0, [], by go_num, rfl, Nat.le_refl _, ⟨?_, by simp, HM.out, ?_⟩⟩
    · rw [List.append_nil]
      exact MRow.start hg.symm (by unfold maxLen; omega)
    · rw [List.drop_of_length_le (by rw [HN.out]; exact Nat.le_refl _)]; simp [vl]
  case round =>
    obtain ⟨k, r, q, hv, rfl, hk, HI⟩ := hrel
    rcases k with _ | j
    · obtain rfl := hv
      have hv0 := HI.out.val
      rw [List.drop_zero] at hv0
      have hrw := HI.out.row
      rw [List.replicate_zero, List.nil_append] at hrw
      have hq : vl B64 q = vl B64 l / m := by
        rw [hv0, Nat.mul_add_div HM.out, Nat.div_eq_of_lt HI.out.rest, Nat.add_zero]
      have hr : r = r0 := by rw [← HR0.out, hv0, Nat.mul_add_mod, Nat.mod_eq_of_lt HI.out.rest]
      subst hr
      obtain ⟨F2, h3, _⟩ := hrw.full.rv
      have NC := Lib.hid (norm_c ⟨h3, hrw.lt⟩ (by rw [hrw.len]; omega))
      rw [hq] at NC
      have MM := Lib.hid hrw.mod
      clear hv0 hrw hq h3 HI DC
      go_wp2_with fail
      refine NC.out.mono ?_
      rintro e w' ⟨v', rfl, hnn⟩
      have HNN := Lib.hid hnn
      clear hnn
      go_wp2
      go_ret2
      exact ⟨_, rfl, HNN.out.after MM.out⟩
    · have hv2 := hv.trans (show Value.int .i64 (((j + 1 : Nat) : Int) - 1) = .int .i64 (j : Int) by congr 1; omega)
      clear hv
      subst hv2
      obtain ⟨b1, o1, rfl, d1⟩ := (H.out.1.mod HI.out.row.mod (by simp)).at j (by rw [List.length_map, HN.out]; omega)
      have hxA : l.getD j 0 = l[j]'(by rw [HN.out]; omega) := by rw [List.getD_eq_getElem?_getD, List.getElem?_eq_getElem]; rfl
      rw [List.getElem_map, ← hxA] at d1
      unfold e6 at d1
      have C := Lib.hid (fun w => DC.out r (l.getD j 0) m HI.out.rest (getD_lt H.out.2 j) HMB.out w)
      have ST := Lib.hid (fun w' (hm : Mod [] _ w') => VInv.step (j := j) ⟨HI.out.row.later hm, HI.out.len, HI.out.rest, HI.out.val⟩ HN.out (by omega) HM.out H.out.2)
      have RW := Lib.hid (fun w' (hm : Mod [] _ w') => (HI.out.row.later hm).at (k := j) (by omega))
      generalize l.getD j 0 = x at *
      obtain ⟨dq, hdq⟩ : ∃ d, (r * B64 + x) / m = d := ⟨_, rfl⟩
      obtain ⟨dr, hdr⟩ : ∃ d, (r * B64 + x) % m = d := ⟨_, rfl⟩
      rw [hdq, hdr] at ST
      rw [hdq, hdr] at C
      clear hdq hdr hxA DC HI
      go_wp2_with fail
      refine (C.out _).mono ?_
      rintro e w' ⟨rfl, hm⟩
      have y0 := (RW.out w' hm).1
      have y1 := (RW.out w' hm).2
      have NX := Lib.hid (ST.out w' hm)
      clear ST RW hm C
      go_wp2_with fail
      go_roundw
      case rel => exact ⟨j, dr, _, by go_num, rfl, by omega, NX.out⟩
      case measure => simp [intOf]

set_option maxRecDepth 100000 in
set_option maxHeartbeats 4000000 in
/-- Div. -/
theorem div_c {w : World} {v : Value} {l F : List Nat} (h : Nv w v l F) (hl : l.length ≤ 1000) (m : Nat) (hmB : m < B64) :
    Calls Tryd.prog 12 #[v, .int .u64 m] w fun e w' =>
      (0 < m ∧ vl B64 l < lim ∧ ∃ v', e = .returned (.tuple #[v', .int .u64 ((vl B64 l % m : Nat) : Int), .bool true]) ∧ NNew w (vl B64 l / m) w' v') ∨
      ((m = 0 ∨ ¬ vl B64 l < lim) ∧ e = .returned (.tuple #[.slice none 0 0, .int .u64 0, .bool false]) ∧ Mod [] w w') := by
  have LE : Hid (∀ m, Can B64 m (vl B64 l) → m.length ≤ 1000) := fun m hm => Nat.le_trans (hm.le one_lt_B h.2 rfl) hl
  have C1 := Lib.hid (norm_c h (by omega))
  have DV := Lib.hid (fun w v l F => @divided_c w v l F)
  have HMB := Lib.hid hmB
  generalize vl B64 l = n at *
  clear h hl hmB
  go_enter Tryd.func12, Tryd.ntmps12
  go_wp2_with fail
  refine C1.out.mono ?_
  rintro e w1 ⟨u1, rfl, m1, k1, n1⟩
  have N1 := Lib.hid n1
  have K1 := Lib.hid k1
  obtain ⟨A1, c1, rfl⟩ := n1.shape
  clear n1 k1 C1
  have E1 : Hid ((m1.map e6).length = m1.length) := List.length_map _
  rw [E1.out] at N1 ⊢
  have FT := Lib.hid fits_c
  have D1 : Hid (decide (m1.length ≤ 64) = decide (n < lim)) := by show _ = _; rw [decide_eq_decide]; exact K1.out.fits64
  have CD : Hid (∀ w2, Mod [] w1 w2 → 0 < m → Calls Tryd.prog 38 #[.slice A1 m1.length c1, .int .u64 m] w2 fun e w' => ∃ v', e = .returned (.tuple #[v', .int .u64 ((n % m : Nat) : Int)]) ∧ NNew w2 (n / m) w' v') := fun w2 hm2 h0 => by
    obtain ⟨F1, r1, _⟩ := (N1.out.later hm2).rv
    have := DV.out _ _ _ _ ⟨r1, K1.out.lt⟩ (LE.out _ K1.out) m h0 HMB.out
    rw [K1.out.val] at this
    exact this
  obtain ⟨q1, hq1⟩ : ∃ q, m1.length = q := ⟨_, rfl⟩
  rw [hq1] at N1 D1 CD ⊢
  clear hq1 E1
  by_cases hm0 : m = 0
  · have hz : ((m : Int) == 0) = true := by rw [beq_iff_eq]; omega
    have HM0 := Lib.hid hm0
    clear hm0
    go_wp2
    go_returns
    exact .inr ⟨.inl HM0.out, rfl, N1.out.mod⟩
  · have hz : ((m : Int) == 0) = false := by rw [beq_eq_false_iff_ne]; omega
    have FC := Lib.hid (FT.out A1 q1 c1)
    rw [D1.out] at FC
    clear FT
    by_cases hlt : n < lim
    · have T := Lib.hid (decide_eq_true hlt)
      have HLT := Lib.hid hlt
      clear hlt
      rw [T.out] at FC
      go_wp2_with fail
      refine (FC.out _).mono ?_
      rintro e w3 ⟨rfl, rfl⟩
      go_wp2_with fail
      refine (CD.out _ (Mod.refl _ _) (by omega)).mono ?_
      rintro e w3 ⟨v', rfl, hnn⟩
      have HNN := Lib.hid hnn
      clear hnn CD
      go_wp2
      go_returns
      exact .inl ⟨by omega, HLT.out, _, rfl, HNN.out.after N1.out.mod⟩
    · have T := Lib.hid (decide_eq_false hlt)
      have HLT := Lib.hid hlt
      clear hlt
      rw [T.out] at FC
      go_wp2_with fail
      refine (FC.out _).mono ?_
      rintro e w3 ⟨rfl, rfl⟩
      go_wp2
      go_returns
      exact .inr ⟨.inr HLT.out, rfl, N1.out.mod⟩
end Go.Proofs.YtkldjllnnbablaaDoor

/- The reference's Mul. -/
import Derived.Test.YtkldjllnnbablaaDoorO
import Derived.BigRegion
set_option linter.unusedVariables false
set_option linter.unusedSimpArgs false
namespace Go.Proofs.YtkldjllnnbablaaDoor
open Go.RowKit Go.Shelf

theorem Sl.made3 (w : World) (n g : Nat) (hg : g = w.heap.size) (hm : n ≤ maxLen) : Sl (w.alloc (.cells (madeCells #[.int .i64 0] n) 3)) 3 1 (.slice (some ⟨g, 0, none⟩) n n) n ((List.replicate n 0).map ei) [g] := by
  subst hg
  have h := Sl.made w 3 1 n #[.int .i64 0] hm
  rw [Nat.mul_one] at h
  have e : (madeCells #[Value.int .i64 0] n).toList = (List.replicate n 0).map ei := by
    apply List.ext_getElem?
    intro i
    rw [List.map_replicate]
    by_cases hi : i < n
    · rw [List.getElem?_replicate, if_pos hi, Array.getElem?_toList]
      have h2 := (Row.made w n (.int .i64 0) 3 w.heap.size rfl)
      obtain ⟨A, hb, hs, hA⟩ := h2
      have hb2 : Blk (w.alloc (.cells (madeCells #[.int .i64 0] n) 3)) w.heap.size (madeCells #[.int .i64 0] n) 3 := Blk.new _ _ _
      have : A = madeCells #[.int .i64 0] n := by
        unfold Blk at hb hb2
        rw [hb] at hb2
        simpa using hb2
      rw [← this, hA i hi]; rfl
    · rw [List.getElem?_eq_none (by simp [size_madeCells]; omega), List.getElem?_eq_none (by simp; omega)]
  rw [e] at h
  exact h
theorem made28 (w : World) (n : Nat) (hn : n ≤ 100000) : (Instr.makeSlice 28 (.int .i64 n) (.int .i64 n)).run Tryd.prog w = .ok (.slice (some ⟨w.heap.size, 0, none⟩) n n) (w.alloc (.cells (madeCells #[.int .i64 0] n) 3)) := by
  obtain ⟨i0, hi, hz0, hz1, hz2⟩ := info_parts Tryd.info3
  have := run_make (P := Tryd.prog) w 28 3 i0 _ Tryd.underlying28 hi hz0 .i64 .i64 n n (by omega) (by omega) (by rw [hz2]; omega) (by omega)
  simpa [hz1, Value.cells] using this
/-- A row of n whole numbers that the call has made: l. -/
structure IRow (w1 : World) (g n : Nat) (wr : World) (l : List Nat) : Prop where
  len : l.length = n
  sl : Sl wr 3 1 (.slice (some ⟨g, 0, none⟩) n n) n (l.map ei) [g]
  mod : Mod [] w1 wr
  new : w1.heap.size ≤ g
theorem IRow.start {w1 : World} {g n : Nat} (hg : g = w1.heap.size) (hn : n ≤ maxLen) : IRow w1 g n (w1.alloc (.cells (madeCells #[.int .i64 0] n) 3)) (List.replicate n 0) :=
  ⟨by simp, Sl.made3 w1 n g hg hn, (Mod.refl _ _).alloc _, by omega⟩
theorem IRow.put {w1 wr : World} {g n : Nat} {l : List Nat} (h : IRow w1 g n wr l) (k x : Nat) : IRow w1 g n (wr.setCell ⟨g, k, none⟩ (ei x)) (l.set k x) := by
  refine ⟨by simp [h.len], ?_, h.mod.setCell _ _ (fun q => by have := h.new; simp at q; omega), h.new⟩
  have h1 := h.sl.set k (ei x)
  rw [← List.map_set] at h1
  exact h1
theorem IRow.at {w1 wr : World} {g n k : Nat} {l : List Nat} (h : IRow w1 g n wr l) (hn : k < n) : wr.cell? ⟨g, k, none⟩ = some (.int .i64 (l.getD k 0 : Nat)) ∧ wr.frozen? ⟨g, k, none⟩ = false := by
  have h1 := h.sl.at k (by omega)
  refine ⟨?_, h1.2.1⟩
  rw [h1.1, List.getElem?_map, List.getD_eq_getElem?_getD, List.getElem?_eq_getElem (by rw [h.len]; exact hn)]; rfl
theorem IRow.drewN {w1 wr : World} {g n : Nat} {l : List Nat} (h : IRow w1 g n wr l) (d : Nat) : IRow w1 g n (wr.drewN d) l := ⟨h.len, h.sl.mod ((Mod.refl [] _).drewN d) (by simp), h.mod.drewN d, h.new⟩

theorem vl_add_at (b : Nat) (S : List Nat) (p z : Nat) (hp : p < S.length) : vl b (S.set p (S.getD p 0 + z)) = vl b S + b ^ p * z := by
  induction S generalizing p with
  | nil => simp at hp
  | cons x S ih =>
    cases p with
    | zero => simp [vl]; omega
    | succ p =>
      have h1 := ih p (by simpa using hp)
      simp only [List.set_cons_succ, vl, List.getD_cons_succ]
      rw [h1, Nat.pow_succ, Nat.mul_add, ← Nat.mul_assoc b, Nat.mul_comm b (b ^ p)]
      omega
theorem set_le {S : List Nat} {X : Nat} (h : ∀ x ∈ S, x ≤ X) (p y : Nat) (hy : y ≤ X) : ∀ x ∈ S.set p y, x ≤ X := by
  intro x hx
  rcases List.mem_or_eq_of_mem_set hx with q | q
  · exact h x q
  · omega
theorem getD_le {S : List Nat} {X : Nat} (h : ∀ x ∈ S, x ≤ X) (p : Nat) : S.getD p 0 ≤ X := by
  rw [List.getD_eq_getElem?_getD]
  by_cases q : p < S.length
  · rw [List.getElem?_eq_getElem q]; exact h _ (List.getElem_mem _)
  · rw [List.getElem?_eq_none (by omega)]; simp

/-- What the sums' loops keep: k products of row i are in. -/
structure UInv (w1 : World) (g n : Nat) (da db : List Nat) (wr : World) (i k : Nat) (S : List Nat) : Prop where
  row : IRow w1 g n wr S
  val : vl 10 S = vl 10 (da.take i) * vl 10 db + 10 ^ i * (da.getD i 0 * vl 10 (db.take k))
  le : ∀ x ∈ S, x ≤ 81 * (i * db.length + k)
theorem UInv.step {w1 wr : World} {g n i k : Nat} {da db S : List Nat} (h : UInv w1 g n da db wr i k S) (hA : ∀ x ∈ da, x < 10) (hB : ∀ x ∈ db, x < 10) (hik : i + k < n) :
    UInv w1 g n da db (wr.setCell ⟨g, i + k, none⟩ (ei (S.getD (i + k) 0 + da.getD i 0 * db.getD k 0))) i (k + 1) (S.set (i + k) (S.getD (i + k) 0 + da.getD i 0 * db.getD k 0)) := by
  refine ⟨h.row.put _ _, ?_, ?_⟩
  · rw [vl_add_at 10 S _ _ (by rw [h.row.len]; exact hik), h.val, vl_take_getD, Nat.mul_add (da.getD i 0), Nat.mul_add (10 ^ i), Nat.pow_add, Nat.mul_left_comm (da.getD i 0), Nat.mul_assoc, Nat.add_assoc]
  · have h1 : da.getD i 0 * db.getD k 0 ≤ 9 * 9 := Nat.mul_le_mul (by have := getD_lt10 hA i; omega) (by have := getD_lt10 hB k; omega)
    have h2 := getD_le h.le (i + k)
    exact set_le (fun x hx => by have := h.le x hx; omega) _ _ (by omega)
theorem UInv.next {w1 wr : World} {g n i : Nat} {da db S : List Nat} (h : UInv w1 g n da db wr i db.length S) : UInv w1 g n da db wr (i + 1) 0 S := by
  refine ⟨h.row, ?_, fun x hx => ?_⟩
  · rw [h.val, vl_take_getD, Nat.add_mul, List.take_of_length_le (Nat.le_refl _), List.take_zero]
    simp only [vl, Nat.mul_zero, Nat.add_zero]
    rw [Nat.mul_assoc]
  · have := h.le x hx
    rw [Nat.add_mul]
    omega

theorem UInv.drew {w1 wr : World} {g n i k : Nat} {da db S : List Nat} (h : UInv w1 g n da db wr i k S) : UInv w1 g n da db wr.drew i k S :=
  ⟨⟨h.row.len, h.row.sl.mod (Mod.refl [] _).drew (by simp), h.row.mod.drew, h.row.new⟩, h.val, h.le⟩
/-- What the carry's loop keeps. -/
structure WInv (w1 : World) (g n X : Nat) (T : List Nat) (wr : World) (i c : Nat) (o : List Nat) : Prop where
  row : IRow w1 g n wr (o ++ T.drop i)
  len : o.length = i
  lt : ∀ x ∈ o, x < 10
  carry : c ≤ X
  val : vl 10 o + 10 ^ i * c = vl 10 (T.take i)
theorem WInv.step {w1 wr : World} {g n X i c : Nat} {T o : List Nat} (h : WInv w1 g n X T wr i c o) (hT : T.length = n) (hi : i < n) (hX : ∀ x ∈ T, x ≤ X) :
    WInv w1 g n X T (wr.setCell ⟨g, i, none⟩ (ei ((T.getD i 0 + c) % 10))) (i + 1) ((T.getD i 0 + c) / 10) (o ++ [(T.getD i 0 + c) % 10]) := by
  have hx := getD_le hX i
  have hc := h.carry
  refine ⟨?_, by simp [h.len], fun y hy => ?_, by omega, ?_⟩
  · have h1 := h.row.put i ((T.getD i 0 + c) % 10)
    have e : (o ++ T.drop i).set i ((T.getD i 0 + c) % 10) = (o ++ [(T.getD i 0 + c) % 10]) ++ T.drop (i + 1) := by
      rw [List.set_append_right _ _ (by rw [h.len]; exact Nat.le_refl _), h.len, Nat.sub_self, List.drop_eq_getElem_cons (by omega), List.set_cons_zero]
      simp
    rw [e] at h1
    exact h1
  · rcases List.mem_append.1 hy with q | q
    · exact h.lt y q
    · simp at q; omega
  · have hv := h.val
    rw [vl_take_getD, vl_snoc, h.len, Nat.pow_succ]
    have e : 10 ^ i * ((T.getD i 0 + c) % 10 + 10 * ((T.getD i 0 + c) / 10)) = 10 ^ i * (T.getD i 0 + c) := by rw [Nat.mod_add_div]
    rw [Nat.mul_add, Nat.mul_add, ← Nat.mul_assoc] at e
    omega
theorem WInv.done {w1 wr : World} {g n X c a b : Nat} {T o da db : List Nat} (h : WInv w1 g n X T wr n c o) (hT : T.length = n) (hA : Can 10 da a) (hB : Can 10 db b) (hn : n = da.length + db.length + 1) (hv : vl 10 T = a * b) :
    vl 10 o = a * b ∧ Rv wr (.slice (some ⟨g, 0, none⟩) n n) (o.map ei) [g] := by
  have h1 := h.val
  rw [List.take_of_length_le (by omega), hv] at h1
  have h2 : a * b ≤ 10 ^ da.length * 10 ^ db.length := Nat.mul_le_mul (Nat.le_of_lt hA.upper) (Nat.le_of_lt hB.upper)
  have hc : c = 0 := by
    rcases Nat.eq_zero_or_pos c with q | q
    · exact q
    · have h3 : 10 ^ n * 1 ≤ 10 ^ n * c := Nat.mul_le_mul_left _ q
      have h4 : 10 ^ n = 10 ^ da.length * 10 ^ db.length * 10 := by rw [hn, Nat.pow_succ, Nat.pow_add]
      have h5 : 0 < 10 ^ da.length * 10 ^ db.length := Nat.mul_pos (Nat.pow_pos (by omega)) (Nat.pow_pos (by omega))
      omega
  subst hc
  refine ⟨by omega, ?_⟩
  have h3 := h.row.sl
  rw [List.drop_of_length_le (by omega), List.append_nil] at h3
  exact Rv.of_sl h3 (by rw [List.length_map, h.len])
theorem WInv.old {w1 wr : World} {g n X i c : Nat} {T o : List Nat} (h : WInv w1 g n X T wr i c o) (hT : T.length = n) (hi : i < n) : (o ++ T.drop i).getD i 0 = T.getD i 0 := by
  rw [List.getD_eq_getElem?_getD, List.getD_eq_getElem?_getD, List.getElem?_append_right (by rw [h.len]; exact Nat.le_refl _), h.len, Nat.sub_self, List.getElem?_drop, Nat.add_zero]

set_option maxRecDepth 100000 in
set_option maxHeartbeats 8000000 in
/-- Mul of digits. -/
theorem refMul_c {w : World} {v1 v2 : Value} {da db F1 F2 : List Nat} {a b : Nat} (h1 : Dv w v1 da a F1) (h2 : Dv w v2 db b F2) (hl1 : da.length ≤ 10000) (hl2 : db.length ≤ 10000) :
    Calls Tryd.prog 14 #[v1, v2] w fun e w' => ∃ v', e = .returned v' ∧ DNew w (a * b) w' v' := by
  obtain ⟨A1, cap1, rfl, hc1⟩ := h1.1.shape
  obtain ⟨A2, cap2, rfl, hc2⟩ := h2.1.shape
  have DA := Lib.hid h1
  have DB := Lib.hid h2
  clear h1 h2 hc1 hc2
  rw [List.length_map] at DA ⊢
  rw [List.length_map] at DB ⊢
  obtain ⟨na, hna⟩ : ∃ n, da.length = n := ⟨_, rfl⟩
  obtain ⟨nb, hnb⟩ : ∃ n, db.length = n := ⟨_, rfl⟩
  have HNA := Lib.hid hna
  have HNB := Lib.hid hnb
  rw [hna, hnb]
  rw [hna] at hl1 DA
  rw [hnb] at hl2 DB
  clear hna hnb
  have hmk : ∀ w, (Instr.makeSlice 28 (.int .i64 ((na : Int) + nb + 1)) (.int .i64 ((na : Int) + nb + 1))).run Tryd.prog w = .ok (.slice (some ⟨w.heap.size, 0, none⟩) (na + nb + 1) (na + nb + 1)) (w.alloc (.cells (madeCells #[.int .i64 0] (na + nb + 1)) 3)) := fun w => made28 w (na + nb + 1) (by omega)
  obtain ⟨g, hg⟩ : ∃ g, w.heap.size = g := ⟨_, rfl⟩
  have hcount : ∀ i k, i ≤ na → k ≤ nb → i * nb + k ≤ 100010000 := fun i k h1 h2 => by
    have : i * nb ≤ 10000 * 10000 := Nat.mul_le_mul (by omega) hl2
    omega
  have HCN := Lib.hid hcount
  clear hcount
  go_enter Tryd.func14, Tryd.ntmps14
  go_wp2_with fail
  go_loopw [6] (fun i wr => ∃ (k : Nat) (S : List Nat), i = .int .i64 k ∧ k ≤ na ∧ Hid (UInv w g (na + nb + 1) da db wr k 0 S)) (fun i _ => na - (intOf i).toNat)
  case atStart => exact ⟨0, _, rfl, Nat.zero_le _, ⟨IRow.start hg.symm (by unfold maxLen; omega), by simp [vl, vl_zero], fun x hx => by rw [(List.mem_replicate.1 hx).2]; omega⟩⟩
  case round =>
    obtain ⟨i, S, rfl, hi, HU⟩ := hrel
    by_cases hia : (i : Int) < na
    · obtain ⟨b1, o1, rfl, -⟩ := (DA.out.1).at i (by rw [List.length_map, HNA.out]; omega)
      have RA : Hid (∀ wq, Mod [] w wq → wq.cell? ⟨b1, o1 + i, none⟩ = some (.int .i64 (da.getD i 0 : Nat))) := fun wq m => by
        obtain ⟨b', o', e, d1⟩ := ((DA.out.1).mod m (by simp)).at i (by rw [List.length_map, HNA.out]; omega)
        simp at e
        obtain ⟨rfl, rfl⟩ := e
        rw [d1, List.getElem_map, List.getD_eq_getElem?_getD, List.getElem?_eq_getElem (by rw [HNA.out]; omega)]; rfl
      go_wp2_with fail
      go_loopw [7] (fun v7 wq => ∃ (k : Nat) (S : List Nat), v7 = .int .i64 k ∧ k ≤ nb ∧ Hid (UInv w g (na + nb + 1) da db wq i k S)) (fun v7 _ => nb - (intOf v7).toNat)
      case atStart => exact ⟨0, S, rfl, Nat.zero_le _, HU.out⟩
      case round =>
        obtain ⟨k, S, rfl, hk, HU⟩ := hrel
        by_cases hkb : (k : Int) < nb
        · obtain ⟨b2, o2, rfl, d2⟩ := ((DB.out.1).mod HU.out.row.mod (by simp)).at k (by rw [List.length_map, HNB.out]; omega)
          have e2 : db.getD k 0 = db[k]'(by rw [HNB.out]; omega) := by rw [List.getD_eq_getElem?_getD, List.getElem?_eq_getElem (by rw [HNB.out]; omega)]; rfl
          rw [List.getElem_map, ← e2] at d2
          unfold ei at d2
          have d1 := RA.out _ HU.out.row.mod
          have hx := HU.out.row.at (k := i + k) (by omega)
          have x0 := hx.1
          have x1 := hx.2
          have ST := Lib.hid (UInv.step HU.out DA.out.2.lt DB.out.2.lt (by omega))
          have hS := getD_le HU.out.le (i + k)
          rw [HNB.out] at hS
          have hS2 := HCN.out i k hi (by omega)
          have hxa := getD_lt10 DA.out.2.lt i
          have hxb := getD_lt10 DB.out.2.lt k
          have hpr : da.getD i 0 * db.getD k 0 ≤ 9 * 9 := Nat.mul_le_mul (by omega) (by omega)
          obtain ⟨x, hxx⟩ : ∃ x, da.getD i 0 = x := ⟨_, rfl⟩
          obtain ⟨y, hyy⟩ : ∃ y, db.getD k 0 = y := ⟨_, rfl⟩
          obtain ⟨z, hzz⟩ : ∃ z, S.getD (i + k) 0 = z := ⟨_, rfl⟩
          rw [hxx, hyy] at hpr
          rw [hxx, hyy, hzz] at ST
          rw [hxx] at d1
          rw [hyy] at d2
          rw [hzz] at x0 hS
          obtain ⟨p, hp⟩ : ∃ p, x * y = p := ⟨_, rfl⟩
          rw [hp] at hpr ST
          have hpI : (x : Int) * (y : Int) = p := by rw [← Int.natCast_mul, hp]
          have hzb : z ≤ 9000000000 := by omega
          clear hxx hyy hzz hp hxa hxb hS hS2 e2 hx HU
          go_wp2_with fail
          go_region
          go_wp2_with fail
          go_roundw
          case rel => exact ⟨k + 1, _, by go_num, by omega, ST.out.drew⟩
          case measure => simp [intOf]; omega
        · obtain rfl : k = nb := by omega
          have NX : Hid (UInv w g (na + k + 1) da db _ (i + 1) 0 S) := UInv.next (by rw [HNB.out]; exact HU.out)
          clear HU
          go_wp2_with fail
          go_roundw
          case rel => exact ⟨i + 1, S, by go_num, by omega, NX.out⟩
          case measure => simp [intOf]; omega
    · obtain rfl : i = na := by omega
      have hv : vl 10 S = a * b := by
        have h1 := HU.out.val
        rw [show da.take i = da from List.take_of_length_le (by rw [HNA.out]; exact Nat.le_refl _), List.take_zero, DA.out.2.val, DB.out.2.val] at h1
        simpa [vl] using h1
      have HV := Lib.hid hv
      have hX : ∀ x ∈ S, x ≤ 8100810000 := fun x hx => by
        have h1 := HU.out.le x hx
        rw [HNB.out] at h1
        have h2 := HCN.out i 0 (Nat.le_refl _) (Nat.zero_le _)
        omega
      have HX := Lib.hid hX
      have HSL := Lib.hid HU.out.row.len
      have START : Hid (WInv w g (i + nb + 1) 8100810000 S wr 0 0 []) := ⟨by rw [List.nil_append, List.drop_zero]; exact HU.out.row, rfl, by simp, by omega, by simp [vl]⟩
      clear hv hX HU HCN
      go_wp2_with fail
      go_loopw [9, 8] (fun v9 v8 wq => ∃ (k c : Nat) (o : List Nat), v9 = .int .i64 k ∧ v8 = .int .i64 c ∧ k ≤ i + nb + 1 ∧ Hid (WInv w g (i + nb + 1) 8100810000 S wq k c o)) (fun v9 _ _ => i + nb + 1 - (intOf v9).toNat)
      case atStart => exact ⟨0, 0, [], rfl, rfl, Nat.zero_le _, START.out⟩
      case round =>
        clear START
        obtain ⟨k, c, o, rfl, rfl, hk, HW⟩ := hrel
        by_cases hkn : (k : Int) < (i : Int) + nb + 1
        · have hx := HW.out.row.at (k := k) (by omega)
          rw [HW.out.old HSL.out (by omega)] at hx
          have x0 := hx.1
          have x1 := hx.2
          have ST := Lib.hid (HW.out.step HSL.out (by omega) HX.out)
          have hxl := getD_le HX.out k
          have hcl := HW.out.carry
          generalize S.getD k 0 = x at *
          obtain ⟨s, hs⟩ : ∃ s, (x + c) % 10 = s := ⟨_, rfl⟩
          obtain ⟨t, ht⟩ : ∃ t, (x + c) / 10 = t := ⟨_, rfl⟩
          have hsI : ((x : Int) + (c : Int)) % 10 = s := by omega
          have htI : ((x : Int) + (c : Int)) / 10 = t := by omega
          rw [hs, ht] at ST
          clear hs ht hx HW
          go_wp2_with fail
          go_roundw
          case rel => exact ⟨k + 1, t, o ++ [s], by go_num, by rw [htI], by omega, ST.out⟩
          case measure => simp [intOf]; omega
        · obtain rfl : k = i + nb + 1 := by omega
          have hd := HW.out.done HSL.out DA.out.2 DB.out.2 (by rw [HNA.out, HNB.out]) HV.out
          have TC := Lib.hid (trim_c hd.2 HW.out.lt (by rw [HW.out.len]; omega))
          rw [hd.1] at TC
          have HM := Lib.hid HW.out.row.mod
          have HG := Lib.hid HW.out.row.new
          clear hd HW
          go_wp2_with fail
          refine TC.out.mono ?_
          rintro e w' ⟨hw, v', d, rfl, hdd⟩
          subst hw
          have HD := Lib.hid hdd
          clear hdd
          go_wp2
          go_ret
          exact ⟨_, rfl, HM.out, d, _, HD.out, fun k hk => by simp at hk; subst hk; exact HG.out⟩
end Go.Proofs.YtkldjllnnbablaaDoor

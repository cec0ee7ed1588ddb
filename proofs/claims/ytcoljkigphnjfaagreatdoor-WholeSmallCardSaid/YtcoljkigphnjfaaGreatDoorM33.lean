/- References: Down, Table by levels. · Plain: the orders of up to four variables; a table by levels. · References: Parts, the different nodes of a term's text. · References: Term of a form, Nodes, Sizes. · Plain: the reference's texts are the printed diagrams. -/
import Derived.Test.YtcoljkigphnjfaaGreatDoorM07
import Derived.Test.YtcoljkigphnjfaaGreatDoorM32
import Derived.Deep.RegionHeld3
import Derived.Test.YtcoljkigphnjfaaGreatDoorM08
import Derived.Test.YtcoljkigphnjfaaGreatDoorM01
import Derived.Test.YtcoljkigphnjfaaGreatDoorM31
set_option linter.unusedVariables false
set_option linter.unusedSimpArgs false
namespace Go.Proofs.YtcoljkigphnjfaaGreatDoor
open Go.RowKit

/-- An assignment by levels. -/
def downN (p : List Nat) (x : Nat) : Nat := p.foldl (fun y v => 2 * y + valN x v) 0
theorem foldl_down_lt (x : Nat) : ∀ (p : List Nat) (y : Nat), p.foldl (fun y v => 2 * y + valN x v) y < (y + 1) * 2 ^ p.length := by
  intro p
  induction p with
  | nil => intro y; simp
  | cons v p ih =>
    intro y
    have h := ih (2 * y + valN x v)
    have h2 : valN x v ≤ 1 := by unfold valN; omega
    simp only [List.foldl_cons, List.length_cons]
    refine Nat.lt_of_lt_of_le h ?_
    rw [Nat.pow_succ, Nat.mul_comm (2 ^ p.length) 2, ← Nat.mul_assoc]
    exact Nat.mul_le_mul_right _ (by omega)
theorem downN_lt (p : List Nat) (x : Nat) : downN p x < 2 ^ p.length := by
  have := foldl_down_lt x p 0
  simpa [downN] using this

set_option maxHeartbeats 2000000 in
theorem down_c {w : World} {v : Value} {p : List Nat} {n : Nat} {F : List Nat} (h : Rv w v (p.map ei) F) (hl : p.length = n) (hn : n ≤ 16) (hp : ∀ v ∈ p, v ≤ 16) (x : Nat) (hx : x ≤ 1000000) :
    Calls Tryz.prog 89 #[v, .int .i64 x] w fun e w' => e = .returned (.int .i64 (downN p x : Nat)) ∧ w' = w := by
  obtain ⟨A, cap, rfl, hc⟩ := h.shape
  have H := Lib.hid h
  have HL := Lib.hid hl
  have HP := Lib.hid hp
  simp only [List.length_map] at H hc ⊢
  rw [hl] at H hc ⊢
  clear h hl hp
  go_enter Tryz.func89, Tryz.ntmps89
  go_wp2_with fail
  go_loop [5, 6] (fun y i => ∃ k z : Nat, k ≤ n ∧ i = .int .i64 k ∧ y = .int .i64 z ∧ Hid (z = downN (p.take k) x)) (fun _ i => n - (intOf i).toNat)
  case atStart => exact ⟨0, 0, by omega, rfl, rfl, by show _ = _; simp [downN]⟩
  case round =>
    obtain ⟨k, z, hk, rfl, rfl, HZ⟩ := hrel
    by_cases hlt : k < n
    · have hlt' : (k : Int) < n := by omega
      have hk1 : k < p.length := by rw [HL.out]; exact hlt
      obtain ⟨b1, o1, rfl, d1⟩ := H.out.at k (by rw [List.length_map]; exact hk1)
      rw [List.getElem_map] at d1
      have TA : Hid (downN (p.take (k + 1)) x = 2 * z + valN x p[k]) := by
        show _ = _
        rw [List.take_succ_eq_append_getElem hk1, HZ.out]; unfold downN; rw [List.foldl_append]; rfl
      have hz : z < 65536 := by
        rw [HZ.out]
        have h1 := downN_lt (p.take k) x
        have h2 := Nat.pow_le_pow_right (n := 2) (by omega) (show (p.take k).length ≤ 16 by rw [List.length_take]; omega)
        have h3 : 2 ^ 16 = 65536 := rfl
        omega
      have hv : valN x p[k] ≤ 1 := by unfold valN; omega
      have VA := Lib.hid (value_c x p[k] (by omega) (by have := HP.out p[k] (List.getElem_mem _); omega))
      unfold ei at d1
      generalize p[k] = q at *
      generalize valN x q = u at *
      clear hk1
      go_wp2_with fail
      refine (VA.out _).mono ?_
      rintro e w' ⟨rfl, rfl⟩
      go_wp2_with fail
      go_round
      case rel => exact ⟨k + 1, 2 * z + u, by omega, by go_num, by go_num, TA.out.symm⟩
      case measure => simp [intOf]; omega
    · obtain rfl : k = n := by omega
      go_wp2_with fail
      go_ret
      have e : p.take k = p := List.take_of_length_le (by rw [HL.out]; exact Nat.le_refl _)
      exact ⟨by rw [HZ.out, e]; rfl, rfl⟩

/-- A table by levels: at each assignment's place by levels what it is. -/
def ByL (p : List Nat) (t xs : List Bool) : Prop := xs.length = t.length ∧ ∀ x, x < t.length → xs[downN p x]? = t[x]?

set_option maxRecDepth 100000 in
set_option maxHeartbeats 2000000 in
theorem table09_c {w : World} {v v2 : Value} {p : List Nat} {t : List Bool} {n : Nat} {F F2 : List Nat} (h : Rv w v (p.map ei) F) (hl : p.length = n) (hn : n ≤ 5) (hp : ∀ v ∈ p, v ≤ 16) (ht : Rv w v2 (t.map eb) F2) (htl : t.length = 2 ^ n)
    (hinj : ∀ x y, x < 2 ^ n → y < 2 ^ n → downN p x = downN p y → x = y) :
    Calls Tryz.prog 51 #[v, v2] w fun e w' => ∃ v' xs, e = .returned v' ∧ NewV 4 w (xs.map eb) w' v' ∧ ByL p t xs := by
  obtain ⟨A, cap, rfl⟩ := h.frame
  obtain ⟨A2, cap2, rfl, hc2⟩ := ht.shape
  have H := Lib.hid h
  have HT := Lib.hid ht
  have h32 : 2 ^ n ≤ 32 := by have := Nat.pow_le_pow_right (n := 2) (by omega) hn; simpa using this
  have DN : Hid (∀ (W : World) (x : Nat), Mod [] w W → x ≤ 1000000 → _) := fun W x m hx => down_c (h.mod m (by simp)) hl (by omega) hp x hx
  have DL : Hid (∀ x, downN p x < 2 ^ n) := fun x => by have := downN_lt p x; rw [hl] at this; exact this
  have HI := Lib.hid hinj
  simp only [List.length_map] at H HT DN hc2 ⊢
  rw [hl] at H DN ⊢
  obtain ⟨N, hN⟩ : ∃ N, t.length = N := ⟨_, rfl⟩
  have hNn : N = 2 ^ n := hN.symm.trans htl
  rw [hN] at HT hc2 ⊢
  rw [← hNn] at HI DL h32
  have HN := Lib.hid hN
  clear h ht hl hp htl hinj hN hNn
  have hmk := fun w => madeBools w N (by omega)
  obtain ⟨g, hg⟩ : ∃ g, w.heap.size = g := ⟨_, rfl⟩
  go_enter Tryz.func51, Tryz.ntmps51
  go_wp2_with fail
  have HG := Lib.hid hg
  have S0 := Lib.hid (Sl.made1 w 4 N (.bool false) (by unfold maxLen; omega) g hg.symm)
  have M0 : Hid (Mod [] w (w.alloc (.cells (madeCells #[.bool false] N) 4))) := (Mod.refl _ _).alloc _
  clear hmk hg
  generalize w.alloc (.cells (madeCells #[.bool false] N) 4) = w0 at *
  go_loopw [6] (fun i wr => ∃ k : Nat, ∃ xs : List Bool, k ≤ N ∧ i = .int .i64 k ∧ Hid (xs.length = N) ∧ Hid (∀ j, j < k → xs[downN p j]? = t[j]?) ∧ Hid (Sl wr 4 1 (.slice (some ⟨g, 0, none⟩) N N) N (xs.map eb) [g]) ∧ Hid (Mod [] w wr)) (fun i _ => N - (intOf i).toNat)
  case atStart => exact ⟨0, List.replicate N false, by omega, rfl, by show _ = _; simp, by intro j hj; omega, by show Sl _ _ _ _ _ _ _; simpa [eb] using S0.out, M0⟩
  case round =>
    obtain ⟨k, xs, hk, rfl, HXL, HXS, HS, HM⟩ := hrel
    clear S0 M0
    by_cases hlt : k < N
    · have hlt' : (k : Int) < N := by omega
      have hk1 : k < t.length := by rw [HN.out]; exact hlt
      obtain ⟨b1, o1, rfl, d0⟩ := HT.out.at k (by rw [List.length_map]; exact hk1)
      have hb1 := World.block_lt_of_cell? w _ d0
      simp only at hb1
      have hbg : ¬ b1 = g := by have := HG.out; omega
      have hbg2 : ¬ g = b1 := fun e => hbg e.symm
      have d1 := (HM.out.cell (a := ⟨b1, o1 + k, none⟩) hb1 (by simp)).trans d0
      clear d0
      rw [List.getElem_map] at d1
      have TK : Hid (t[k]? = some t[k]) := List.getElem?_eq_getElem hk1
      have hyN := DL.out k
      have DK := Lib.hid (fun (W : World) (m : Mod [] wr W) => DN.out W k (HM.out.trans' m) (by omega))
      have HIK : Hid (∀ j, j < k → downN p j ≠ downN p k) := fun j hj e => by have := HI.out j k (by omega) hlt e; omega
      obtain ⟨y, hy⟩ : ∃ y, downN p k = y := ⟨_, rfl⟩
      have HY := Lib.hid hy
      rw [hy] at DK hyN HIK
      clear hy
      obtain ⟨e1, e2, -⟩ := HS.out.at y (by omega)
      rw [List.getElem?_map, List.getElem?_eq_getElem (by rw [HXL.out]; exact hyN)] at e1
      simp only [Option.map_some, eb] at e1
      unfold eb at d1
      generalize t[k] = c at *
      have hbl := World.block_lt_of_cell? wr _ d1
      have hgl := World.block_lt_of_cell? wr _ e1
      simp only at hbl hgl
      have hy0 : (0 : Int) ≤ y := by omega
      have hy1 : (y : Int) < N := by omega
      go_wp2_with fail
      have e2' : wr.frozen? ⟨g, y, none⟩ = false := e2
      go_region_held3 (fun w' => w'.cell? ⟨b1, o1 + k, none⟩ = some (.bool c)) (go_keep) (first | (go_at_call 89; refine (DK.out _ (by (repeat (first | exact Mod.refl _ _ | apply Mod.drew | apply Mod.drewN | apply Mod.alloc | refine Mod.setCell ?_ _ _ (by first | simp | (simp; omega)))))).mono ?_; rintro e' w1 ⟨rfl, rfl⟩))
      have HS2 := Lib.hid (HS.out.set y (.bool c))
      have HM2 := Lib.hid (HM.out.setCell ⟨g, y, none⟩ (.bool c) (by have := HG.out; simp; omega))
      go_wp2_with fail
      go_roundw
      case rel =>
        refine ⟨k + 1, xs.set y c, by omega, by go_num, by show _ = _; rw [List.length_set]; exact HXL.out, ?_, ?_, ?_⟩
        · intro j hj
          rw [List.getElem?_set]
          by_cases q : j = k
          · subst q
            rw [HY.out, if_pos rfl, if_pos (by rw [HXL.out]; exact hyN), TK.out]
          · rw [if_neg (fun e => HIK.out j (by omega) e.symm)]
            exact HXS.out j (by omega)
        · show Sl _ _ _ _ _ _ _
          rw [List.map_set]
          exact HS2.out
        · exact HM2.out.drew
      case measure => simp [intOf]; omega
    · obtain rfl : k = N := by omega
      go_wp2_with fail
      go_ret
      refine ⟨_, xs, rfl, ⟨[g], ?_, HM.out, by intro q hq; simp at hq; subst hq; rw [HG.out]; omega⟩, by rw [HXL.out, HN.out], fun x hx => HXS.out x (by rw [← HN.out]; exact hx)⟩
      rw [List.length_map, HXL.out]
      exact HS.out
end Go.Proofs.YtcoljkigphnjfaaGreatDoor
set_option linter.unusedVariables false
set_option linter.unusedSimpArgs false
namespace Go.Proofs.YtcoljkigphnjfaaGreatDoor

def permsF : Nat → List Nat → List (List Nat)
  | 0, p => [p]
  | m + 1, p => p :: (match nextP p with | some q => permsF m q | none => [])
/-- All orders of n variables, from the first one. -/
def permsL (n : Nat) : List (List Nat) := permsF 23 (List.range n)
/-- Which assignment stands where in the table by levels. -/
def idxL (p : List Nat) : Nat → Nat → Nat → List Nat
  | 0, _, x => [x]
  | k + 1, l, x => idxL p k (l + 1) x ++ idxL p k (l + 1) (x ||| 2 ^ p.getD l 0)
theorem tabL_idx (W : Nat) (p : List Nat) : ∀ k l x, tabL W p k l x = (idxL p k l x).map W.testBit := by
  intro k
  induction k with
  | zero => intro l x; rfl
  | succ k ih => intro l x; rw [tabL, idxL, ih, ih, List.map_append]
theorem idxL_len (p : List Nat) : ∀ k l x, (idxL p k l x).length = 2 ^ k := by
  intro k
  induction k with
  | zero => intro l x; rfl
  | succ k ih => intro l x; rw [idxL, List.length_append, ih, ih, Nat.pow_succ]; omega

/-- What the walk needs of each order, as a test. -/
def goodP (n : Nat) (p : List Nat) : Bool :=
  decide (p.length = n) && p.all (fun v => decide (v < n)) && decide p.Nodup &&
  (match descM p (n - 1) with | 0 => true | i + 1 => (bestB p i (n - (i + 1))).isSome) &&
  (match nextP p with | none => true | some q => (permsL n).contains q && decide ((permsL n).idxOf p < (permsL n).idxOf q)) &&
  (List.range (2 ^ n)).all (fun x => decide (downN p x < 2 ^ n) && decide ((idxL p n 0 0).getD (downN p x) 0 = x)) &&
  (List.range (2 ^ n)).all (fun y => decide ((idxL p n 0 0).getD y 0 < 2 ^ n) && decide (downN p ((idxL p n 0 0).getD y 0) = y))
theorem goodP_0 : (permsL 0).all (goodP 0) = true := by decide +kernel
theorem goodP_1 : (permsL 1).all (goodP 1) = true := by decide +kernel
theorem goodP_2 : (permsL 2).all (goodP 2) = true := by decide +kernel
theorem goodP_3 : (permsL 3).all (goodP 3) = true := by decide +kernel
theorem goodP_4 : (permsL 4).all (goodP 4) = true := by decide +kernel
theorem goodP_all {n : Nat} (hn : n ≤ 4) {p : List Nat} (hp : p ∈ permsL n) : goodP n p = true := by
  obtain rfl | rfl | rfl | rfl | rfl : n = 0 ∨ n = 1 ∨ n = 2 ∨ n = 3 ∨ n = 4 := by omega
  · exact List.all_eq_true.1 goodP_0 p hp
  · exact List.all_eq_true.1 goodP_1 p hp
  · exact List.all_eq_true.1 goodP_2 p hp
  · exact List.all_eq_true.1 goodP_3 p hp
  · exact List.all_eq_true.1 goodP_4 p hp
theorem perms_range (n : Nat) : List.range n ∈ permsL n := by unfold permsL permsF; simp

structure GoodP (n : Nat) (p : List Nat) : Prop where
  len : p.length = n
  lt : ∀ v ∈ p, v < n
  nd : p.Nodup
  best : ∀ i, descM p (n - 1) = i + 1 → ∃ b, bestB p i (n - (i + 1)) = some b
  next : ∀ q, nextP p = some q → q ∈ permsL n ∧ (permsL n).idxOf p < (permsL n).idxOf q
  down : ∀ x, x < 2 ^ n → downN p x < 2 ^ n ∧ (idxL p n 0 0).getD (downN p x) 0 = x
  idx : ∀ y, y < 2 ^ n → (idxL p n 0 0).getD y 0 < 2 ^ n ∧ downN p ((idxL p n 0 0).getD y 0) = y
theorem permsL_good {n : Nat} (hn : n ≤ 4) {p : List Nat} (hp : p ∈ permsL n) : GoodP n p := by
  have h := goodP_all hn hp
  unfold goodP at h
  simp only [Bool.and_eq_true, decide_eq_true_eq, List.all_eq_true, List.mem_range] at h
  obtain ⟨⟨⟨⟨⟨⟨h1, h2⟩, h3⟩, h4⟩, h5⟩, h6⟩, h7⟩ := h
  refine ⟨h1, h2, h3, fun i hi => ?_, fun q hq => ?_, h6, h7⟩
  · rw [hi] at h4
    exact Option.isSome_iff_exists.1 h4
  · rw [hq] at h5
    simp only [Bool.and_eq_true, decide_eq_true_eq, List.contains_iff_mem] at h5
    exact h5
theorem GoodP.inj {n : Nat} {p : List Nat} (h : GoodP n p) (x y : Nat) (hx : x < 2 ^ n) (hy : y < 2 ^ n) (e : downN p x = downN p y) : x = y := by
  rw [← (h.down x hx).2, ← (h.down y hy).2, e]
theorem GoodP.table {n W : Nat} {p : List Nat} {t xs : List Bool} (h : GoodP n p) (ht : t.length = 2 ^ n) (hW : ∀ i, W.testBit i = t.getD i false) (hx : ByL p t xs) : xs = tabL W p n 0 0 := by
  obtain ⟨hl, hb⟩ := hx
  rw [ht] at hl hb
  refine List.ext_getElem? fun y => ?_
  by_cases hy : y < 2 ^ n
  · obtain ⟨h1, h2⟩ := h.idx y hy
    have h3 := hb _ h1
    rw [h2] at h3
    have hil : y < (idxL p n 0 0).length := by rw [idxL_len]; exact hy
    have hz : (idxL p n 0 0)[y]? = some ((idxL p n 0 0).getD y 0) := by
      rw [List.getD_eq_getElem?_getD, List.getElem?_eq_getElem hil]; rfl
    generalize (idxL p n 0 0).getD y 0 = z at *
    rw [h3, tabL_idx, List.getElem?_map, hz, List.getElem?_eq_getElem (by omega)]
    simp only [Option.map_some]
    rw [hW, List.getD_eq_getElem?_getD, List.getElem?_eq_getElem (by omega)]
    rfl
  · rw [List.getElem?_eq_none (by omega), List.getElem?_eq_none (by rw [tabL_len]; omega)]
end Go.Proofs.YtcoljkigphnjfaaGreatDoor
set_option linter.unusedVariables false
set_option linter.unusedSimpArgs false
namespace Go.Proofs.YtcoljkigphnjfaaGreatDoor
open Go.RowKit

/-- How many bytes till so many brackets are closed. -/
def closeL : Nat → List UInt8 → Nat
  | 0, _ => 0
  | _ + 1, [] => 0
  | d + 1, c :: l => 1 + closeL (d + 1 + (if c = 40 then 1 else 0) - (if c = 41 then 1 else 0)) l
/-- The texts of nodes, one for each bracket that opens. -/
def subs : List UInt8 → List (List UInt8)
  | [] => []
  | c :: l => if c = 40 then (c :: l.take (closeL 1 l)) :: subs l else subs l
theorem Tryz.infoS : (Tryz.prog.info? 9).map (fun i => (i.zero, i.size, i.bytes)) = some (some (.string ⟨#[]⟩), 1, 16) := by kernel_rfl
theorem u8_ne {c : UInt8} {n : Nat} (hn : n < 256) (h : ¬ c = UInt8.ofNat n) : ¬ c.toNat = n := fun e => h (by
  apply UInt8.toNat_inj.1; rw [UInt8.toNat_ofNat', e]; omega)
theorem closeL_le : ∀ (l : List UInt8) (d : Nat), closeL d l ≤ l.length := by
  intro l
  induction l with
  | nil => intro d; cases d <;> simp [closeL]
  | cons c l ih =>
    intro d
    cases d with
    | zero => simp [closeL]
    | succ d => rw [closeL]; have := ih (d + 1 + (if c = 40 then 1 else 0) - (if c = 41 then 1 else 0)); simp only [List.length_cons]; omega

set_option maxRecDepth 100000 in
set_option maxHeartbeats 4000000 in
theorem parts_c (b : ByteArray) (s : List UInt8) (hb : b.data.toList = s) (hs : b.size ≤ 2000) (w : World) :
    Calls Tryz.prog 83 #[.string b] w fun e w' => ∃ A cap, e = .returned (.slice A (dis [] (subs s)).length cap) ∧ Mod [] w w' := by
  have hsz : s.length = b.size := by rw [← hb, Array.length_toList]; rfl
  have HSZ := Lib.hid hsz
  have BY : Hid (∀ (k : Nat) (h : k < b.size), s.drop k = b[k] :: s.drop (k + 1)) := fun k h => by
    have h1 : k < s.length := by omega
    rw [List.drop_eq_getElem_cons h1]
    congr 1
    subst hb; rfl
  have EX : Hid (∀ k m : Nat, k ≤ m → m ≤ b.size → b.extract k m = ⟨((s.drop k).take (m - k)).toArray⟩) := fun k m h1 h2 => by
    apply ByteArray.ext
    rw [ByteArray.data_extract]
    subst hb
    apply Array.ext'
    simp [Array.toList_extract, List.extract]
  obtain ⟨i0, hi, hz0, hz1, hz2⟩ := info_parts Tryz.infoS
  clear hsz hb
  go_enter Tryz.func83, Tryz.ntmps83
  go_wp2_with fail
  go_loopw [3, 4] (fun o i wr => ∃ (k : Nat) (out : List (List UInt8)) (F' : List Nat), k ≤ b.size ∧ i = .int .i64 k ∧ out.length ≤ k ∧ Hid (Sl wr 9 1 o out.length (out.map sv) F') ∧ Hid (∀ q ∈ F', w.heap.size ≤ q) ∧ Hid (dis out (subs (s.drop k)) = dis [] (subs s)) ∧ Hid (Mod [] w wr)) (fun _ i _ => b.size - (intOf i).toNat)
  case atStart => exact ⟨0, [], [], by omega, rfl, by simp, Sl.nil _ _ _, by intro q hq; simp at hq, rfl, Mod.refl _ _⟩
  case round =>
    obtain ⟨k, out, F', hk, rfl, hol, HS, HF, HD, HM⟩ := hrel
    obtain ⟨Ao, capo, rfl, hcapo⟩ := HS.out.shape
    obtain ⟨N, hN⟩ : ∃ N, out.length = N := ⟨_, rfl⟩
    have HLN : Hid ((out.map sv).length = N) := by show _ = _; rw [List.length_map, hN]
    have HN := Lib.hid hN
    rw [hN] at HS hcapo hol ⊢
    clear hN
    by_cases hlt : k < b.size
    · have hlt' : (k : Int) < b.size := by omega
      have DR := Lib.hid (BY.out k hlt)
      by_cases h40 : b[k] = 40
      · have h1 : ((b[k].toNat : Int) != 40) = false := by rw [h40]; rfl
        obtain ⟨wo, rfl⟩ : ∃ wo : World, wo = wr := ⟨_, rfl⟩
        go_wp2_with fail
        go_loop [5, 6] (fun d m => ∃ (dd mm : Nat), d = .int .i64 dd ∧ m = .int .i64 mm ∧ k + 1 ≤ mm ∧ mm ≤ b.size ∧ dd ≤ mm ∧ Hid (mm + closeL dd (s.drop mm) = k + 1 + closeL 1 (s.drop (k + 1)))) (fun _ m => b.size - (intOf m).toNat)
        case atStart => exact ⟨1, k + 1, rfl, by go_num, by omega, by omega, by omega, rfl⟩
        case round =>
          obtain ⟨dd, mm, rfl, rfl, hm1, hm2, hdd, HE⟩ := hrel
          by_cases hml : mm < b.size
          · have hml' : (mm : Int) < b.size := by omega
            by_cases hd0 : 0 < dd
            · obtain ⟨d, rfl⟩ : ∃ d, dd = d + 1 := ⟨dd - 1, by omega⟩
              have hd1 : (0 : Int) < ((d + 1 : Nat) : Int) := by omega
              have CL : Hid (closeL (d + 1) (s.drop mm) = 1 + closeL (d + 1 + (if b[mm] = 40 then 1 else 0) - (if b[mm] = 41 then 1 else 0)) (s.drop (mm + 1))) := by
                show _ = _
                rw [BY.out mm hml, closeL]
              by_cases c40 : b[mm] = 40
              · have e1 : ((b[mm].toNat : Int) == 40) = true := by rw [c40]; rfl
                have e2 : ((b[mm].toNat : Int) == 41) = false := by rw [c40]; rfl
                have CL2 : Hid (closeL (d + 1) (s.drop mm) = 1 + closeL (d + 1 + 1) (s.drop (mm + 1))) := by
                  show _ = _
                  rw [CL.out, c40]; rfl
                clear c40
                go_wp2_with fail
                go_round
                case rel => exact ⟨d + 1 + 1, mm + 1, by go_num, by go_num, by omega, by omega, by omega, by show _ = _; have := HE.out; rw [CL2.out] at this; omega⟩
                case measure => simp [intOf]; omega
              · have e1 : ((b[mm].toNat : Int) == 40) = false := by rw [beq_eq_false_iff_ne]; have := u8_ne (n := 40) (by omega) c40; omega
                by_cases c41 : b[mm] = 41
                · have e2 : ((b[mm].toNat : Int) == 41) = true := by rw [c41]; rfl
                  have CL2 : Hid (closeL (d + 1) (s.drop mm) = 1 + closeL d (s.drop (mm + 1))) := by
                    show _ = _
                    rw [CL.out, c41]; rfl
                  clear c40 c41
                  go_wp2_with fail
                  go_round
                  case rel => exact ⟨d, mm + 1, by go_num, by go_num, by omega, by omega, by omega, by show _ = _; have := HE.out; rw [CL2.out] at this; omega⟩
                  case measure => simp [intOf]; omega
                · have e2 : ((b[mm].toNat : Int) == 41) = false := by rw [beq_eq_false_iff_ne]; have := u8_ne (n := 41) (by omega) c41; omega
                  have CL2 : Hid (closeL (d + 1) (s.drop mm) = 1 + closeL (d + 1) (s.drop (mm + 1))) := by
                    show _ = _
                    rw [CL.out, if_neg c40, if_neg c41]; rfl
                  clear c40 c41
                  go_wp2_with fail
                  go_round
                  case rel => exact ⟨d + 1, mm + 1, by go_num, by go_num, by omega, by omega, by omega, by show _ = _; have := HE.out; rw [CL2.out] at this; omega⟩
                  case measure => simp [intOf]; omega
            · obtain rfl : dd = 0 := by omega
              have HEE : Hid (mm = k + 1 + closeL 1 (s.drop (k + 1))) := by have := HE.out; rw [closeL] at this; show _ = _; omega
              have hmk : k ≤ mm := by omega
              have hmk' : (k : Int) ≤ mm := by omega
              have hmb' : (mm : Int) ≤ b.size := by omega
              obtain ⟨T, hT⟩ : ∃ T, (s.drop k).take (mm - k) = T := ⟨_, rfl⟩
              have EXK := EX.out k mm hmk hm2
              rw [hT] at EXK
              have SB : Hid (subs (s.drop k) = T :: subs (s.drop (k + 1))) := by
                show _ = _
                have h2 := HEE.out
                have e : mm - k = closeL 1 (s.drop (k + 1)) + 1 := by omega
                rw [← hT, DR.out, subs, if_pos h40, e, List.take_succ_cons]
              clear hT HE HEE
              go_wp2_with fail
              go_loopw [7, 8] (fun v7 v8 wr => ∃ (j : Nat) (mb : Bool), v7 = .bool mb ∧ v8 = .int .i64 j ∧ j ≤ N ∧ Hid (mb = decide (T ∈ out.take j)) ∧ Hid (Mod [] wo wr)) (fun _ v8 _ => N - (intOf v8).toNat)
              case atStart => exact ⟨0, false, rfl, rfl, by omega, by show _ = _; simp, Mod.refl _ _⟩
              case round =>
                obtain ⟨j, mb, rfl, rfl, hj, HB, HW⟩ := hrel
                by_cases hjl : j < N
                · have hjl' : (j : Int) < N := by omega
                  have hjo : j < out.length := by rw [HN.out]; exact hjl
                  obtain ⟨g, cap2, e, hF', _⟩ := HS.out.pos (by omega)
                  have e' := e
                  simp at e'
                  obtain ⟨rfl, rfl⟩ := e'
                  obtain ⟨d1, _, _⟩ := (HS.out.mod HW.out (by simp)).at j (by omega)
                  rw [List.getElem?_map, List.getElem?_eq_getElem hjo] at d1
                  simp only [Option.map_some, sv] at d1
                  have TK : Hid (out.take (j + 1) = out.take j ++ [out[j]]) := List.take_succ_eq_append_getElem hjo
                  generalize out[j] = o at *
                  clear e hjo hF'
                  cases mb with
                  | true =>
                    have HB2 : Hid (true = decide (T ∈ out.take (j + 1))) := by
                      show _ = _
                      have := HB.out
                      rw [eq_comm, decide_eq_true_eq] at this ⊢
                      rw [TK.out]; exact List.mem_append_left _ this
                    go_wp2_with fail
                    go_quiet (fail)
                    go_wp2_with fail
                    go_roundw
                    case rel => exact ⟨j + 1, true, rfl, by go_num, by omega, HB2, HW.out.drewN _⟩
                    case measure => simp [intOf]; omega
                  | false =>
                    by_cases hoT : o = T
                    · subst hoT
                      have hq : (o == o) = true := by simp
                      have HB2 : Hid (true = decide (o ∈ out.take (j + 1))) := by
                        show _ = _
                        rw [eq_comm, decide_eq_true_eq, TK.out]; simp
                      go_wp2_with fail
                      go_quiet (fail)
                      go_wp2_with fail
                      go_roundw
                      case rel => exact ⟨j + 1, true, rfl, by go_num, by omega, HB2, HW.out.drewN _⟩
                      case measure => simp [intOf]; omega
                    · have hq : (o == T) = false := by simpa using hoT
                      have HB2 : Hid (false = decide (T ∈ out.take (j + 1))) := by
                        show _ = _
                        have := HB.out
                        rw [eq_comm, decide_eq_false_iff_not] at this ⊢
                        rw [TK.out]; simp; exact ⟨this, fun e => hoT e.symm⟩
                      clear hoT
                      go_wp2_with fail
                      go_quiet (fail)
                      go_wp2_with fail
                      go_roundw
                      case rel => exact ⟨j + 1, false, rfl, by go_num, by omega, HB2, HW.out.drewN _⟩
                      case measure => simp [intOf]; omega
                · obtain rfl : j = N := by omega
                  have e : out.take j = out := List.take_of_length_le (by rw [HN.out]; exact Nat.le_refl _)
                  have HB2 : Hid (mb = decide (T ∈ out)) := by have := HB.out; rw [e] at this; exact this
                  have HMZ := Lib.hid (HM.out.trans' HW.out)
                  have HSZ2 := Lib.hid (HS.out.mod HW.out (by simp))
                  clear e HB
                  cases mb with
                  | true =>
                    have HD2 : Hid (dis out (subs (s.drop (k + 1))) = dis [] (subs s)) := by
                      show _ = _
                      have h := HB2.out
                      rw [eq_comm, decide_eq_true_eq] at h
                      rw [← HD.out, SB.out, dis, if_pos h]
                    go_wp2_with fail
                    go_roundw
                    case rel => exact ⟨k + 1, out, F', by omega, by go_num, by rw [HN.out]; omega, by rw [HN.out]; exact HSZ2, HF, HD2, HMZ⟩
                    case measure => simp [intOf]; omega
                  | false =>
                    have HD2 : Hid (dis (out ++ [T]) (subs (s.drop (k + 1))) = dis [] (subs s)) := by
                      show _ = _
                      have h := HB2.out
                      rw [eq_comm, decide_eq_false_iff_not] at h
                      rw [← HD.out, SB.out, dis, if_neg h]
                    go_wp2_with (at_builtin; refine wpList_append_sl _ rfl _ _ 66 rfl 9 i0 (.string ⟨#[]⟩) 1 16 Tryz.underlying66 hi hz0 hz1 hz2 rfl (by decide) _ j (out.map sv) F' rfl (HSZ2.out.mod (S := []) (by (repeat (first | exact Mod.refl _ _ | apply Mod.drew | apply Mod.drewN | apply Mod.alloc | refine Mod.setCell ?_ _ _ (by first | simp | (simp; omega))))) (by simp)) ⟨_, 0, none⟩ 1 1 [sv T] (by decide) rfl rfl (by intro q u hu; exact list_new_at _ _ _ _ (by simp) q u hu) (by intro u hu; simp at hu; subst hu; rfl) (by unfold maxLen; omega) (by omega) ?_; intro v5 w5 F5 hs5 hm5 hf5)
                    go_wp2_with fail
                    go_roundw
                    case rel =>
                      refine ⟨k + 1, out ++ [T], F5, by omega, by go_num, by rw [List.length_append, HN.out]; simp; omega, ?_, ?_, HD2, ?_⟩
                      · show Sl _ _ _ _ _ _ _
                        rw [List.length_append, HN.out, List.map_append]; exact hs5
                      · intro q hq
                        rcases hf5 q hq with h | h
                        · exact HF.out q h
                        · have h2 := HMZ.out.size
                          simp at h; omega
                      · exact HMZ.out.trans ((Mod.refl F' _).alloc _ |>.trans' hm5) (by intro i hi h; have := HF.out i h; omega)
                    case measure => simp [intOf]; omega
          · obtain rfl : mm = b.size := by omega
            have HEE : Hid (b.size = k + 1 + closeL 1 (s.drop (k + 1))) := by
              have := HE.out
              have h2 := closeL_le (s.drop b.size) dd
              rw [List.length_drop, HSZ.out] at h2
              show _ = _; omega
            have hmk : k ≤ b.size := by omega
            have hmk' : (k : Int) ≤ b.size := by omega
            have hmb' : (b.size : Int) ≤ b.size := by omega
            obtain ⟨T, hT⟩ : ∃ T, (s.drop k).take (b.size - k) = T := ⟨_, rfl⟩
            have EXK := EX.out k b.size hmk hm2
            rw [hT] at EXK
            have SB : Hid (subs (s.drop k) = T :: subs (s.drop (k + 1))) := by
              show _ = _
              have h2 := HEE.out
              have e : b.size - k = closeL 1 (s.drop (k + 1)) + 1 := by omega
              rw [← hT, DR.out, subs, if_pos h40, e, List.take_succ_cons]
            clear hT HE HEE
            go_wp2_with fail
            go_loopw [7, 8] (fun v7 v8 wr => ∃ (j : Nat) (mb : Bool), v7 = .bool mb ∧ v8 = .int .i64 j ∧ j ≤ N ∧ Hid (mb = decide (T ∈ out.take j)) ∧ Hid (Mod [] wo wr)) (fun _ v8 _ => N - (intOf v8).toNat)
            case atStart => exact ⟨0, false, rfl, rfl, by omega, by show _ = _; simp, Mod.refl _ _⟩
            case round =>
              obtain ⟨j, mb, rfl, rfl, hj, HB, HW⟩ := hrel
              by_cases hjl : j < N
              · have hjl' : (j : Int) < N := by omega
                have hjo : j < out.length := by rw [HN.out]; exact hjl
                obtain ⟨g, cap2, e, hF', _⟩ := HS.out.pos (by omega)
                have e' := e
                simp at e'
                obtain ⟨rfl, rfl⟩ := e'
                obtain ⟨d1, _, _⟩ := (HS.out.mod HW.out (by simp)).at j (by omega)
                rw [List.getElem?_map, List.getElem?_eq_getElem hjo] at d1
                simp only [Option.map_some, sv] at d1
                have TK : Hid (out.take (j + 1) = out.take j ++ [out[j]]) := List.take_succ_eq_append_getElem hjo
                generalize out[j] = o at *
                clear e hjo hF'
                cases mb with
                | true =>
                  have HB2 : Hid (true = decide (T ∈ out.take (j + 1))) := by
                    show _ = _
                    have := HB.out
                    rw [eq_comm, decide_eq_true_eq] at this ⊢
                    rw [TK.out]; exact List.mem_append_left _ this
                  go_wp2_with fail
                  go_quiet (fail)
                  go_wp2_with fail
                  go_roundw
                  case rel => exact ⟨j + 1, true, rfl, by go_num, by omega, HB2, HW.out.drewN _⟩
                  case measure => simp [intOf]; omega
                | false =>
                  by_cases hoT : o = T
                  · subst hoT
                    have hq : (o == o) = true := by simp
                    have HB2 : Hid (true = decide (o ∈ out.take (j + 1))) := by
                      show _ = _
                      rw [eq_comm, decide_eq_true_eq, TK.out]; simp
                    go_wp2_with fail
                    go_quiet (fail)
                    go_wp2_with fail
                    go_roundw
                    case rel => exact ⟨j + 1, true, rfl, by go_num, by omega, HB2, HW.out.drewN _⟩
                    case measure => simp [intOf]; omega
                  · have hq : (o == T) = false := by simpa using hoT
                    have HB2 : Hid (false = decide (T ∈ out.take (j + 1))) := by
                      show _ = _
                      have := HB.out
                      rw [eq_comm, decide_eq_false_iff_not] at this ⊢
                      rw [TK.out]; simp; exact ⟨this, fun e => hoT e.symm⟩
                    clear hoT
                    go_wp2_with fail
                    go_quiet (fail)
                    go_wp2_with fail
                    go_roundw
                    case rel => exact ⟨j + 1, false, rfl, by go_num, by omega, HB2, HW.out.drewN _⟩
                    case measure => simp [intOf]; omega
              · obtain rfl : j = N := by omega
                have e : out.take j = out := List.take_of_length_le (by rw [HN.out]; exact Nat.le_refl _)
                have HB2 : Hid (mb = decide (T ∈ out)) := by have := HB.out; rw [e] at this; exact this
                have HMZ := Lib.hid (HM.out.trans' HW.out)
                have HSZ2 := Lib.hid (HS.out.mod HW.out (by simp))
                clear e HB
                cases mb with
                | true =>
                  have HD2 : Hid (dis out (subs (s.drop (k + 1))) = dis [] (subs s)) := by
                    show _ = _
                    have h := HB2.out
                    rw [eq_comm, decide_eq_true_eq] at h
                    rw [← HD.out, SB.out, dis, if_pos h]
                  go_wp2_with fail
                  go_roundw
                  case rel => exact ⟨k + 1, out, F', by omega, by go_num, by rw [HN.out]; omega, by rw [HN.out]; exact HSZ2, HF, HD2, HMZ⟩
                  case measure => simp [intOf]; omega
                | false =>
                  have HD2 : Hid (dis (out ++ [T]) (subs (s.drop (k + 1))) = dis [] (subs s)) := by
                    show _ = _
                    have h := HB2.out
                    rw [eq_comm, decide_eq_false_iff_not] at h
                    rw [← HD.out, SB.out, dis, if_neg h]
                  go_wp2_with (at_builtin; refine wpList_append_sl _ rfl _ _ 66 rfl 9 i0 (.string ⟨#[]⟩) 1 16 Tryz.underlying66 hi hz0 hz1 hz2 rfl (by decide) _ j (out.map sv) F' rfl (HSZ2.out.mod (S := []) (by (repeat (first | exact Mod.refl _ _ | apply Mod.drew | apply Mod.drewN | apply Mod.alloc | refine Mod.setCell ?_ _ _ (by first | simp | (simp; omega))))) (by simp)) ⟨_, 0, none⟩ 1 1 [sv T] (by decide) rfl rfl (by intro q u hu; exact list_new_at _ _ _ _ (by simp) q u hu) (by intro u hu; simp at hu; subst hu; rfl) (by unfold maxLen; omega) (by omega) ?_; intro v5 w5 F5 hs5 hm5 hf5)
                  go_wp2_with fail
                  go_roundw
                  case rel =>
                    refine ⟨k + 1, out ++ [T], F5, by omega, by go_num, by rw [List.length_append, HN.out]; simp; omega, ?_, ?_, HD2, ?_⟩
                    · show Sl _ _ _ _ _ _ _
                      rw [List.length_append, HN.out, List.map_append]; exact hs5
                    · intro q hq
                      rcases hf5 q hq with h | h
                      · exact HF.out q h
                      · have h2 := HMZ.out.size
                        simp at h; omega
                    · exact HMZ.out.trans ((Mod.refl F' _).alloc _ |>.trans' hm5) (by intro i hi h; have := HF.out i h; omega)
                  case measure => simp [intOf]; omega
      · have h1 : ((b[k].toNat : Int) != 40) = true := by rw [bne_iff_ne]; have := u8_ne (n := 40) (by omega) h40; omega
        have HD2 : Hid (dis out (subs (s.drop (k + 1))) = dis [] (subs s)) := by
          show _ = _
          rw [← HD.out, DR.out, subs, if_neg h40]
        go_wp2_with fail
        go_roundw
        case rel => exact ⟨k + 1, out, F', by omega, by go_num, by rw [HN.out]; omega, by rw [HN.out]; exact HS, HF, HD2, HM⟩
        case measure => simp [intOf]; omega
    · obtain rfl : k = b.size := by omega
      have e : dis [] (subs s) = out := by
        rw [← HD.out, List.drop_of_length_le (by rw [HSZ.out]; exact Nat.le_refl _)]; rfl
      have E := Lib.hid e
      go_wp2_with fail
      go_ret
      exact ⟨Ao, capo, by rw [E.out, HN.out]; rfl, HM.out⟩
end Go.Proofs.YtcoljkigphnjfaaGreatDoor
set_option linter.unusedVariables false
set_option linter.unusedSimpArgs false
namespace Go.Proofs.YtcoljkigphnjfaaGreatDoor
open Go.RowKit

def termF (f n : Nat) (t : List Bool) : List UInt8 :=
  if f = 1 then term1 n t 0 else if f = 2 then term2 n t 0 else if f = 3 then term3 n n t 0 else if f = 4 then term4 n n t 0 else term5 n n t 0
theorem termF_len (f n : Nat) (t : List Bool) : (termF f n t).length + 7 ≤ 10 * 2 ^ n := by
  unfold termF
  split
  · exact term1_len _ _ _
  · split
    · exact term2_len _ _ _
    · split
      · exact term3_len _ _ _ _ (Nat.le_refl _)
      · split
        · exact term4_len _ _ _ _ (Nat.le_refl _)
        · exact term5_len _ _ _ _ (Nat.le_refl _)

theorem term17_c (f : Nat) (h1 : 1 ≤ f) (h5 : f ≤ 5) {n : Nat} (hn : n ≤ 6) {w : World} {v : Value} {t : List Bool} {F : List Nat} (h : Rv w v (t.map eb) F) (hl : t.length = 2 ^ n) :
    Calls Tryz.prog 50 #[.int .u8 f, v, .int .i64 0] w fun e w' => e = .returned (sv (termF f n t)) ∧ Mod [] w w' := by
  have T1 := Lib.hid (term12_c n t 0 w v F h hl (by omega) hn)
  have T2 := Lib.hid (term13_c n t 0 w v F h hl (by omega) hn)
  have T3 := Lib.hid (term14_c n n t 0 w v F (Nat.le_refl _) h hl (by omega) hn)
  have T4 := Lib.hid (term15_c n n t 0 w v F (Nat.le_refl _) h hl (by omega) hn)
  have T5 := Lib.hid (term16_c n n t 0 w v F (Nat.le_refl _) h hl (by omega) hn)
  clear h hl
  unfold sv at *
  obtain rfl | rfl | rfl | rfl | rfl : f = 1 ∨ f = 2 ∨ f = 3 ∨ f = 4 ∨ f = 5 := by omega
  · have e : termF 1 n t = term1 n t 0 := rfl
    rw [e]; clear e
    go_enter Tryz.func50, Tryz.ntmps50
    go_wp2_with fail
    refine T1.out.mono ?_
    rintro e w' ⟨rfl, m⟩
    have M := Lib.hid m
    clear m
    go_wp2_with fail
    go_ret
    exact ⟨rfl, M.out⟩
  · have e : termF 2 n t = term2 n t 0 := rfl
    rw [e]; clear e
    go_enter Tryz.func50, Tryz.ntmps50
    go_wp2_with fail
    refine T2.out.mono ?_
    rintro e w' ⟨rfl, m⟩
    have M := Lib.hid m
    clear m
    go_wp2_with fail
    go_ret
    exact ⟨rfl, M.out⟩
  · have e : termF 3 n t = term3 n n t 0 := rfl
    rw [e]; clear e
    go_enter Tryz.func50, Tryz.ntmps50
    go_wp2_with fail
    refine T3.out.mono ?_
    rintro e w' ⟨rfl, m⟩
    have M := Lib.hid m
    clear m
    go_wp2_with fail
    go_ret
    exact ⟨rfl, M.out⟩
  · have e : termF 4 n t = term4 n n t 0 := rfl
    rw [e]; clear e
    go_enter Tryz.func50, Tryz.ntmps50
    go_wp2_with fail
    refine T4.out.mono ?_
    rintro e w' ⟨rfl, m⟩
    have M := Lib.hid m
    clear m
    go_wp2_with fail
    go_ret
    exact ⟨rfl, M.out⟩
  · have e : termF 5 n t = term5 n n t 0 := rfl
    rw [e]; clear e
    go_enter Tryz.func50, Tryz.ntmps50
    go_wp2_with fail
    refine T5.out.mono ?_
    rintro e w' ⟨rfl, m⟩
    have M := Lib.hid m
    clear m
    go_wp2_with fail
    go_ret
    exact ⟨rfl, M.out⟩

theorem term18_c (f : Nat) (h1 : 1 ≤ f) (h5 : f ≤ 5) {n : Nat} (hn : n ≤ 5) {w : World} {v v2 : Value} {p : List Nat} {t X : List Bool} {F F2 : List Nat} (h : Rv w v (p.map ei) F) (hl : p.length = n) (hp : ∀ v ∈ p, v ≤ 16) (ht : Rv w v2 (t.map eb) F2) (htl : t.length = 2 ^ n)
    (hinj : ∀ x y, x < 2 ^ n → y < 2 ^ n → downN p x = downN p y → x = y) (hX : ∀ xs, ByL p t xs → xs = X) :
    Calls Tryz.prog 26 #[v, .int .u8 f, v2] w fun e w' => e = .returned (sv (termF f n X)) ∧ Mod [] w w' := by
  have TB := Lib.hid (table09_c h hl hn hp ht htl hinj)
  have TT : Hid (∀ (W : World) (v' : Value) (Fx : List Nat), Rv W v' (X.map eb) Fx → X.length = 2 ^ n → _) := fun W v' Fx a1 a2 => term17_c f h1 h5 (by omega) a1 a2
  have HX := Lib.hid hX
  have HTL := Lib.hid htl
  clear h hl hp ht htl hinj hX
  go_enter Tryz.func26, Tryz.ntmps26
  go_wp2_with fail
  refine TB.out.mono ?_
  rintro e w1 ⟨v', xs, rfl, n1, by1⟩
  obtain rfl := HX.out xs by1
  have LX := Lib.hid (by1.1.trans HTL.out)
  have M1 := Lib.hid n1.mod
  obtain ⟨Fx, r1, -⟩ := n1.rv
  have R1 := Lib.hid r1
  clear n1 by1 r1 TB HX
  go_wp2_with fail
  refine (TT.out _ _ _ R1.out LX.out).mono ?_
  rintro e w2 ⟨rfl, m⟩
  have M := Lib.hid (M1.out.trans' m)
  clear m
  unfold sv
  go_wp2_with fail
  go_ret
  exact ⟨rfl, M.out⟩

theorem nodes17_c (s : List UInt8) (hs : s.length ≤ 2000) (w : World) :
    Calls Tryz.prog 49 #[sv s] w fun e w' => ∃ A cap, e = .returned (.slice A (dis [] (subs s)).length cap) ∧ Mod [] w w' := by
  have PT := Lib.hid (parts_c ⟨s.toArray⟩ s (by simp) (by show s.toArray.size ≤ 2000; simpa using hs) w)
  unfold sv
  generalize (dis [] (subs s)).length = N at *
  go_enter Tryz.func49, Tryz.ntmps49
  go_wp2_with fail
  refine PT.out.mono ?_
  rintro e w' ⟨A, cap, rfl, m⟩
  have M := Lib.hid m
  clear m
  go_wp2_with fail
  go_ret
  exact ⟨A, cap, rfl, M.out⟩
theorem nodes21_c (s : List UInt8) (hs : s.length ≤ 2000) (w : World) :
    Calls Tryz.prog 25 #[sv s] w fun e w' => ∃ A cap, e = .returned (.slice A (dis [] (subs s)).length cap) ∧ Mod [] w w' := by
  have PT := Lib.hid (nodes17_c s hs w)
  unfold sv at *
  generalize (dis [] (subs s)).length = N at *
  go_enter Tryz.func25, Tryz.ntmps25
  go_wp2_with fail
  refine PT.out.mono ?_
  rintro e w' ⟨A, cap, rfl, m⟩
  have M := Lib.hid m
  clear m
  go_wp2_with fail
  go_ret
  exact ⟨A, cap, rfl, M.out⟩

/-- How many nodes the reference counts. -/
def refN (n : Nat) (X : List Bool) (f : Nat) : Nat := (dis [] (subs (termF f n X))).length
def refsN (n : Nat) (X : List Bool) : List Nat := [refN n X 1, refN n X 2, refN n X 3, refN n X 4, refN n X 5]
theorem refsN_at (n : Nat) (X : List Bool) (k : Nat) (h : k < 5) : (refsN n X).take (k + 1) = (refsN n X).take k ++ [refN n X (k + 1)] := by
  obtain rfl | rfl | rfl | rfl | rfl : k = 0 ∨ k = 1 ∨ k = 2 ∨ k = 3 ∨ k = 4 := by omega
  all_goals rfl

set_option maxRecDepth 100000 in
set_option maxHeartbeats 4000000 in
theorem sizes21_c {n : Nat} (hn : n ≤ 5) {w : World} {v v2 : Value} {p : List Nat} {t X : List Bool} {F F2 : List Nat} (h : Rv w v (p.map ei) F) (hl : p.length = n) (hp : ∀ v ∈ p, v ≤ 16) (ht : Rv w v2 (t.map eb) F2) (htl : t.length = 2 ^ n)
    (hinj : ∀ x y, x < 2 ^ n → y < 2 ^ n → downN p x = downN p y → x = y) (hX : ∀ xs, ByL p t xs → xs = X) :
    Calls Tryz.prog 11 #[v, v2] w fun e w' => ∃ v', e = .returned v' ∧ NewV 3 w ((refsN n X).map ei) w' v' := by
  have TM : Hid (∀ (W : World) (f : Nat), Mod [] w W → 1 ≤ f → f ≤ 5 → _) := fun W f m h1 h5 => term18_c f h1 h5 hn (h.mod m (by simp)) hl hp (ht.mod m (by simp)) htl hinj hX
  have ND : Hid (∀ (W : World) (f : Nat), Calls Tryz.prog 25 #[sv (termF f n X)] W fun e w' => ∃ A cap, e = .returned (.slice A (refN n X f) cap) ∧ Mod [] W w') := fun W f =>
    nodes21_c (termF f n X) (by have := termF_len f n X; have := pow64 (show n ≤ 6 by omega); omega) W
  obtain ⟨i0, hi, hz0, hz1, hz2⟩ := info_parts Tryz.info3
  clear h hl hp ht htl hinj hX
  go_enter Tryz.func11, Tryz.ntmps11
  go_wp2_with fail
  go_loopw [5, 6] (fun o f wr => ∃ k : Nat, 1 ≤ k ∧ k ≤ 6 ∧ f = .int .u8 k ∧ Hid (NewV 3 w (((refsN n X).take (k - 1)).map ei) wr o)) (fun _ f _ => 6 - (intOf f).toNat)
  case atStart => exact ⟨1, by omega, by omega, rfl, NewV.nil _ (by (repeat (first | exact Mod.refl _ _ | apply Mod.drew | apply Mod.drewN | apply Mod.alloc | refine Mod.setCell ?_ _ _ (by first | simp | (simp; omega)))))⟩
  case round =>
    obtain ⟨k, hk0, hk, rfl, HN⟩ := hrel
    by_cases hlt : k ≤ 5
    · have hk1 : (k : Int) ≤ 5 := by omega
      obtain ⟨j, rfl⟩ : ∃ j, k = j + 1 := ⟨k - 1, by omega⟩
      have ST : Hid ((refsN n X).take (j + 1 + 1 - 1) = (refsN n X).take (j + 1 - 1) ++ [refN n X (j + 1)]) := refsN_at n X j (by omega)
      have TK := Lib.hid (fun (W : World) (m : Mod [] wr W) => TM.out W (j + 1) (HN.out.mod.trans' m) hk0 hlt)
      have NK := Lib.hid (fun W => ND.out W (j + 1))
      unfold sv at *
      generalize refN n X (j + 1) = z at *
      generalize termF (j + 1) n X = tx at *
      obtain ⟨Fo', so, mo, fo⟩ := HN.out
      have e0 : (((refsN n X).take (j + 1 - 1)).map ei).length = j := by simp [refsN]; omega
      obtain ⟨Ao, capo, rfl, hcapo⟩ := so.shape
      rw [e0] at so hcapo HN ⊢
      have SO := Lib.hid so
      have MO := Lib.hid mo
      have FO := Lib.hid fo
      have LO := Lib.hid e0
      clear so mo fo hcapo e0
      generalize (refsN n X).take (j + 1 - 1) = zs at *
      go_wp2_with fail
      refine (TK.out _ (by (repeat (first | exact Mod.refl _ _ | apply Mod.drew | apply Mod.drewN | apply Mod.alloc | refine Mod.setCell ?_ _ _ (by first | simp | (simp; omega)))))).mono ?_
      rintro e w1 ⟨rfl, m1⟩
      have M1 := Lib.hid m1
      clear m1
      go_wp2_with fail
      refine (NK.out _).mono ?_
      rintro e w2 ⟨A2, cap2, rfl, m2⟩
      have M2 := Lib.hid (M1.out.trans' m2)
      have SO2 := Lib.hid (SO.out.mod M2.out (by simp))
      have MO2 := Lib.hid (MO.out.trans' M2.out)
      clear m2
      go_wp2_with (at_builtin; refine wpList_append_sl _ rfl _ _ 26 rfl 3 i0 (.int .i64 0) 1 8 Tryz.underlying26 hi hz0 hz1 hz2 rfl (by decide) _ j (zs.map ei) Fo' rfl (SO2.out.mod (S := []) (by (repeat (first | exact Mod.refl _ _ | apply Mod.drew | apply Mod.drewN | apply Mod.alloc | refine Mod.setCell ?_ _ _ (by first | simp | (simp; omega))))) (by simp)) ⟨_, 0, none⟩ 1 1 [ei z] (by decide) rfl rfl (by intro j u hu; exact list_new_at _ _ _ _ (by simp) j u hu) (by intro u hu; simp at hu; subst hu; rfl) (by unfold maxLen; omega) (by omega) ?_; intro v5 w5 F5 hs5 hm5 hf5; have N5 := Lib.hid (NewV.app (l := zs.map ei) (l2 := [ei z]) MO2.out FO.out LO.out rfl (by (repeat (first | exact Mod.refl _ _ | apply Mod.drew | apply Mod.drewN | apply Mod.alloc | refine Mod.setCell ?_ _ _ (by first | simp | (simp; omega))))) hs5 hm5 hf5); obtain ⟨a5, cap5, rfl, _⟩ := hs5.shape; clear hs5 hm5 hf5)
      refine ⟨⟨j + 1 + 1, by omega, by omega, by go_num, ?_⟩, by simp [intOf]; omega⟩
      show NewV _ _ _ _ _
      rw [ST.out, List.map_append]
      exact N5.out
    · obtain rfl : k = 6 := by omega
      go_wp2_with fail
      go_ret
      exact ⟨_, rfl, HN.out⟩
end Go.Proofs.YtcoljkigphnjfaaGreatDoor
set_option linter.unusedVariables false
set_option linter.unusedSimpArgs false
namespace Go.Proofs.YtcoljkigphnjfaaGreatDoor

def tagT (f : Nat) (x : Nat × Tr) : List UInt8 := if f = 5 ∧ ¬ x.2 = .leaf false then [dg x.1, 64] else []
def prT (f : Nat) : Tr → List UInt8
  | .leaf b => [if b then 49 else 48]
  | .node t b tl x th y => [40] ++ [dg t] ++ (if f = 3 ∨ f = 4 then [58] ++ [dg b] else []) ++ [32] ++ (tagT f (tl, x) ++ prT f x) ++ [32] ++ (tagT f (th, y) ++ prT f y) ++ [41]
def prE (f : Nat) (x : Nat × Tr) : List UInt8 := tagT f x ++ prT f x.2
theorem tag_no {f : Nat} (h : ¬ f = 5) (x : Nat × Tr) : tagT f x = [] := by unfold tagT; rw [if_neg (by simp [h])]

section
variable {n : Nat}
theorem noneB_iff (t : List Bool) : noneB t = true ↔ true ∉ t := by unfold noneB; simp
theorem endT_one {t : List Bool} (f l : Nat) (hf : ¬ f = 5) : endT t = prE f (buildE f n 0 l t) := by
  rw [prE, tag_no hf, buildE, leafE]
  rfl
theorem nodeE_plain {f l : Nat} (hf : ¬ f = 3) (hf4 : ¬ f = 4) (x y : Nat × Tr) : nodeE f l x y = .node l l x.1 x.2 y.1 y.2 := by
  rcases nodeE_form f l x y with ⟨_, _, _, _, _, _, _, h, _⟩ | ⟨_, _, _, _, _, _, _, h, _⟩ | h
  · exact absurd h hf
  · exact absurd h hf4
  · exact h
theorem prE_node {f : Nat} (hf : ¬ f = 5) (q t b : Nat) (x y : Nat × Tr) : prE f (q, .node t b x.1 x.2 y.1 y.2) = [40] ++ [dg t] ++ (if f = 3 ∨ f = 4 then [58] ++ [dg b] else []) ++ [32] ++ prE f x ++ [32] ++ prE f y ++ [41] := by
  rw [prE, tag_no hf]
  rfl

theorem term1_pr : ∀ (k l : Nat) (t : List Bool), l + k = n → t.length = 2 ^ k → term1 k t l = prE 1 (buildE 1 n k l t) := by
  intro k
  induction k with
  | zero => intro l t _ _; exact endT_one 1 l (by omega)
  | succ k ih =>
    intro l t h ht
    obtain ⟨h1, h2⟩ := halves_len ht
    rw [term1]
    by_cases e : t.take (2 ^ k) = t.drop (2 ^ k)
    · rw [if_pos e, ih _ _ (by omega) h1, buildE, ← e, mk_same (by omega)]
    · have hne : ¬ buildE 1 n k (l + 1) (t.take (2 ^ k)) = buildE 1 n k (l + 1) (t.drop (2 ^ k)) := fun q => e (build_inj (by omega) (by omega) k (l + 1) _ _ (by omega) h1 h2 q)
      rw [if_neg e, ih _ _ (by omega) h1, ih _ _ (by omega) h2, buildE, mk_diff (.inl rfl) hne, nodeE_plain (by omega) (by omega), prE_node (by omega)]
      simp
theorem term2_pr : ∀ (k l : Nat) (t : List Bool), l + k = n → t.length = 2 ^ k → term2 k t l = prE 2 (buildE 2 n k l t) := by
  intro k
  induction k with
  | zero => intro l t _ _; exact endT_one 2 l (by omega)
  | succ k ih =>
    intro l t h ht
    obtain ⟨h1, h2⟩ := halves_len ht
    have hz := build_zero (f := 2) (n := n) (by omega) (by omega) k (l + 1) (t.drop (2 ^ k)) (by omega) h2
    rw [term2]
    by_cases e : noneB (t.drop (2 ^ k)) = true
    · rw [if_pos e, ih _ _ (by omega) h1, buildE, mk_none (.inl rfl) (hz.2 ((noneB_iff _).1 e))]
    · have hne : ¬ (buildE 2 n k (l + 1) (t.drop (2 ^ k))).2 = .leaf false := fun q => e ((noneB_iff _).2 (hz.1 q))
      rw [if_neg e, ih _ _ (by omega) h1, ih _ _ (by omega) h2, buildE, mk_some (.inl rfl) hne, nodeE_plain (by omega) (by omega), prE_node (by omega)]
      simp

theorem nodeE_top (f l : Nat) (x y : Nat × Tr) : ∃ b tl u th v, nodeE f l x y = .node l b tl u th v := by
  rcases nodeE_form f l x y with ⟨t, b, tl, u, th, v, _, _, _, _, h⟩ | ⟨t, b, tl, u, th, v, _, _, _, _, h⟩ | h
  · exact ⟨_, _, _, _, _, h⟩
  · exact ⟨_, _, _, _, _, h⟩
  · exact ⟨_, _, _, _, _, h⟩
theorem nodeE_hi3 (l : Nat) (x y : Nat × Tr) {t b tl th : Nat} {u v : Tr} (h : nodeE 3 l x y = .node t b tl u th v) : (th, v) = y := by
  rcases nodeE_form 3 l x y with ⟨_, _, _, _, _, _, _, _, _, _, e⟩ | ⟨_, _, _, _, _, _, _, e, _⟩ | e
  · rw [e] at h; simp at h; exact Prod.ext h.2.2.2.2.1.symm h.2.2.2.2.2.symm
  · omega
  · rw [e] at h; simp at h; exact Prod.ext h.2.2.2.2.1.symm h.2.2.2.2.2.symm
/-- Where Make's node takes the lower half as it is. -/
theorem nodeE_un {f l : Nat} {x y : Nat × Tr} (h : ∀ t b tl u th v, x.2 = .node t b tl u th v → t = l + 1 → ¬ (f = 3 ∧ (th, v) = y) ∧ ¬ (f = 4 ∧ x = y)) : nodeE f l x y = .node l l x.1 x.2 y.1 y.2 := by
  rcases nodeE_form f l x y with ⟨t, b, tl, u, th, v, e, hf, h1, h2, _⟩ | ⟨t, b, tl, u, th, v, e, hf, h2, h1, _⟩ | e
  · exact absurd ⟨hf, h2⟩ (h _ _ _ _ _ _ e h1).1
  · exact absurd ⟨hf, h2⟩ (h _ _ _ _ _ _ e h1).2
  · exact e

theorem chain3_pr : ∀ (k l : Nat) (lo hi : List Bool), l + 1 + k = n → lo.length = 2 ^ k → hi.length = 2 ^ k → ¬ lo = hi →
    ∃ m c1 c2 b, chain3 k lo hi l = (m, c1, c2, b) ∧ m ≤ k ∧ b + 1 + m = n ∧ c1.length = 2 ^ m ∧ c2.length = 2 ^ m ∧
      nodeE 3 l (buildE 3 n k (l + 1) lo) (buildE 3 n k (l + 1) hi) = .node l b (buildE 3 n m (b + 1) c1).1 (buildE 3 n m (b + 1) c1).2 (buildE 3 n m (b + 1) c2).1 (buildE 3 n m (b + 1) c2).2 := by
  intro k
  induction k with
  | zero =>
    intro l lo hi h h1 h2 hne
    exact ⟨0, lo, hi, l, rfl, Nat.le_refl _, h, h1, h2, nodeE_un (fun t b tl u th v e => by simp [buildE, leafE] at e)⟩
  | succ k ih =>
    intro l lo hi h h1 h2 hne
    obtain ⟨a1, a2⟩ := halves_len h1
    obtain ⟨b1, b2⟩ := halves_len h2
    have base : (∀ t b tl u th v, (buildE 3 n (k + 1) (l + 1) lo).2 = .node t b tl u th v → t = l + 1 → ¬ (th, v) = buildE 3 n (k + 1) (l + 1) hi) → chain3 (k + 1) lo hi l = (k + 1, lo, hi, l) →
        ∃ m c1 c2 b, chain3 (k + 1) lo hi l = (m, c1, c2, b) ∧ m ≤ k + 1 ∧ b + 1 + m = n ∧ c1.length = 2 ^ m ∧ c2.length = 2 ^ m ∧
      nodeE 3 l (buildE 3 n (k + 1) (l + 1) lo) (buildE 3 n (k + 1) (l + 1) hi) = .node l b (buildE 3 n m (b + 1) c1).1 (buildE 3 n m (b + 1) c1).2 (buildE 3 n m (b + 1) c2).1 (buildE 3 n m (b + 1) c2).2 := fun hu hc =>
      ⟨k + 1, lo, hi, l, hc, Nat.le_refl _, h, h1, h2, nodeE_un fun t b tl u th v e ht => ⟨fun q => hu t b tl u th v e ht q.2, by omega⟩⟩
    by_cases e : lo.take (2 ^ k) = lo.drop (2 ^ k)
    · refine base (fun t b tl u th v q ht => ?_) (by rw [chain3, if_pos (.inl e)])
      exfalso
      rw [buildE, ← e, mk_same (by omega)] at q
      have v1 := build_VE 3 n k (l + 1 + 1) (lo.take (2 ^ k)) (by omega)
      unfold VE at v1
      rw [if_neg (by omega), q] at v1
      have := v1.2.1
      omega
    · have hlo : ¬ buildE 3 n k (l + 1 + 1) (lo.take (2 ^ k)) = buildE 3 n k (l + 1 + 1) (lo.drop (2 ^ k)) := fun q => e (build_inj (by omega) (by omega) k (l + 1 + 1) _ _ (by omega) a1 a2 q)
      have hB : buildE 3 n (k + 1) (l + 1) lo = (0, nodeE 3 (l + 1) (buildE 3 n k (l + 1 + 1) (lo.take (2 ^ k))) (buildE 3 n k (l + 1 + 1) (lo.drop (2 ^ k)))) := by rw [buildE, mk_diff (.inr rfl) hlo]
      by_cases e2 : hi.take (2 ^ k) = hi.drop (2 ^ k) ∧ hi.take (2 ^ k) = lo.drop (2 ^ k)
      · have hB2 : buildE 3 n (k + 1) (l + 1) hi = buildE 3 n k (l + 1 + 1) (lo.drop (2 ^ k)) := by rw [buildE, ← e2.1, mk_same (by omega), e2.2]
        obtain ⟨m, c1, c2, b, r1, r2, r3, r4, r5, r6⟩ := ih (l + 1) (lo.take (2 ^ k)) (lo.drop (2 ^ k)) (by omega) a1 a2 e
        refine ⟨m, c1, c2, b, ?_, by omega, r3, r4, r5, ?_⟩
        · rw [chain3, if_neg (fun hor => hor.elim e (fun q => q.elim (fun q => q e2.1) (fun q => q e2.2))), r1]
        · rw [hB, hB2]
          have hy := nodeE_hi3 _ _ _ r6
          rw [r6]
          unfold nodeE
          simp only
          rw [if_pos ⟨trivial, trivial, hy⟩, ← hy]
      · refine base (fun t b tl u th v q ht hq => ?_) (by
          rw [chain3, if_pos]
          refine .inr ?_
          by_cases e3 : hi.take (2 ^ k) = hi.drop (2 ^ k)
          · exact .inr fun e4 => e2 ⟨e3, e4⟩
          · exact .inl e3)
        rw [hB] at q
        have hy := nodeE_hi3 _ _ _ q
        rw [hq] at hy
        have v1 := build_VE 3 n k (l + 1 + 1) (lo.drop (2 ^ k)) (by omega)
        by_cases e3 : hi.take (2 ^ k) = hi.drop (2 ^ k)
        · rw [buildE, ← e3, mk_same (by omega)] at hy
          exact e2 ⟨e3, build_inj (by omega) (by omega) k (l + 1 + 1) _ _ (by omega) b1 a2 hy⟩
        · have hhi : ¬ buildE 3 n k (l + 1 + 1) (hi.take (2 ^ k)) = buildE 3 n k (l + 1 + 1) (hi.drop (2 ^ k)) := fun q => e3 (build_inj (by omega) (by omega) k (l + 1 + 1) _ _ (by omega) b1 b2 q)
          rw [buildE, mk_diff (.inr rfl) hhi] at hy
          obtain ⟨_, _, _, _, _, ht2⟩ := nodeE_top 3 (l + 1) (buildE 3 n k (l + 1 + 1) (hi.take (2 ^ k))) (buildE 3 n k (l + 1 + 1) (hi.drop (2 ^ k)))
          rw [ht2] at hy
          unfold VE at v1
          rw [if_neg (by omega), ← hy] at v1
          have := v1.2.1
          omega
theorem term3_pr : ∀ (F k l : Nat) (t : List Bool), k ≤ F → l + k = n → t.length = 2 ^ k → term3 F k t l = prE 3 (buildE 3 n k l t) := by
  intro F
  induction F with
  | zero =>
    intro k l t hk h ht
    obtain rfl : k = 0 := by omega
    exact endT_one 3 l (by omega)
  | succ F ih =>
    intro k l t hk h ht
    cases k with
    | zero => exact endT_one 3 l (by omega)
    | succ k =>
      obtain ⟨h1, h2⟩ := halves_len ht
      rw [term3]
      by_cases e : t.take (2 ^ k) = t.drop (2 ^ k)
      · rw [if_pos e, ih _ _ _ (by omega) (by omega) h1, buildE, ← e, mk_same (by omega)]
      · have hne : ¬ buildE 3 n k (l + 1) (t.take (2 ^ k)) = buildE 3 n k (l + 1) (t.drop (2 ^ k)) := fun q => e (build_inj (by omega) (by omega) k (l + 1) _ _ (by omega) h1 h2 q)
        obtain ⟨m, c1, c2, b, r1, r2, r3, r4, r5, r6⟩ := chain3_pr (n := n) k l _ _ (by omega) h1 h2 e
        rw [if_neg e, r1, nodeT, buildE, mk_diff (.inr rfl) hne, r6, prE_node (by omega)]
        simp only
        rw [ih _ _ _ (by omega) r3 r4, ih _ _ _ (by omega) r3 r5]
        simp

theorem chain4_pr : ∀ (k l : Nat) (lo hi : List Bool), l + 1 + k = n → lo.length = 2 ^ k → hi.length = 2 ^ k →
    ∃ m c1 c2 b, chain4 k lo hi l = (m, c1, c2, b) ∧ m ≤ k ∧ b + 1 + m = n ∧ c1.length = 2 ^ m ∧ c2.length = 2 ^ m ∧
      nodeE 4 l (buildE 4 n k (l + 1) lo) (buildE 4 n k (l + 1) hi) = .node l b (buildE 4 n m (b + 1) c1).1 (buildE 4 n m (b + 1) c1).2 (buildE 4 n m (b + 1) c2).1 (buildE 4 n m (b + 1) c2).2 := by
  intro k
  induction k with
  | zero =>
    intro l lo hi h h1 h2
    exact ⟨0, lo, hi, l, rfl, Nat.le_refl _, h, h1, h2, nodeE_un (fun t b tl u th v e => by simp [buildE, leafE] at e)⟩
  | succ k ih =>
    intro l lo hi h h1 h2
    obtain ⟨a1, a2⟩ := halves_len h1
    have hz := build_zero (f := 4) (n := n) (by omega) (by omega) k (l + 1 + 1) (lo.drop (2 ^ k)) (by omega) a2
    rw [chain4]
    by_cases e : lo = hi ∧ noneB (lo.drop (2 ^ k)) = false
    · have hs : ¬ (buildE 4 n k (l + 1 + 1) (lo.drop (2 ^ k))).2 = .leaf false := fun q => by
        have := (noneB_iff _).2 (hz.1 q)
        rw [e.2] at this
        cases this
      obtain ⟨m, c1, c2, b, r1, r2, r3, r4, r5, r6⟩ := ih (l + 1) (lo.take (2 ^ k)) (lo.drop (2 ^ k)) (by omega) a1 a2
      refine ⟨m, c1, c2, b, by rw [if_pos e, r1], by omega, r3, r4, r5, ?_⟩
      rw [← e.1, buildE, mk_some (.inr rfl) hs, r6]
      unfold nodeE
      simp
    · refine ⟨k + 1, lo, hi, l, by rw [if_neg e], Nat.le_refl _, h, h1, h2, nodeE_un fun t b tl u th v q ht => ⟨by omega, fun hq => ?_⟩⟩
      have hlh := build_inj (by omega) (by omega) (k + 1) (l + 1) _ _ (by omega) h1 h2 hq.2
      refine e ⟨hlh, ?_⟩
      cases hb : noneB (lo.drop (2 ^ k)) with
      | false => rfl
      | true =>
        exfalso
        rw [buildE, mk_none (.inr rfl) (hz.2 ((noneB_iff _).1 hb))] at q
        have v1 := build_VE 4 n k (l + 1 + 1) (lo.take (2 ^ k)) (by omega)
        unfold VE at v1
        rw [if_neg (by omega), q] at v1
        have := v1.2.1
        omega
theorem zero_pr (f : Nat) {k l : Nat} {t : List Bool} (h : noneB t = true) : [48] = prE f (buildE f n k l t) := by
  rw [build_none _ _ _ ((noneB_iff _).1 h), prE, tagT, if_neg (by simp)]; rfl
theorem term4_pr : ∀ (F k l : Nat) (t : List Bool), k ≤ F → l + k = n → t.length = 2 ^ k → term4 F k t l = prE 4 (buildE 4 n k l t) := by
  have b0 : ∀ (l : Nat) (t : List Bool), t.length = 2 ^ 0 → (if noneB t then [48] else [49]) = prE 4 (buildE 4 n 0 l t) := by
    intro l t ht
    obtain ⟨a, rfl⟩ := List.length_eq_one_iff.1 ht
    cases a <;> simp [noneB, buildE, leafE, prE, tagT, prT]
  intro F
  induction F with
  | zero =>
    intro k l t hk h ht
    obtain rfl : k = 0 := by omega
    rw [term4]
    · exact b0 l t ht
    · simp
  | succ F ih =>
    intro k l t hk h ht
    cases k with
    | zero =>
      rw [term4]
      · exact b0 l t ht
      · simp
    | succ k =>
      obtain ⟨h1, h2⟩ := halves_len ht
      have hz := build_zero (f := 4) (n := n) (by omega) (by omega) k (l + 1) (t.drop (2 ^ k)) (by omega) h2
      rw [term4]
      by_cases e0 : noneB t = true
      · rw [if_pos e0]; exact zero_pr 4 e0
      · rw [if_neg e0]
        by_cases e : noneB (t.drop (2 ^ k)) = true
        · rw [if_pos e, ih _ _ _ (by omega) (by omega) h1, buildE, mk_none (.inr rfl) (hz.2 ((noneB_iff _).1 e))]
        · have hne : ¬ (buildE 4 n k (l + 1) (t.drop (2 ^ k))).2 = .leaf false := fun q => e ((noneB_iff _).2 (hz.1 q))
          obtain ⟨m, c1, c2, b, r1, r2, r3, r4, r5, r6⟩ := chain4_pr (n := n) k l _ _ (by omega) h1 h2
          rw [if_neg e, r1, nodeT, buildE, mk_some (.inr rfl) hne, r6, prE_node (by omega)]
          simp only
          rw [ih _ _ _ (by omega) r3 r4, ih _ _ _ (by omega) r3 r5]
          simp
end
end Go.Proofs.YtcoljkigphnjfaaGreatDoor

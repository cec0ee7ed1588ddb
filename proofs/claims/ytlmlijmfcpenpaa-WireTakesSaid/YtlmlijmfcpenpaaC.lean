/- Contracts: Text, PutText, Size, Same. -/
import Derived.Test.YtlmlijmfcpenpaaB
set_option linter.unusedVariables false
set_option linter.unusedSimpArgs false
namespace Go.Proofs.Ytlmlijmfcpenpaa
open Go.RowKit

theorem bytes_c (n : Nat) (hn : n < 18446744073709551616) (w : World) : Calls Try.prog 7 #[.int .u64 n] w fun e w' => ∃ v', e = .returned v' ∧ NewB w (enc 10 n) w' v' :=
  bytes_f 9 n w (Nat.lt_trans hn (by decide)) hn (by omega)

/-- append of a string behind new bytes. -/
theorem NewB.str {w w1 w2 : World} {l : List UInt8} {v' : Value} {F F' : List Nat} {s : ByteArray} (hm : Mod [] w w1) (hf : ∀ k ∈ F, w.heap.size ≤ k)
    (hs : Sl w2 5 1 v' (l.length + s.size) (bv l ++ Go.Lib.strCells s) F') (hm1 : Mod F w1 w2) (hf1 : ∀ k ∈ F', k ∈ F ∨ w1.heap.size ≤ k) : NewB w (l ++ s.data.toList) w2 v' := by
  refine ⟨F', ?_, hm.trans hm1 (fun i hi hx => by have := hf i hx; omega), fun k hk => ?_⟩
  · rw [bv_append, List.length_append]; exact hs
  · rcases hf1 k hk with h | h
    · exact hf k h
    · have := hm.size; omega

set_option maxHeartbeats 1000000 in
theorem text_c (s : ByteArray) (hs : s.size ≤ 1000) (w : World) : Calls Try.prog 8 #[.string s] w fun e w' => ∃ v', e = .returned v' ∧ NewB w (enc 10 s.size ++ s.data.toList) w' v' := by
  obtain ⟨i0, hi, hz0, hz1, hz2⟩ := info_parts Try.info5
  have hel := enc_length 10 s.size
  generalize hk : s.size = k at *
  have HK := Lib.hid hk
  clear hk
  have hwr : IntKind.u64.wrap (k : Int) = (k : Int) := IntWalk.u64_in _ ⟨by omega, by omega⟩
  go_enter Try.func8, Try.ntmps8
  go_wp2_with fail
  rw [HK.out, hwr]
  clear hwr
  ((with_reducible refine (bytes_c k (by omega) _).mono ?_))
  rintro e w1 ⟨v1, rfl, F1, hs1, hm1, hf1⟩
  obtain ⟨A, cap, rfl, _⟩ := hs1.shape
  have S1 := Lib.hid hs1
  have M1 := Lib.hid hm1
  have G1 := Lib.hid hf1
  clear hs1 hm1 hf1
  generalize hel' : (enc 10 k).length = m at *
  have EL := Lib.hid hel'
  clear hel'
  go_wp2_with (at_builtin; refine wpList_append_sls _ rfl _ _ 22 9 rfl 5 i0 Try.underlying22 Try.underlying9 hi hz0 hz1 hz2 _ m (bv (enc 10 k)) F1 rfl S1.out s rfl (by rw [HK.out]; unfold maxLen; omega) (by rw [HK.out]; omega) ?_; intro v' w2 F' hs2 hm2 hf2)
  go_ret
  exact ⟨_, rfl, NewB.str M1.out G1.out (by rw [EL.out]; exact hs2) hm2 hf2⟩

set_option maxHeartbeats 1000000 in
theorem puttext_c {w : World} {v : Value} {l : List UInt8} {F : List Nat} (h : Rd w v l F) (hl : l.length ≤ 50000) (s : ByteArray) (hs : s.size ≤ 1000) :
    Calls Try.prog 11 #[v, .string s] w fun e w' => ∃ v', e = .returned v' ∧ NewB w (l ++ enc 10 s.size ++ s.data.toList) w' v' := by
  obtain ⟨i0, hi, hz0, hz1, hz2⟩ := info_parts Try.info5
  have hel := enc_length 10 s.size
  have HP := Lib.hid (fun n hn => put_c h hl n hn)
  clear h
  generalize hk : s.size = k at *
  have HK := Lib.hid hk
  clear hk
  have hwr : IntKind.u64.wrap (k : Int) = (k : Int) := IntWalk.u64_in _ ⟨by omega, by omega⟩
  go_enter Try.func11, Try.ntmps11
  go_wp2_with fail
  rw [HK.out, hwr]
  clear hwr
  ((with_reducible refine (HP.out k (by omega)).mono ?_))
  rintro e w1 ⟨v1, rfl, F1, hs1, hm1, hf1⟩
  obtain ⟨A, cap, rfl, _⟩ := hs1.shape
  have S1 := Lib.hid hs1
  have M1 := Lib.hid hm1
  have G1 := Lib.hid hf1
  have hlen : (l ++ enc 10 k).length ≤ 50010 := by rw [List.length_append]; omega
  clear hs1 hm1 hf1 HP
  generalize hel' : (l ++ enc 10 k).length = m at *
  have EL := Lib.hid hel'
  clear hel'
  go_wp2_with (at_builtin; refine wpList_append_sls _ rfl _ _ 22 9 rfl 5 i0 Try.underlying22 Try.underlying9 hi hz0 hz1 hz2 _ m (bv (l ++ enc 10 k)) F1 rfl S1.out s rfl (by rw [HK.out]; unfold maxLen; omega) (by rw [HK.out]; omega) ?_; intro v' w2 F' hs2 hm2 hf2)
  go_ret
  exact ⟨_, rfl, NewB.str M1.out G1.out (by rw [EL.out]; exact hs2) hm2 hf2⟩

set_option maxRecDepth 100000 in
set_option maxHeartbeats 1000000 in
theorem size_c (n : Nat) (hn : n < 18446744073709551616) (w : World) : Calls Try.prog 12 #[.int .u64 n] w fun e w' => e = .returned (.int .i64 (enc 10 n).length) ∧ w = w' := by
  have HP := Lib.hid (PutI.start hn)
  clear hn
  go_enter Try.func12, Try.ntmps12
  go_wp2_with fail
  go_loop [0, 3] (fun m c => ∃ (done : List UInt8) (k : Nat), m = .int .u64 k ∧ c = .int .i64 ((done.length : Int) + 1) ∧ PutI n done k) (fun m _ => (intOf m).toNat)
  case atStart => exact ⟨[], n, rfl, rfl, HP.out⟩
  case round =>
    obtain ⟨done, k, rfl, rfl, hP⟩ := hrel
    have hd := hP.len
    have P2 := Lib.hid hP
    clear hP
    by_cases hs : k < 128
    · obtain ⟨q1, q2⟩ := P2.out.fin hs
      have Q1 := Lib.hid q1
      clear q1
      go_wp2
      go_ret
      refine ⟨?_, rfl⟩
      rw [Q1.out]; simp
    · have Q := Lib.hid (P2.out.next hs)
      go_wp2
      go_round
      case rel => exact ⟨_, k / 128, rfl, by simp, Q.out⟩
      case measure => simp [intOf]; omega

def eqTo (l1 l2 : List UInt8) (i : Nat) : Prop := ∀ j, j < i → l1[j]? = l2[j]?
theorem eqTo.all {l1 l2 : List UInt8} (hl : l1.length = l2.length) (h : eqTo l1 l2 l1.length) : l1 = l2 := by
  apply List.ext_getElem?
  intro j
  by_cases hj : j < l1.length
  · exact h j hj
  · rw [List.getElem?_eq_none (by omega), List.getElem?_eq_none (by omega)]

set_option maxRecDepth 100000 in
set_option maxHeartbeats 1000000 in
theorem same_c {w : World} {v1 v2 : Value} {l1 l2 : List UInt8} {F1 F2 : List Nat} (h1 : Rd w v1 l1 F1) (h2 : Rd w v2 l2 F2) (hl1 : l1.length ≤ 100000) (hl2 : l2.length ≤ 100000) :
    Calls Try.prog 9 #[v1, v2] w fun e w' => e = .returned (.bool (decide (l1 = l2))) ∧ Mod [] w w' := by
  obtain ⟨A1, c1, rfl, hc1⟩ := h1.shape
  obtain ⟨A2, c2, rfl, hc2⟩ := h2.shape
  have H1 := Lib.hid h1
  have H2 := Lib.hid h2
  clear h1 h2
  generalize hn1 : l1.length = n1 at *
  generalize hn2 : l2.length = n2 at *
  have N1 := Lib.hid hn1
  have N2 := Lib.hid hn2
  clear hn1 hn2
  by_cases hne : n1 = n2
  · subst hne
    have hb : ((n1 : Int) != (n1 : Int)) = false := by simp
    go_enter Try.func9, Try.ntmps9
    go_wp2
    go_loopw [5] (fun i wr => ∃ k : Nat, i = .int .i64 k ∧ k ≤ n1 ∧ eqTo l1 l2 k ∧ Mod [] w wr) (fun i _ => n1 - (intOf i).toNat)
    case atStart => exact ⟨0, rfl, Nat.zero_le _, fun j hj => by omega, Mod.refl _ _⟩
    case round =>
      obtain ⟨k, rfl, hk, he, hm⟩ := hrel
      have HE := Lib.hid he
      have HM := Lib.hid hm
      clear he hm
      by_cases hlt : k < n1
      · obtain ⟨b1, o1, rfl, d1⟩ := (H1.out.mod HM.out (by simp)).at k (by rw [N1.out]; exact hlt)
        obtain ⟨b2, o2, rfl, d2⟩ := (H2.out.mod HM.out (by simp)).at k (by rw [N2.out]; exact hlt)
        have g1 : Hid (l1[k]? = some (l1[k]'(by rw [N1.out]; exact hlt))) := List.getElem?_eq_getElem _
        have g2 : Hid (l2[k]? = some (l2[k]'(by rw [N2.out]; exact hlt))) := List.getElem?_eq_getElem _
        generalize (l1[k]'(by rw [N1.out]; exact hlt)) = x1 at *
        generalize (l2[k]'(by rw [N2.out]; exact hlt)) = x2 at *
        by_cases hx : x1 = x2
        · subst hx
          have hbx : ((x1.toNat : Int) != (x1.toNat : Int)) = false := by simp
          go_wp2
          go_quiet (fail)
          go_wp2
          go_roundw
          case rel =>
            refine ⟨k + 1, by go_num, by omega, fun j hj => ?_, HM.out.drewN _⟩
            by_cases e : j = k
            · subst e; rw [g1.out, g2.out]
            · exact HE.out j (by omega)
          case measure => simp [intOf]; omega
        · have hbx : ((x1.toNat : Int) != (x2.toNat : Int)) = true := by
            rw [bne_iff_ne]; intro e; exact hx (UInt8.toNat_inj.1 (by omega))
          have hd : Hid (decide (l1 = l2) = false) := by
            show _ = _
            rw [decide_eq_false_iff_not]; rintro rfl
            rw [g1.out] at g2
            have := g2.out
            simp at this; exact hx this
          clear hx
          go_wp2
          go_quiet (fail)
          go_wp2
          go_ret
          exact ⟨by rw [hd.out]; rfl, HM.out.drewN _⟩
      · obtain rfl : k = n1 := by omega
        have hd : Hid (decide (l1 = l2) = true) := by
          show _ = _
          rw [decide_eq_true_iff]; exact eqTo.all (by rw [N1.out, N2.out]) (by rw [N1.out]; exact HE.out)
        go_wp2
        go_ret
        exact ⟨by rw [hd.out]; rfl, HM.out⟩
  · have hb : ((n1 : Int) != (n2 : Int)) = true := by rw [bne_iff_ne]; omega
    have hd : Hid (decide (l1 = l2) = false) := by
      show _ = _
      rw [decide_eq_false_iff_not]; rintro rfl; exact hne (N1.out.symm.trans N2.out)
    clear hne
    go_enter Try.func9, Try.ntmps9
    go_wp2
    go_ret
    exact ⟨by rw [hd.out]; rfl, Mod.refl _ _⟩
end Go.Proofs.Ytlmlijmfcpenpaa

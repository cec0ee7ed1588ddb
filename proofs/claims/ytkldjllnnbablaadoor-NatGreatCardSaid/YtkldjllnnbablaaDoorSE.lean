/- Written, Read. -/
import Derived.Test.YtkldjllnnbablaaDoorSD
set_option linter.unusedVariables false
set_option linter.unusedSimpArgs false
namespace Go.Proofs.YtkldjllnnbablaaDoor
open Go.RowKit Go.Shelf

def isDig (c : UInt8) : Bool := decide (48 ≤ c.toNat) && decide (c.toNat ≤ 57)
theorem isDig_iff (c : UInt8) : isDig c = true ↔ 48 ≤ c.toNat ∧ c.toNat ≤ 57 := by simp [isDig]
/-- Is a text decimal digits, without noughts ahead? -/
def writ (l : List UInt8) : Bool := l.all isDig && (decide (l = [48]) || (decide (0 < l.length) && decide (l.head? ≠ some 48)))
theorem writ_all {l : List UInt8} (h : ∀ c ∈ l, isDig c = true) : writ l = (decide (l = [48]) || (decide (0 < l.length) && decide (l.head? ≠ some 48))) := by
  unfold writ
  rw [List.all_eq_true.2 h, Bool.true_and]
theorem writ_not {l : List UInt8} {c : UInt8} (hc : c ∈ l) (h : isDig c = false) : writ l = false := by
  have h1 : l.all isDig = false := by
    rw [List.all_eq_false]
    exact ⟨c, hc, by rw [h]; decide⟩
  unfold writ
  rw [h1, Bool.false_and]
theorem bytes_at (s : ByteArray) (i : Nat) (h : i < s.size) : s[i] = s.data.toList[i]'(by simpa using h) := rfl

set_option maxRecDepth 100000 in
set_option maxHeartbeats 4000000 in
theorem written_c (s : ByteArray) (hs : s.size ≤ 100000) (w : World) :
    Calls Tryd.prog 34 #[.string s] w fun e w' => e = .returned (.bool (writ s.data.toList)) ∧ Mod [] w w' := by
  obtain ⟨n, hn⟩ : ∃ n, s.size = n := ⟨_, rfl⟩
  have HLEN : Hid (s.data.toList.length = n) := by show _ = _; rw [← hn]; rfl
  have fin : Hid ((∀ c ∈ s.data.toList, isDig c = true) → writ s.data.toList = ((s.toList == [48]) || (decide (0 < n) && decide (s.data.toList.head? ≠ some 48)))) := fun h => by
    have e : (s.toList == [48]) = decide (s.data.toList = [48]) := by
      rw [ByteArray.toList_eq]
      by_cases q : s.data.toList = [48]
      · rw [decide_eq_true q, beq_iff_eq]; exact q
      · rw [decide_eq_false q, beq_eq_false_iff_ne]; exact q
    rw [writ_all h, e, HLEN.out]
  obtain ⟨b1, hb1⟩ : ∃ b, (s.toList == [48]) = b := ⟨_, rfl⟩
  rw [hb1] at fin
  go_enter Tryd.func34, Tryd.ntmps34
  go_wp2_with fail
  go_loopw [3] (fun i wr => ∃ k : Nat, i = .int .i64 k ∧ k ≤ n ∧ wr = w ∧ Hid (∀ c ∈ s.data.toList.take k, isDig c = true)) (fun i _ => n - (intOf i).toNat)
  case atStart => exact ⟨0, rfl, Nat.zero_le _, rfl, by show ∀ c ∈ _, _; simp⟩
  case round =>
    obtain ⟨k, rfl, hk, rfl, HA⟩ := hrel
    by_cases hkn : k < n
    · have hks : k < s.size := by omega
      have hkl : k < s.data.toList.length := by rw [HLEN.out]; exact hkn
      have SM : Hid (∀ x : Nat, s[k].toNat = x → (48 ≤ x ∧ x ≤ 57 → ∀ c ∈ s.data.toList.take (k + 1), isDig c = true) ∧ (¬ (48 ≤ x ∧ x ≤ 57) → writ s.data.toList = false)) := fun x hx => by
        refine ⟨fun h c hc => ?_, fun h => writ_not (c := s.data.toList[k]) (List.getElem_mem _) ?_⟩
        · rw [List.take_succ_eq_append_getElem hkl] at hc
          rcases List.mem_append.1 hc with q | q
          · exact HA.out c q
          · simp only [List.mem_singleton] at q
            rw [q, isDig_iff]
            exact hx ▸ h
        · rw [← Bool.not_eq_true, isDig_iff]
          exact hx ▸ h
      obtain ⟨x, hx⟩ : ∃ x, s[k].toNat = x := ⟨_, rfl⟩
      have SX := Lib.hid (SM.out x hx)
      by_cases h1 : (x : Int) < 48
      · have R := Lib.hid (SX.out.2 (by omega))
        clear SM SX
        go_wp2
        go_ret
        exact ⟨by rw [R.out]; rfl, Mod.refl _ _⟩
      · by_cases h2 : (57 : Int) < x
        · have R := Lib.hid (SX.out.2 (by omega))
          clear SM SX
          go_wp2
          go_ret
          exact ⟨by rw [R.out]; rfl, Mod.refl _ _⟩
        · have R := Lib.hid (SX.out.1 (by omega))
          clear SM SX HA
          go_wp2_with fail
          go_roundw
          case rel => exact ⟨k + 1, by go_num, by omega, trivial, R.out⟩
          case measure => simp [intOf]; omega
    · obtain rfl : k = n := by omega
      have FIN : Hid (writ s.data.toList = (b1 || (decide (0 < k) && decide (s.data.toList.head? ≠ some 48)))) := fin.out (by
        intro c hc
        refine HA.out c ?_
        rw [List.take_of_length_le (by rw [HLEN.out]; exact Nat.le_refl _)]
        exact hc)
      clear fin HA
      cases b1 with
      | true =>
        go_wp2
        go_ret
        exact ⟨by rw [FIN.out]; rfl, Mod.refl _ _⟩
      | false =>
        by_cases h0 : 0 < k
        · have hks : 0 < s.size := by omega
          obtain ⟨x, hx⟩ : ∃ x, s[0].toNat = x := ⟨_, rfl⟩
          have HX : Hid (decide (s.data.toList.head? ≠ some 48) = !decide ((x : Int) = 48)) := by
            show _ = _
            rw [List.head?_eq_getElem?, List.getElem?_eq_getElem (by rw [HLEN.out]; exact h0)]
            have e : s.data.toList[0]'(by rw [HLEN.out]; exact h0) = s[0] := rfl
            rw [e]
            by_cases q : (x : Int) = 48
            · rw [decide_eq_true q, decide_eq_false]
              · rfl
              · intro hne
                refine hne ?_
                congr 1
                apply UInt8.toNat_inj.1
                rw [hx]; show x = 48; omega
            · rw [decide_eq_false q, decide_eq_true]
              · rfl
              · intro he
                rw [Option.some.injEq] at he
                rw [he] at hx
                apply q
                rw [← hx]; rfl
          by_cases q : (x : Int) = 48
          · have hbq : ((x : Int) != 48) = false := by rw [q]; rfl
            rw [decide_eq_true q] at HX
            clear q
            go_wp2
            go_ret
            exact ⟨by rw [FIN.out, HX.out]; simp, Mod.refl _ _⟩
          · have hbq : ((x : Int) != 48) = true := by rw [bne_iff_ne]; exact q
            rw [decide_eq_false q] at HX
            clear q
            go_wp2
            go_ret
            exact ⟨by rw [FIN.out, HX.out, decide_eq_true h0]; rfl, Mod.refl _ _⟩
        · go_wp2
          go_ret
          exact ⟨by rw [FIN.out, decide_eq_false h0]; rfl, Mod.refl _ _⟩
end Go.Proofs.YtkldjllnnbablaaDoor

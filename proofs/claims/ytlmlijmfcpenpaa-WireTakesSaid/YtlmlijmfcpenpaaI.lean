/- The document's Take: its contract. -/
import Derived.Test.YtlmlijmfcpenpaaE
set_option linter.unusedVariables false
set_option linter.unusedSimpArgs false
namespace Go.Proofs.Ytlmlijmfcpenpaa
open Go.RowKit

def takeM (l : List UInt8) (m : Nat) : Nat × Nat × Nat := if (take1 l).2.2 ≠ 0 then (0, 0, (take1 l).2.2) else if m < (take1 l).1 then (0, 0, 12) else take1 l

/-- Where the first loop stands: j bytes that go on. -/
def LeadI (l : List UInt8) (j : Nat) : Prop := lead 10 l = j + lead (10 - j) (l.drop j) ∧ j ≤ 10
theorem LeadI.start (l : List UInt8) : LeadI l 0 := ⟨by simp, by omega⟩
theorem LeadI.next {l : List UInt8} {j : Nat} {c : UInt8} (h : LeadI l j) (hj : j < 10) (hc : l[j]? = some c) (h8 : 128 ≤ c.toNat) : LeadI l (j + 1) := ⟨(lead_step hj hc h.1).1 h8, by omega⟩
theorem LeadI.fin {l : List UInt8} {j : Nat} (h : LeadI l j) (hx : l.length ≤ j ∨ (∃ c, l[j]? = some c ∧ ¬ 128 ≤ c.toNat) ∨ 10 ≤ j) : lead 10 l = j := by
  have hj := h.2
  by_cases h10 : j = 10
  · exact lead_end (.inl h10) h.1
  · rcases hx with hx | ⟨c, hc, h8⟩ | hx
    · exact lead_end (.inr hx) h.1
    · exact (lead_step (by omega) hc h.1).2 h8
    · omega

theorem takeM_over {l : List UInt8} {m K : Nat} (hK : lead 10 l = K) (h : K = 10 ∨ ovF 10 0 l = true) : takeM l m = (0, 0, 7) := by
  unfold takeM take1; rw [hK, if_pos h]; rfl
theorem takeM_end {l : List UInt8} {m K : Nat} (hK : lead 10 l = K) (h : ¬ (K = 10 ∨ ovF 10 0 l = true)) (h2 : l.length ≤ K) : takeM l m = (0, 0, 11) := by
  unfold takeM take1; rw [hK, if_neg h, if_pos h2]; rfl
theorem takeM_num {l : List UInt8} {m K : Nat} (hK : lead 10 l = K) (h : ¬ (K = 10 ∨ ovF 10 0 l = true)) (h2 : ¬ l.length ≤ K) :
    takeM l m = if m < hv (l.take (K + 1)) then (0, 0, 12) else (hv (l.take (K + 1)), K + 1, 0) := by
  unfold takeM take1; rw [hK, if_neg h, if_neg h2]; rfl
theorem tk_num {n s e n' s' e' : Nat} {x : Nat × Nat × Nat} (h : x = (n, s, e)) (h1 : n = n') (h2 : s = s') (h3 : e = e') :
    Ending.returned (.tuple #[.int .u64 (n' : Int), .int .i64 (s' : Int), .int .i64 (e' : Int)]) = Ending.returned (.tuple #[.int .u64 (x.1 : Int), .int .i64 (x.2.1 : Int), .int .i64 (x.2.2 : Int)]) := by
  subst h h1 h2 h3; rfl

theorem tk_num2 {n s e n' e' : Nat} {s' : Int} {x : Nat × Nat × Nat} (h : x = (n, s, e)) (h1 : n = n') (h2 : s' = (s : Int)) (h3 : e = e') :
    Ending.returned (.tuple #[.int .u64 (n' : Int), .int .i64 s', .int .i64 (e' : Int)]) = Ending.returned (.tuple #[.int .u64 (x.1 : Int), .int .i64 (x.2.1 : Int), .int .i64 (x.2.2 : Int)]) := by
  subst h h1 h2 h3; rfl

set_option maxRecDepth 100000 in
set_option maxHeartbeats 8000000 in
theorem take_c {w : World} {v : Value} {l : List UInt8} {F : List Nat} (h : Rd w v l F) (hl : l.length ≤ 1000) (a : Nat) (ha : a ≤ l.length) (m : Nat) :
    Calls Try.prog 14 #[v, .int .i64 a, .int .u64 m] w fun e w' => e = .returned (.tuple #[.int .u64 (takeM (l.drop a) m).1, .int .i64 (takeM (l.drop a) m).2.1, .int .i64 (takeM (l.drop a) m).2.2]) ∧ w = w' := by
  obtain ⟨A, cap, rfl, hc⟩ := h.shape
  have H := Lib.hid h
  have hg : Hid (∀ j, (l.drop a)[j]? = l[a + j]?) := fun j => List.getElem?_drop
  have hdl : Hid ((l.drop a).length = l.length - a) := List.length_drop
  generalize l.drop a = l' at *
  clear h
  generalize hn : l.length = n at *
  have HN := Lib.hid hn
  clear hn
  go_enter Try.func14, Try.ntmps14
  go_wp2
  go_loop [9] (fun e => ∃ k : Nat, e = .int .i64 k ∧ a ≤ k ∧ k ≤ n ∧ k ≤ a + 10 ∧ LeadI l' (k - a)) (fun e => n - (intOf e).toNat)
  case atStart => exact ⟨a, rfl, Nat.le_refl _, ha, by omega, by rw [Nat.sub_self]; exact LeadI.start l'⟩
  case round =>
    obtain ⟨k, rfl, hk1, hk2, hk3, hI⟩ := hrel
    have HI := Lib.hid hI
    clear hI
    by_cases hcont : ∃ c : UInt8, l[k]? = some c ∧ 128 ≤ c.toNat ∧ k < a + 10
    · obtain ⟨c, hc, h8, h10⟩ := hcont
      have hlt : k < n := by have := (List.getElem?_eq_some_iff.1 hc).1; rw [HN.out] at this; exact this
      obtain ⟨b, off, rfl, d⟩ := H.out.at k (by rw [HN.out]; exact hlt)
      rw [List.getElem?_eq_getElem (by rw [HN.out]; exact hlt)] at hc
      simp only [Option.some.injEq] at hc
      rw [hc] at d
      have HC : Hid (LeadI l' (k + 1 - a)) := by
        have := HI.out.next (c := c) (by omega) (by rw [hg.out, show a + (k - a) = k by omega, List.getElem?_eq_getElem (by rw [HN.out]; exact hlt), hc]) h8
        rw [show k - a + 1 = k + 1 - a by omega] at this
        exact this
      have h8' : (128 : Int) ≤ c.toNat := by omega
      have h10' : (k : Int) - a < 10 := by omega
      clear hc h8
      go_wp2
      go_round
      case rel => exact ⟨k + 1, by go_num, by omega, by omega, by omega, HC.out⟩
      case measure => simp [intOf]; omega
    · have hex : n ≤ k ∨ (∃ c : UInt8, k < n ∧ l[k]? = some c ∧ ¬ 128 ≤ c.toNat) ∨ (∃ c : UInt8, k < n ∧ l[k]? = some c ∧ 128 ≤ c.toNat ∧ k = a + 10) := by
        rcases Nat.lt_or_ge k n with hlt | hge
        · have e := List.getElem?_eq_getElem (show k < l.length by rw [HN.out]; exact hlt)
          by_cases h8 : 128 ≤ (l[k]'(by rw [HN.out]; exact hlt)).toNat
          · refine .inr (.inr ⟨_, hlt, e, h8, ?_⟩)
            by_cases hx : k < a + 10
            · exact absurd ⟨_, e, h8, hx⟩ hcont
            · omega
          · exact .inr (.inl ⟨_, hlt, e, h8⟩)
        · exact .inl hge
      have HK : Hid (lead 10 l' = k - a) := by
        refine HI.out.fin ?_
        rcases hex with hx | ⟨c, hx, e, h8⟩ | ⟨c, hx, e, h8, h10⟩
        · exact .inl (by rw [hdl.out]; omega)
        · exact .inr (.inl ⟨c, by rw [hg.out, show a + (k - a) = k by omega]; exact e, h8⟩)
        · exact .inr (.inr (by omega))
      clear hcont
      rcases hex with hx | ⟨c, hx, e, h8⟩ | ⟨c, hx, e, h8, h10⟩
      · as_aux_lemma =>
          go_wp2
          go_loop [11, 12] (fun o i => ∃ q : Nat, i = .int .i64 q ∧ a + 1 ≤ q ∧ q ≤ k + 1 ∧ q ≤ a + 10 ∧ o = .bool (ovU l' (q - a - 1))) (fun _ i => n + 20 - (intOf i).toNat)
          case atStart => exact ⟨a + 1, by go_num, Nat.le_refl _, by omega, by omega, by rw [show a + 1 - a - 1 = 0 by omega]; rfl⟩
          case round =>
            obtain ⟨q, rfl, hq1, hq2, hq3, rfl⟩ := hrel
            by_cases hgo : q < n ∧ q ≤ a + 9 ∧ q ≤ k
            · obtain ⟨g1, g2, g3⟩ := hgo
              obtain ⟨b2, off2, e2, d2⟩ := H.out.at q (by rw [HN.out]; exact g1)
              have hb : Hid (badAt l' (q - a) = (decide ((l[q]'(by rw [HN.out]; exact g1)).toNat = 0) || (decide (q - a = 9) && decide (1 < (l[q]'(by rw [HN.out]; exact g1)).toNat)))) := by
                show _ = _
                unfold badAt
                rw [hg.out, show a + (q - a) = q by omega, List.getElem?_eq_getElem (by rw [HN.out]; exact g1)]
              have hov : Hid (ovU l' (q + 1 - a - 1) = (ovU l' (q - a - 1) || badAt l' (q - a))) := by
                show _ = _
                rw [show q + 1 - a - 1 = (q - a - 1) + 1 by omega, ovU, show q - a - 1 + 1 = q - a by omega]
              generalize (l[q]'(by rw [HN.out]; exact g1)) = c2 at *
              generalize ovU l' (q - a - 1) = ob at *
              first
                | subst e2
                | (simp only [Option.some.injEq, Addr.mk.injEq, and_true] at e2; obtain ⟨rfl, rfl⟩ := e2)
              have c8 := c2.toNat_lt
              have g2' : (q : Int) - a ≤ 9 := by omega
              by_cases e0 : c2.toNat = 0
              · have b0 : ((c2.toNat : Int) == 0) = true := by rw [beq_iff_eq]; omega
                have B := Lib.hid (show badAt l' (q - a) = true by rw [hb.out, decide_eq_true e0]; rfl)
                clear e0
                go_wp2
                go_round
                case rel => exact ⟨q + 1, by go_num, by omega, by omega, by omega, by rw [hov.out, B.out, Bool.or_true]⟩
                case measure => simp [intOf]; omega
              · have b0 : ((c2.toNat : Int) == 0) = false := by rw [beq_eq_false_iff_ne]; omega
                by_cases e9 : q = a + 9
                · have b9 : ((q : Int) - a == 9) = true := by rw [beq_iff_eq]; omega
                  by_cases e1 : 1 < c2.toNat
                  · have B := Lib.hid (show badAt l' (q - a) = true by rw [hb.out, decide_eq_true e1, decide_eq_true (show q - a = 9 by omega)]; simp)
                    clear e0 e9
                    go_wp2
                    go_round
                    case rel => exact ⟨q + 1, by go_num, by omega, by omega, by omega, by rw [hov.out, B.out, Bool.or_true]⟩
                    case measure => simp [intOf]; omega
                  · have B := Lib.hid (show badAt l' (q - a) = false by rw [hb.out, decide_eq_false e1, decide_eq_false e0]; simp)
                    clear e0 e9
                    go_wp2
                    go_round
                    case rel => exact ⟨q + 1, by go_num, by omega, by omega, by omega, by rw [hov.out, B.out, Bool.or_false]⟩
                    case measure => simp [intOf]; omega
                · have b9 : ((q : Int) - a == 9) = false := by rw [beq_eq_false_iff_ne]; omega
                  have B := Lib.hid (show badAt l' (q - a) = false by rw [hb.out, decide_eq_false e0, decide_eq_false (show ¬ q - a = 9 by omega)]; simp)
                  clear e0 e9
                  go_wp2
                  go_round
                  case rel => exact ⟨q + 1, by go_num, by omega, by omega, by omega, by rw [hov.out, B.out, Bool.or_false]⟩
                  case measure => simp [intOf]; omega
            · have HO : Hid (ovF 10 0 l' = ovU l' (q - a - 1)) := by
                refine (ovU_ovF l' (q - a - 1) (by omega) (by rw [HK.out]; omega) ?_).symm
                rw [HK.out, hdl.out]
                omega
              generalize ovU l' (q - a - 1) = ob at *
              have hex2 : n ≤ q ∨ (q < n ∧ (9 : Int) < (q : Int) - a) ∨ (q < n ∧ (q : Int) - a ≤ 9 ∧ (k : Int) < q) := by omega
              clear hgo
              rcases hex2 with hx2 | ⟨hx2, hy2⟩ | ⟨hx2, hy2, hz2⟩
              all_goals (try (exfalso; omega))
              all_goals
                by_cases h10 : k = a + 10
                · have bk : ((k : Int) - a == 10) = true := by rw [beq_iff_eq]; omega
                  have E := Lib.hid (takeM_over (m := m) HK.out (.inl (by omega)))
                  clear h10
                  go_wp2
                  go_ret3
                  exact ⟨tk_num E.out rfl rfl rfl, rfl⟩
                · have bk : ((k : Int) - a == 10) = false := by rw [beq_eq_false_iff_ne]; omega
                  cases ob with
                  | true =>
                    have E := Lib.hid (takeM_over (m := m) HK.out (.inr HO.out))
                    clear h10
                    go_wp2
                    go_ret3
                    exact ⟨tk_num E.out rfl rfl rfl, rfl⟩
                  | false =>
                    have hnot : Hid (¬ (k - a = 10 ∨ ovF 10 0 l' = true)) := by
                      show ¬ _
                      rw [HO.out]; simp; omega
                    by_cases hend : n ≤ k
                    · have E := Lib.hid (takeM_end (m := m) HK.out hnot.out (by rw [hdl.out]; omega))
                      clear h10
                      go_wp2
                      go_ret3
                      exact ⟨tk_num E.out rfl rfl rfl, rfl⟩
                    · exfalso; omega
      · as_aux_lemma =>
          obtain ⟨b, off, rfl, d⟩ := H.out.at k (by rw [HN.out]; exact hx)
          rw [List.getElem?_eq_getElem (by rw [HN.out]; exact hx)] at e
          simp only [Option.some.injEq] at e
          rw [e] at d
          clear e
          go_wp2
          go_loop [11, 12] (fun o i => ∃ q : Nat, i = .int .i64 q ∧ a + 1 ≤ q ∧ q ≤ k + 1 ∧ q ≤ a + 10 ∧ o = .bool (ovU l' (q - a - 1))) (fun _ i => n + 20 - (intOf i).toNat)
          case atStart => exact ⟨a + 1, by go_num, Nat.le_refl _, by omega, by omega, by rw [show a + 1 - a - 1 = 0 by omega]; rfl⟩
          case round =>
            obtain ⟨q, rfl, hq1, hq2, hq3, rfl⟩ := hrel
            by_cases hgo : q < n ∧ q ≤ a + 9 ∧ q ≤ k
            · obtain ⟨g1, g2, g3⟩ := hgo
              obtain ⟨b2, off2, e2, d2⟩ := H.out.at q (by rw [HN.out]; exact g1)
              have hb : Hid (badAt l' (q - a) = (decide ((l[q]'(by rw [HN.out]; exact g1)).toNat = 0) || (decide (q - a = 9) && decide (1 < (l[q]'(by rw [HN.out]; exact g1)).toNat)))) := by
                show _ = _
                unfold badAt
                rw [hg.out, show a + (q - a) = q by omega, List.getElem?_eq_getElem (by rw [HN.out]; exact g1)]
              have hov : Hid (ovU l' (q + 1 - a - 1) = (ovU l' (q - a - 1) || badAt l' (q - a))) := by
                show _ = _
                rw [show q + 1 - a - 1 = (q - a - 1) + 1 by omega, ovU, show q - a - 1 + 1 = q - a by omega]
              generalize (l[q]'(by rw [HN.out]; exact g1)) = c2 at *
              generalize ovU l' (q - a - 1) = ob at *
              first
                | subst e2
                | (simp only [Option.some.injEq, Addr.mk.injEq, and_true] at e2; obtain ⟨rfl, rfl⟩ := e2)
              have c8 := c2.toNat_lt
              have g2' : (q : Int) - a ≤ 9 := by omega
              by_cases e0 : c2.toNat = 0
              · have b0 : ((c2.toNat : Int) == 0) = true := by rw [beq_iff_eq]; omega
                have B := Lib.hid (show badAt l' (q - a) = true by rw [hb.out, decide_eq_true e0]; rfl)
                clear e0
                go_wp2
                go_round
                case rel => exact ⟨q + 1, by go_num, by omega, by omega, by omega, by rw [hov.out, B.out, Bool.or_true]⟩
                case measure => simp [intOf]; omega
              · have b0 : ((c2.toNat : Int) == 0) = false := by rw [beq_eq_false_iff_ne]; omega
                by_cases e9 : q = a + 9
                · have b9 : ((q : Int) - a == 9) = true := by rw [beq_iff_eq]; omega
                  by_cases e1 : 1 < c2.toNat
                  · have B := Lib.hid (show badAt l' (q - a) = true by rw [hb.out, decide_eq_true e1, decide_eq_true (show q - a = 9 by omega)]; simp)
                    clear e0 e9
                    go_wp2
                    go_round
                    case rel => exact ⟨q + 1, by go_num, by omega, by omega, by omega, by rw [hov.out, B.out, Bool.or_true]⟩
                    case measure => simp [intOf]; omega
                  · have B := Lib.hid (show badAt l' (q - a) = false by rw [hb.out, decide_eq_false e1, decide_eq_false e0]; simp)
                    clear e0 e9
                    go_wp2
                    go_round
                    case rel => exact ⟨q + 1, by go_num, by omega, by omega, by omega, by rw [hov.out, B.out, Bool.or_false]⟩
                    case measure => simp [intOf]; omega
                · have b9 : ((q : Int) - a == 9) = false := by rw [beq_eq_false_iff_ne]; omega
                  have B := Lib.hid (show badAt l' (q - a) = false by rw [hb.out, decide_eq_false e0, decide_eq_false (show ¬ q - a = 9 by omega)]; simp)
                  clear e0 e9
                  go_wp2
                  go_round
                  case rel => exact ⟨q + 1, by go_num, by omega, by omega, by omega, by rw [hov.out, B.out, Bool.or_false]⟩
                  case measure => simp [intOf]; omega
            · have HO : Hid (ovF 10 0 l' = ovU l' (q - a - 1)) := by
                refine (ovU_ovF l' (q - a - 1) (by omega) (by rw [HK.out]; omega) ?_).symm
                rw [HK.out, hdl.out]
                omega
              generalize ovU l' (q - a - 1) = ob at *
              have hex2 : n ≤ q ∨ (q < n ∧ (9 : Int) < (q : Int) - a) ∨ (q < n ∧ (q : Int) - a ≤ 9 ∧ (k : Int) < q) := by omega
              clear hgo
              rcases hex2 with hx2 | ⟨hx2, hy2⟩ | ⟨hx2, hy2, hz2⟩
              all_goals (try (exfalso; omega))
              all_goals
                by_cases h10 : k = a + 10
                · have bk : ((k : Int) - a == 10) = true := by rw [beq_iff_eq]; omega
                  have E := Lib.hid (takeM_over (m := m) HK.out (.inl (by omega)))
                  clear h10
                  go_wp2
                  go_ret3
                  exact ⟨tk_num E.out rfl rfl rfl, rfl⟩
                · have bk : ((k : Int) - a == 10) = false := by rw [beq_eq_false_iff_ne]; omega
                  cases ob with
                  | true =>
                    have E := Lib.hid (takeM_over (m := m) HK.out (.inr HO.out))
                    clear h10
                    go_wp2
                    go_ret3
                    exact ⟨tk_num E.out rfl rfl rfl, rfl⟩
                  | false =>
                    have hnot : Hid (¬ (k - a = 10 ∨ ovF 10 0 l' = true)) := by
                      show ¬ _
                      rw [HO.out]; simp; omega
                    by_cases hend : n ≤ k
                    · exfalso; omega
                    · have E := Lib.hid (takeM_num (m := m) HK.out hnot.out (by rw [hdl.out]; omega))
                      have hw64 : Hid (hv (l'.take (k - a + 1)) < 18446744073709551616) := by
                        have := hv_word l' (by rw [HK.out]; exact fun e => hnot.out (.inl e)) (fun e => hnot.out (.inr e)) (by rw [HK.out, hdl.out]; omega)
                        rw [HK.out] at this; exact this
                      have htl : Hid ((l'.take (k - a + 1)).length = k - a + 1) := by show _ = _; rw [List.length_take, hdl.out]; omega
                      have hte : Hid (∀ j, j ≤ k - a → (l'.take (k - a + 1))[j]? = l[a + j]?) := fun j hj => by rw [List.getElem?_take_of_lt (by omega), hg.out]
                      generalize l'.take (k - a + 1) = T at *
                      clear h10
                      go_wp2
                      go_loop [13, 14] (fun v i => ∃ r : Nat, i = .int .i64 ((r : Int) - 1) ∧ a ≤ r ∧ r ≤ k + 1 ∧ v = .int .u64 (hv (T.drop (r - a)) : Nat)) (fun _ i => ((intOf i) + 1).toNat)
                      case atStart => exact ⟨k + 1, by simp, by omega, Nat.le_refl _, by rw [List.drop_eq_nil_of_le (by rw [htl.out]; omega)]; rfl⟩
                      case round =>
                        obtain ⟨r, rfl, hr1, hr2, rfl⟩ := hrel
                        by_cases hr : a < r
                        · obtain ⟨r, rfl⟩ : ∃ r', r = r' + 1 := ⟨r - 1, by omega⟩
                          have hi1 : (((r + 1 : Nat) : Int) - 1) = (r : Int) := by omega
                          rw [hi1]
                          obtain ⟨b3, off3, e3, d3⟩ := H.out.at r (by rw [HN.out]; omega)
                          have hst : Hid (hv (T.drop (r - a)) = (l[r]'(by rw [HN.out]; omega)).toNat % 128 + 128 * hv (T.drop (r + 1 - a))) := by
                            show _ = _
                            rw [hv_step (by rw [htl.out]; omega), show r - a + 1 = r + 1 - a by omega]
                            have h1 := hte.out (r - a) (by omega)
                            rw [show a + (r - a) = r by omega, List.getElem?_eq_getElem (by rw [htl.out]; omega), List.getElem?_eq_getElem (by rw [HN.out]; omega)] at h1
                            simp only [Option.some.injEq] at h1
                            rw [h1]
                          have hle := hv_drop_le T (r - a)
                          have hw1 := hw64.out
                          generalize (l[r]'(by rw [HN.out]; omega)) = c3 at *
                          generalize hYd : hv (T.drop (r - a)) = Y at *
                          have HYd := Lib.hid hYd
                          clear hYd
                          generalize hv (T.drop (r + 1 - a)) = X at *
                          have hY := hst.out
                          have c8 := c3.toNat_lt
                          first
                            | subst e3
                            | (simp only [Option.some.injEq, Addr.mk.injEq, and_true] at e3; obtain ⟨rfl, rfl⟩ := e3)
                          have w1 : IntKind.u64.wrap ((X : Int) * 128) = (X : Int) * 128 := IntWalk.u64_in _ ⟨by omega, by omega⟩
                          have w2 : IntKind.u64.wrap ((X : Int) * 128 + (c3.toNat : Int) % 128) = (X : Int) * 128 + (c3.toNat : Int) % 128 := IntWalk.u64_in _ ⟨by omega, by omega⟩
                          clear hi1 hY hle hw1
                          go_wp2
                          go_round
                          case rel =>
                            exact ⟨r, rfl, by omega, by omega, by rw [HYd.out]; congr 1; have := hst.out; omega⟩
                          case measure => simp [intOf] <;> omega
                        · obtain rfl : r = a := by omega
                          rw [Nat.sub_self, List.drop_zero]
                          have hlt0 : ((r : Int) - 1) < r := by omega
                          generalize hV : hv T = V at *
                          by_cases hm : m < V
                          · have E2 := E.out
                            rw [if_pos hm] at E2
                            have E3 := Lib.hid E2
                            clear E2 E hV
                            go_wp2
                            go_ret3
                            exact ⟨tk_num E3.out rfl rfl rfl, rfl⟩
                          · have E2 := E.out
                            rw [if_neg hm] at E2
                            have E3 := Lib.hid E2
                            clear E2 E hV
                            go_wp2
                            go_ret3
                            exact ⟨tk_num2 E3.out rfl (by omega) rfl, rfl⟩
      · as_aux_lemma =>
          obtain ⟨b, off, rfl, d⟩ := H.out.at k (by rw [HN.out]; exact hx)
          rw [List.getElem?_eq_getElem (by rw [HN.out]; exact hx)] at e
          simp only [Option.some.injEq] at e
          rw [e] at d
          have h10' : ¬ ((k : Int) - a < 10) := by omega
          have h10a : a + 10 ≤ k := by omega
          clear e h10
          go_wp2
          go_loop [11, 12] (fun o i => ∃ q : Nat, i = .int .i64 q ∧ a + 1 ≤ q ∧ q ≤ k + 1 ∧ q ≤ a + 10 ∧ o = .bool (ovU l' (q - a - 1))) (fun _ i => n + 20 - (intOf i).toNat)
          case atStart => exact ⟨a + 1, by go_num, Nat.le_refl _, by omega, by omega, by rw [show a + 1 - a - 1 = 0 by omega]; rfl⟩
          case round =>
            obtain ⟨q, rfl, hq1, hq2, hq3, rfl⟩ := hrel
            by_cases hgo : q < n ∧ q ≤ a + 9 ∧ q ≤ k
            · obtain ⟨g1, g2, g3⟩ := hgo
              obtain ⟨b2, off2, e2, d2⟩ := H.out.at q (by rw [HN.out]; exact g1)
              have hb : Hid (badAt l' (q - a) = (decide ((l[q]'(by rw [HN.out]; exact g1)).toNat = 0) || (decide (q - a = 9) && decide (1 < (l[q]'(by rw [HN.out]; exact g1)).toNat)))) := by
                show _ = _
                unfold badAt
                rw [hg.out, show a + (q - a) = q by omega, List.getElem?_eq_getElem (by rw [HN.out]; exact g1)]
              have hov : Hid (ovU l' (q + 1 - a - 1) = (ovU l' (q - a - 1) || badAt l' (q - a))) := by
                show _ = _
                rw [show q + 1 - a - 1 = (q - a - 1) + 1 by omega, ovU, show q - a - 1 + 1 = q - a by omega]
              generalize (l[q]'(by rw [HN.out]; exact g1)) = c2 at *
              generalize ovU l' (q - a - 1) = ob at *
              first
                | subst e2
                | (simp only [Option.some.injEq, Addr.mk.injEq, and_true] at e2; obtain ⟨rfl, rfl⟩ := e2)
              have c8 := c2.toNat_lt
              have g2' : (q : Int) - a ≤ 9 := by omega
              by_cases e0 : c2.toNat = 0
              · have b0 : ((c2.toNat : Int) == 0) = true := by rw [beq_iff_eq]; omega
                have B := Lib.hid (show badAt l' (q - a) = true by rw [hb.out, decide_eq_true e0]; rfl)
                clear e0
                go_wp2
                go_round
                case rel => exact ⟨q + 1, by go_num, by omega, by omega, by omega, by rw [hov.out, B.out, Bool.or_true]⟩
                case measure => simp [intOf]; omega
              · have b0 : ((c2.toNat : Int) == 0) = false := by rw [beq_eq_false_iff_ne]; omega
                by_cases e9 : q = a + 9
                · have b9 : ((q : Int) - a == 9) = true := by rw [beq_iff_eq]; omega
                  by_cases e1 : 1 < c2.toNat
                  · have B := Lib.hid (show badAt l' (q - a) = true by rw [hb.out, decide_eq_true e1, decide_eq_true (show q - a = 9 by omega)]; simp)
                    clear e0 e9
                    go_wp2
                    go_round
                    case rel => exact ⟨q + 1, by go_num, by omega, by omega, by omega, by rw [hov.out, B.out, Bool.or_true]⟩
                    case measure => simp [intOf]; omega
                  · have B := Lib.hid (show badAt l' (q - a) = false by rw [hb.out, decide_eq_false e1, decide_eq_false e0]; simp)
                    clear e0 e9
                    go_wp2
                    go_round
                    case rel => exact ⟨q + 1, by go_num, by omega, by omega, by omega, by rw [hov.out, B.out, Bool.or_false]⟩
                    case measure => simp [intOf]; omega
                · have b9 : ((q : Int) - a == 9) = false := by rw [beq_eq_false_iff_ne]; omega
                  have B := Lib.hid (show badAt l' (q - a) = false by rw [hb.out, decide_eq_false e0, decide_eq_false (show ¬ q - a = 9 by omega)]; simp)
                  clear e0 e9
                  go_wp2
                  go_round
                  case rel => exact ⟨q + 1, by go_num, by omega, by omega, by omega, by rw [hov.out, B.out, Bool.or_false]⟩
                  case measure => simp [intOf]; omega
            · have HO : Hid (ovF 10 0 l' = ovU l' (q - a - 1)) := by
                refine (ovU_ovF l' (q - a - 1) (by omega) (by rw [HK.out]; omega) ?_).symm
                rw [HK.out, hdl.out]
                omega
              generalize ovU l' (q - a - 1) = ob at *
              have hex2 : n ≤ q ∨ (q < n ∧ (9 : Int) < (q : Int) - a) ∨ (q < n ∧ (q : Int) - a ≤ 9 ∧ (k : Int) < q) := by omega
              clear hgo
              rcases hex2 with hx2 | ⟨hx2, hy2⟩ | ⟨hx2, hy2, hz2⟩
              all_goals (try (exfalso; omega))
              all_goals
                by_cases h10 : k = a + 10
                · have bk : ((k : Int) - a == 10) = true := by rw [beq_iff_eq]; omega
                  have E := Lib.hid (takeM_over (m := m) HK.out (.inl (by omega)))
                  clear h10
                  go_wp2
                  go_ret3
                  exact ⟨tk_num E.out rfl rfl rfl, rfl⟩
                · have bk : ((k : Int) - a == 10) = false := by rw [beq_eq_false_iff_ne]; omega
                  cases ob with
                  | true =>
                    have E := Lib.hid (takeM_over (m := m) HK.out (.inr HO.out))
                    clear h10
                    go_wp2
                    go_ret3
                    exact ⟨tk_num E.out rfl rfl rfl, rfl⟩
                  | false =>
                    have hnot : Hid (¬ (k - a = 10 ∨ ovF 10 0 l' = true)) := by
                      show ¬ _
                      rw [HO.out]; simp; omega
                    by_cases hend : n ≤ k
                    · exfalso; omega
                    · have E := Lib.hid (takeM_num (m := m) HK.out hnot.out (by rw [hdl.out]; omega))
                      have hw64 : Hid (hv (l'.take (k - a + 1)) < 18446744073709551616) := by
                        have := hv_word l' (by rw [HK.out]; exact fun e => hnot.out (.inl e)) (fun e => hnot.out (.inr e)) (by rw [HK.out, hdl.out]; omega)
                        rw [HK.out] at this; exact this
                      have htl : Hid ((l'.take (k - a + 1)).length = k - a + 1) := by show _ = _; rw [List.length_take, hdl.out]; omega
                      have hte : Hid (∀ j, j ≤ k - a → (l'.take (k - a + 1))[j]? = l[a + j]?) := fun j hj => by rw [List.getElem?_take_of_lt (by omega), hg.out]
                      generalize l'.take (k - a + 1) = T at *
                      clear h10
                      go_wp2
                      go_loop [13, 14] (fun v i => ∃ r : Nat, i = .int .i64 ((r : Int) - 1) ∧ a ≤ r ∧ r ≤ k + 1 ∧ v = .int .u64 (hv (T.drop (r - a)) : Nat)) (fun _ i => ((intOf i) + 1).toNat)
                      case atStart => exact ⟨k + 1, by simp, by omega, Nat.le_refl _, by rw [List.drop_eq_nil_of_le (by rw [htl.out]; omega)]; rfl⟩
                      case round =>
                        obtain ⟨r, rfl, hr1, hr2, rfl⟩ := hrel
                        by_cases hr : a < r
                        · obtain ⟨r, rfl⟩ : ∃ r', r = r' + 1 := ⟨r - 1, by omega⟩
                          have hi1 : (((r + 1 : Nat) : Int) - 1) = (r : Int) := by omega
                          rw [hi1]
                          obtain ⟨b3, off3, e3, d3⟩ := H.out.at r (by rw [HN.out]; omega)
                          have hst : Hid (hv (T.drop (r - a)) = (l[r]'(by rw [HN.out]; omega)).toNat % 128 + 128 * hv (T.drop (r + 1 - a))) := by
                            show _ = _
                            rw [hv_step (by rw [htl.out]; omega), show r - a + 1 = r + 1 - a by omega]
                            have h1 := hte.out (r - a) (by omega)
                            rw [show a + (r - a) = r by omega, List.getElem?_eq_getElem (by rw [htl.out]; omega), List.getElem?_eq_getElem (by rw [HN.out]; omega)] at h1
                            simp only [Option.some.injEq] at h1
                            rw [h1]
                          have hle := hv_drop_le T (r - a)
                          have hw1 := hw64.out
                          generalize (l[r]'(by rw [HN.out]; omega)) = c3 at *
                          generalize hYd : hv (T.drop (r - a)) = Y at *
                          have HYd := Lib.hid hYd
                          clear hYd
                          generalize hv (T.drop (r + 1 - a)) = X at *
                          have hY := hst.out
                          have c8 := c3.toNat_lt
                          first
                            | subst e3
                            | (simp only [Option.some.injEq, Addr.mk.injEq, and_true] at e3; obtain ⟨rfl, rfl⟩ := e3)
                          have w1 : IntKind.u64.wrap ((X : Int) * 128) = (X : Int) * 128 := IntWalk.u64_in _ ⟨by omega, by omega⟩
                          have w2 : IntKind.u64.wrap ((X : Int) * 128 + (c3.toNat : Int) % 128) = (X : Int) * 128 + (c3.toNat : Int) % 128 := IntWalk.u64_in _ ⟨by omega, by omega⟩
                          clear hi1 hY hle hw1
                          go_wp2
                          go_round
                          case rel =>
                            exact ⟨r, rfl, by omega, by omega, by rw [HYd.out]; congr 1; have := hst.out; omega⟩
                          case measure => simp [intOf] <;> omega
                        · obtain rfl : r = a := by omega
                          rw [Nat.sub_self, List.drop_zero]
                          have hlt0 : ((r : Int) - 1) < r := by omega
                          generalize hV : hv T = V at *
                          by_cases hm : m < V
                          · have E2 := E.out
                            rw [if_pos hm] at E2
                            have E3 := Lib.hid E2
                            clear E2 E hV
                            go_wp2
                            go_ret3
                            exact ⟨tk_num E3.out rfl rfl rfl, rfl⟩
                          · have E2 := E.out
                            rw [if_neg hm] at E2
                            have E3 := Lib.hid E2
                            clear E2 E hV
                            go_wp2
                            go_ret3
                            exact ⟨tk_num2 E3.out rfl (by omega) rfl, rfl⟩
end Go.Proofs.Ytlmlijmfcpenpaa

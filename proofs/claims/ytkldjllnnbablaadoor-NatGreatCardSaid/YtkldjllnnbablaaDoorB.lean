/- Words: fits, both, told; Add64, Sub64. -/
import Derived.Test.YtkldjllnnbablaaDoorA
import Derived.Laws.Externs
import Derived.Shelf.Spec.BitsCarry
set_option linter.unusedVariables false
set_option linter.unusedSimpArgs false
namespace Go.Proofs.YtkldjllnnbablaaDoor
open Go.RowKit Go.Shelf

theorem fits_c (A : Option Addr) (n cap : Nat) (w : World) : Calls Tryd.prog 37 #[.slice A n cap] w fun e w' => e = .returned (.bool (decide (n ≤ 64))) ∧ w = w' := by
  have h : decide ((n : Int) ≤ 64) = decide (n ≤ 64) := by
    by_cases q : n ≤ 64
    · rw [decide_eq_true q, decide_eq_true (by omega)]
    · rw [decide_eq_false q, decide_eq_false (by omega)]
  by_cases q : n ≤ 64
  · have q' : (n : Int) ≤ 64 := by omega
    have HQ := Lib.hid (decide_eq_true q)
    go_enter Tryd.func37, Tryd.ntmps37
    go_wp2
    go_ret
    exact ⟨by first | rfl | (rw [HQ.out]; rfl), rfl⟩
  · have q' : ¬ (n : Int) ≤ 64 := by omega
    have HQ := Lib.hid (decide_eq_false q)
    go_enter Tryd.func37, Tryd.ntmps37
    go_wp2
    go_ret
    exact ⟨by first | rfl | (rw [HQ.out]; rfl), rfl⟩

/-- What both gives: two new numbers, and whether both fit. -/
theorem both_c {w : World} {v1 v2 : Value} {l1 l2 F1 F2 : List Nat} (h1 : Nv w v1 l1 F1) (h2 : Nv w v2 l2 F2) (hl1 : l1.length ≤ 100000) (hl2 : l2.length ≤ 100000) :
    Calls Tryd.prog 42 #[v1, v2] w fun e w' => ∃ (A1 A2 : Option Addr) (c1 c2 : Nat) (m1 m2 : List Nat), e = .returned (.tuple #[.slice A1 m1.length c1, .slice A2 m2.length c2, .bool (decide (vl B64 l1 < lim) && decide (vl B64 l2 < lim))]) ∧
      Can B64 m1 (vl B64 l1) ∧ Can B64 m2 (vl B64 l2) ∧ NewV 23 w (m1.map e6) w' (.slice A1 m1.length c1) ∧ (∃ F2', Rv w' (.slice A2 m2.length c2) (m2.map e6) F2' ∧ ∀ k ∈ F2', w.heap.size ≤ k) ∧ (∃ F1', Sl w' 23 1 (.slice A1 m1.length c1) m1.length (m1.map e6) F1' ∧ (∀ k ∈ F1', w.heap.size ≤ k) ∧ ∃ F2', Rv w' (.slice A2 m2.length c2) (m2.map e6) F2' ∧ (∀ k ∈ F2', w.heap.size ≤ k ∧ k ∉ F1')) := by
  have H1 := Lib.hid h1
  have H2 := Lib.hid h2
  have L2 := Lib.hid hl2
  have C1 := Lib.hid (norm_c h1 hl1)
  clear h1 h2 hl1 hl2
  go_enter Tryd.func42, Tryd.ntmps42
  go_wp2_with fail
  refine C1.out.mono ?_
  rintro e w1 ⟨u1, rfl, m1, hc1, n1⟩
  have N1 := Lib.hid n1
  have K1 := Lib.hid hc1
  have C2 := Lib.hid (norm_c (H2.out.mod n1.mod (by simp)) L2.out)
  obtain ⟨A1, c1, rfl⟩ := n1.shape
  clear n1 hc1
  have E1 : Hid ((m1.map e6).length = m1.length) := List.length_map _
  rw [E1.out] at N1 ⊢
  go_wp2_with fail
  refine C2.out.mono ?_
  rintro e w2 ⟨u2, rfl, m2, hc2, n2⟩
  have N2 := Lib.hid n2
  have K2 := Lib.hid hc2
  obtain ⟨A2, c2, rfl⟩ := n2.shape
  clear n2 hc2
  have E2 : Hid ((m2.map e6).length = m2.length) := List.length_map _
  rw [E2.out] at N2 ⊢
  have D1 : Hid (decide (m1.length ≤ 64) = decide (vl B64 l1 < lim)) := by show _ = _; rw [decide_eq_decide]; exact K1.out.fits64
  have D2 : Hid (decide (m2.length ≤ 64) = decide (vl B64 l2 < lim)) := by show _ = _; rw [decide_eq_decide]; exact K2.out.fits64
  have FT := Lib.hid fits_c
  have fin : Hid (NewV 23 w (m1.map e6) w2 (.slice A1 m1.length c1) ∧ (∃ F2', Rv w2 (.slice A2 m2.length c2) (m2.map e6) F2' ∧ ∀ k ∈ F2', w.heap.size ≤ k) ∧ (∃ F1', Sl w2 23 1 (.slice A1 m1.length c1) m1.length (m1.map e6) F1' ∧ (∀ k ∈ F1', w.heap.size ≤ k) ∧ ∃ F2', Rv w2 (.slice A2 m2.length c2) (m2.map e6) F2' ∧ (∀ k ∈ F2', w.heap.size ≤ k ∧ k ∉ F1'))) := by
    obtain ⟨F1', s1, q1, f1⟩ := N1.out
    obtain ⟨F2', r2, f2⟩ := N2.out.rv
    have hs := q1.size
    have s1' := s1.mod N2.out.mod (by simp)
    rw [E1.out] at s1'
    exact ⟨N1.out.later N2.out.mod, ⟨F2', r2, fun k hk => Nat.le_trans hs (f2 k hk)⟩, F1', s1', f1, F2', r2, fun k hk => ⟨Nat.le_trans hs (f2 k hk), fun hm => by have := s1.lt k hm; have := f2 k hk; omega⟩⟩
  obtain ⟨n1, hn1⟩ : ∃ q, m1.length = q := ⟨_, rfl⟩
  obtain ⟨n2, hn2⟩ : ∃ q, m2.length = q := ⟨_, rfl⟩
  have HN1 := Lib.hid hn1
  have HN2 := Lib.hid hn2
  rw [hn1, hn2]
  have QQ := Lib.hid fin.out
  clear fin N1 N2 C1 C2 hn1 hn2
  by_cases q1 : n1 ≤ 64
  · have T1 := Lib.hid (decide_eq_true q1)
    go_wp2_with fail
    refine (FT.out _ _ _ _).mono ?_
    rw [T1.out]
    rintro e w3 ⟨rfl, rfl⟩
    go_wp2_with fail
    refine (FT.out _ _ _ _).mono ?_
    rintro e w3 ⟨rfl, rfl⟩
    by_cases q2 : n2 ≤ 64
    · have T2 := Lib.hid (decide_eq_true q2)
      rw [T2.out]
      go_wp2
      go_returns
      refine ⟨A1, A2, c1, c2, m1, m2, ?_, K1.out, K2.out, QQ.out⟩
      rw [← D1.out, ← D2.out, HN1.out, HN2.out, T1.out, T2.out]; rfl
    · have T2 := Lib.hid (decide_eq_false q2)
      rw [T2.out]
      go_wp2
      go_returns
      refine ⟨A1, A2, c1, c2, m1, m2, ?_, K1.out, K2.out, QQ.out⟩
      rw [← D1.out, ← D2.out, HN1.out, HN2.out, T1.out, T2.out]; rfl
  · have T1 := Lib.hid (decide_eq_false q1)
    go_wp2_with fail
    refine (FT.out _ _ _ _).mono ?_
    rw [T1.out]
    rintro e w3 ⟨rfl, rfl⟩
    go_wp2
    go_returns
    refine ⟨A1, A2, c1, c2, m1, m2, ?_, K1.out, K2.out, QQ.out⟩
    rw [← D1.out, ← D2.out, HN1.out, HN2.out, T1.out]; rfl

/-- What an operation tells. -/
def Told (w : World) (ok : Bool) (n : Nat) (e : Ending) (w' : World) : Prop :=
  (ok = true ∧ ∃ v', e = .returned (.tuple #[v', .bool true]) ∧ NNew w n w' v') ∨ (ok = false ∧ e = .returned (.tuple #[.slice none 0 0, .bool false]) ∧ Mod [] w w')
theorem Told.after {w0 w w' : World} {ok : Bool} {n : Nat} {e : Ending} (h : Told w ok n e w') (m : Mod [] w0 w) : Told w0 ok n e w' := by
  rcases h with ⟨h1, v', h2, h3⟩ | ⟨h1, h2, h3⟩
  · exact .inl ⟨h1, v', h2, h3.after m⟩
  · exact .inr ⟨h1, h2, m.trans h3 (by simp)⟩

theorem told_c {w : World} {v : Value} {l F : List Nat} (h : Nv w v l F) (hl : l.length ≤ 100000) :
    Calls Tryd.prog 44 #[v] w fun e w' => Told w (decide (vl B64 l < lim)) (vl B64 l) e w' := by
  have C1 := Lib.hid (norm_c h hl)
  clear h hl
  go_enter Tryd.func44, Tryd.ntmps44
  go_wp2_with fail
  refine C1.out.mono ?_
  rintro e w1 ⟨u1, rfl, m1, hc1, n1⟩
  have N1 := Lib.hid n1
  have K1 := Lib.hid hc1
  obtain ⟨A1, c1, rfl⟩ := n1.shape
  clear n1 hc1
  have E1 : Hid ((m1.map e6).length = m1.length) := List.length_map _
  rw [E1.out] at N1 ⊢
  have FT := Lib.hid fits_c
  obtain ⟨n1, hn1⟩ : ∃ q, m1.length = q := ⟨_, rfl⟩
  have HN1 := Lib.hid hn1
  rw [hn1] at N1 ⊢
  clear hn1
  by_cases q1 : n1 ≤ 64
  · have T1 := Lib.hid (decide_eq_true q1)
    have T : Hid (decide (vl B64 l < lim) = true) := decide_eq_true (K1.out.fits64.1 (by rw [HN1.out]; exact q1))
    go_wp2_with fail
    refine (FT.out _ _ _ _).mono ?_
    rw [T1.out]
    rintro e w3 ⟨rfl, rfl⟩
    go_wp2
    go_ret2
    exact .inl ⟨T.out, _, rfl, m1, K1.out, N1.out⟩
  · have T1 := Lib.hid (decide_eq_false q1)
    have T : Hid (decide (vl B64 l < lim) = false) := decide_eq_false (fun q => q1 (by rw [← HN1.out]; exact K1.out.fits64.2 q))
    go_wp2_with fail
    refine (FT.out _ _ _ _).mono ?_
    rw [T1.out]
    rintro e w3 ⟨rfl, rfl⟩
    go_wp2
    go_ret2
    exact .inr ⟨T.out, rfl, N1.out.mod⟩

theorem run_Add64 (x y c : Nat) (hc : c ≤ 1) (w : World) :
    (callFunc 43 #[.int .u64 x, .int .u64 y, .int .u64 c]).run Tryd.prog w =
      .ok (.value (.tuple #[.int .u64 (((x + y + c) % 18446744073709551616 : Nat) : Int), .int .u64 (((x + y + c) / 18446744073709551616 : Nat) : Int)])) w := by
  rw [run_callFunc_extern Tryd.func43 (by kernel_rfl) (by kernel_rfl) (by kernel_rfl) (e := add64Entry) (by kernel_rfl), run_add64 x y c (by omega) (by omega) (by omega) (by omega)]
  simp only [Result.andThen]
  congr 5 <;> omega
theorem run_Sub64 (x y b : Nat) (hb : b ≤ 1) (w : World) :
    (callFunc 45 #[.int .u64 x, .int .u64 y, .int .u64 b]).run Tryd.prog w =
      .ok (.value (.tuple #[.int .u64 (((x + 18446744073709551616 - y - b) % 18446744073709551616 : Nat) : Int), .int .u64 ((if x < y + b then 1 else 0 : Nat) : Int)])) w := by
  rw [run_callFunc_extern Tryd.func45 (by kernel_rfl) (by kernel_rfl) (by kernel_rfl) (e := sub64Entry) (by kernel_rfl), run_sub64 x y b hb]
  rfl
end Go.Proofs.YtkldjllnnbablaaDoor

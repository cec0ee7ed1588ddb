/- The plain law of SeqLazy: what far ranges give. -/
import Derived.Test.YtchbgnfmmplinaaT
set_option linter.unusedVariables false
set_option linter.unusedSimpArgs false
namespace Go.Proofs.Ytchbgnfmmplinaa
open Go.RowKit

theorem rngN1 (n : Nat) : rngN 0 n 1 = n := by
  have h1 := rng_up (a := 0) (b := n) (c := 1) (by omega) n
  have h2 := rng_up (a := 0) (b := n) (c := 1) (by omega) (rngN 0 n 1)
  omega
theorem far_get {M i : Nat} (h : i < M) : (rngL 0 M 1)[i]? = some (i : Int) := by
  unfold rngL
  rw [rngN1, List.getElem?_map, List.getElem?_range h]
  simp
theorem far_take {M n : Nat} (h : n ≤ M) : (rngL 0 M 1).take n = rngL 0 n 1 := by
  unfold rngL
  rw [rngN1, rngN1, ← List.map_take, List.take_range, Nat.min_eq_left h]
theorem ev_get {n : Nat} (hn : 0 < n) (L : List Int) : ∀ i, (ev L n)[i]? = L[i * n]? := by
  suffices h : ∀ q (L : List Int), L.length = q → ∀ i, (ev L n)[i]? = L[i * n]? from h _ L rfl
  intro q
  induction q with
  | zero =>
    intro L hl i
    rw [List.length_eq_zero_iff.1 hl]; simp [ev]
  | succ q ih =>
    intro L hl i
    rcases List.eq_nil_or_concat L with rfl | ⟨pre, x, rfl⟩
    · simp at hl
    · rw [List.concat_eq_append] at *
      have hp : pre.length = q := by rw [List.length_append] at hl; simpa using hl
      have ih := ih pre hp
      by_cases hm : pre.length % n = 0
      · rw [ev_hit x hm]
        obtain ⟨d, hd⟩ := Nat.dvd_of_mod_eq_zero hm
        have hlen : (ev pre n).length = d := by
          have a1 := ih d
          rw [List.getElem?_eq_none (show pre.length ≤ d * n by rw [hd, Nat.mul_comm]; exact Nat.le_refl _)] at a1
          have a2 : (ev pre n).length ≤ d := List.getElem?_eq_none_iff.1 a1
          rcases Nat.lt_or_ge (ev pre n).length d with q1 | q1
          · have a3 := ih (ev pre n).length
            rw [List.getElem?_eq_none (Nat.le_refl _)] at a3
            have a4 : pre.length ≤ (ev pre n).length * n := List.getElem?_eq_none_iff.1 a3.symm
            rw [hd] at a4
            have a5 : ((ev pre n).length + 1) * n ≤ d * n := Nat.mul_le_mul_right n q1
            rw [Nat.add_mul] at a5
            rw [Nat.mul_comm n d] at a4
            omega
          · omega
        rcases Nat.lt_trichotomy i d with q1 | q1 | q1
        · have b1 : i * n < pre.length := by
            rw [hd, Nat.mul_comm n d]; exact Nat.mul_lt_mul_of_pos_right q1 hn
          rw [List.getElem?_append_left (by omega), List.getElem?_append_left b1, ih]
        · subst q1
          have b1 : i * n = pre.length := by rw [hd, Nat.mul_comm]
          rw [List.getElem?_append_right (by omega), List.getElem?_append_right (by omega), hlen, b1]
          simp
        · have b1 : (d + 1) * n ≤ i * n := Nat.mul_le_mul_right n q1
          rw [Nat.add_mul, Nat.mul_comm d n, ← hd] at b1
          rw [List.getElem?_eq_none (by rw [List.length_append]; simp; omega), List.getElem?_eq_none (by rw [List.length_append]; simp; omega)]
      · rw [ev_miss x hm, ih]
        rcases Nat.lt_trichotomy (i * n) pre.length with q1 | q1 | q1
        · rw [List.getElem?_append_left q1]
        · exact absurd (by rw [← q1]; exact Nat.mul_mod_left i n) hm
        · rw [List.getElem?_eq_none (by omega), List.getElem?_eq_none (by rw [List.length_append]; simp; omega)]

theorem ms_len_ge (P b : List Int) : P.length ≤ (ms P b).1.length := by
  have h : ∀ (L : List Int) (s : List Int × List Int), s.1.length + L.length ≤ (L.foldl mstep s).1.length := by
    intro L
    induction L with
    | nil => intro s; exact Nat.le_refl _
    | cons x L ih =>
      intro s
      have h1 := ih (mstep s x)
      have h2 : s.1.length + 1 ≤ (mstep s x).1.length := by simp [mstep]
      rw [List.foldl_cons, List.length_cons]; omega
  have := h P ([], b)
  simpa [ms] using this
theorem pre_take {x y : List Int} {m : Nat} (h : x <+: y) (hm : m ≤ x.length) : y.take m = x.take m := by
  obtain ⟨t, rfl⟩ := h
  exact List.take_append_of_le_length hm
theorem mgL_take (P T b : List Int) {m : Nat} (hm : m ≤ P.length) : (mgL (P ++ T) b).take m = (mgL P b).take m := by
  have h0 : m ≤ (ms P b).1.length := Nat.le_trans hm (ms_len_ge P b)
  have h1 : (ms P b).1 <+: mgL (P ++ T) b := by
    refine List.IsPrefix.trans ?_ (List.prefix_append _ _)
    have : ms (P ++ T) b = T.foldl mstep (ms P b) := by simp [ms, List.foldl_append]
    rw [this]; exact foldl_pre T (ms P b)
  have h2 : (ms P b).1 <+: mgL P b := List.prefix_append _ _
  rw [pre_take h1 h0, pre_take h2 h0]

/-- The first m of every n-th behind k. -/
def lazA (k n m : Nat) : List Int := (List.range m).map fun (i : Nat) => (k : Int) + (i : Int) * n
theorem lazA_len (k n m : Nat) : (lazA k n m).length = m := by simp [lazA]
theorem lazA_eq {M k n m : Nat} (hn : 0 < n) (hM : k + m * n ≤ M) : (ev ((rngL 0 M 1).drop k) n).take m = lazA k n m := by
  apply List.ext_getElem?
  intro i
  rw [List.getElem?_take]
  by_cases h : i < m
  · have h1 : i * n < m * n := Nat.mul_lt_mul_of_pos_right h hn
    rw [if_pos h, ev_get hn, List.getElem?_drop, far_get (by omega)]
    simp [lazA, List.getElem?_map, List.getElem?_range h]
  · rw [if_neg h, List.getElem?_eq_none (by rw [lazA_len]; omega)]
end Go.Proofs.Ytchbgnfmmplinaa

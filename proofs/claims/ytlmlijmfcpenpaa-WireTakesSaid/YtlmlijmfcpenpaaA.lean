/- Numbers as bytes, plain: the bytes of a number, what a number's bytes are read as, by the code's loop ('scan') and by the document's ('lead', 'ovF', 'hv'). -/
import Derived.Test.YtlmlijmfcpenpaaBy
set_option linter.unusedVariables false
set_option linter.unusedSimpArgs false
namespace Go.Proofs.Ytlmlijmfcpenpaa

def enc : Nat → Nat → List UInt8
  | 0, _ => []
  | f + 1, n => if n < 128 then [UInt8.ofNat n] else UInt8.ofNat (n % 128 + 128) :: enc f (n / 128)

theorem enc_length (f n : Nat) : (enc f n).length ≤ f := by
  induction f generalizing n with
  | zero => simp [enc]
  | succ f ih =>
    unfold enc
    split
    · simp
    · simp; exact ih _
theorem enc_small {f n : Nat} (h : n < 128) : enc (f + 1) n = [UInt8.ofNat n] := by unfold enc; rw [if_pos h]
theorem enc_big {f n : Nat} (h : ¬ n < 128) : enc (f + 1) n = UInt8.ofNat (n % 128 + 128) :: enc f (n / 128) := by
  rw [enc, if_neg h]
theorem byte_nat {n : Nat} (h : n < 256) : (UInt8.ofNat n).toNat = n := by rw [UInt8.toNat_ofNat_of_lt']; exact h

def scan : Nat → Nat → List UInt8 → Nat × Nat × Nat
  | _, _, [] => (0, 0, 11)
  | i, acc, c :: t =>
    if i = 10 ∨ (i = 9 ∧ 1 < c.toNat) then (0, 0, 7)
    else if c.toNat = 0 ∧ 0 < i then (0, 0, 7)
    else if c.toNat < 128 then (acc + c.toNat % 128 * 128 ^ i, i + 1, 0)
    else scan (i + 1) (acc + c.toNat % 128 * 128 ^ i) t

theorem pow_le {i j : Nat} (h : i ≤ j) : 128 ^ i ≤ 128 ^ j := Nat.pow_le_pow_right (by omega) h
theorem pow_succ' (i : Nat) : 128 ^ (i + 1) = 128 ^ i * 128 := Nat.pow_succ ..

/-- What the accumulator stays below. -/
theorem acc_step {i acc : Nat} {c : UInt8} (ha : acc < 128 ^ i) : acc + c.toNat % 128 * 128 ^ i < 128 ^ (i + 1) := by
  have h1 : c.toNat % 128 ≤ 127 := by omega
  have h2 := Nat.mul_le_mul_right (128 ^ i) h1
  rw [pow_succ']; omega
theorem acc_word {i acc : Nat} {c : UInt8} (ha : acc < 128 ^ i) (hi : i ≤ 9) (h9 : i = 9 → c.toNat ≤ 1) : acc + c.toNat % 128 * 128 ^ i < 18446744073709551616 := by
  by_cases e : i = 9
  · subst e
    have := h9 rfl
    have h2 : c.toNat % 128 ≤ 1 := by omega
    have h3 := Nat.mul_le_mul_right (128 ^ 9) h2
    have e9 : (128 : Nat) ^ 9 = 9223372036854775808 := by decide
    rw [e9] at *
    omega
  · have h1 := acc_step (c := c) ha
    have h2 : 128 ^ (i + 1) ≤ 128 ^ 9 := pow_le (by omega)
    have e9 : (128 : Nat) ^ 9 = 9223372036854775808 := by decide
    rw [e9] at h2
    omega

theorem scan_ok {i acc : Nat} {l : List UInt8} (ha : acc < 128 ^ i) (hi : i ≤ 10) :
    ((scan i acc l).2.2 = 0 ∧ i < (scan i acc l).2.1 ∧ (scan i acc l).2.1 ≤ i + l.length ∧ (scan i acc l).2.1 ≤ 10 ∧ (scan i acc l).1 < 18446744073709551616) ∨
    (scan i acc l = (0, 0, 7) ∨ scan i acc l = (0, 0, 11)) := by
  induction l generalizing i acc with
  | nil => exact .inr (.inr rfl)
  | cons c t ih =>
    unfold scan
    by_cases h1 : i = 10 ∨ (i = 9 ∧ 1 < c.toNat)
    · rw [if_pos h1]; exact .inr (.inl rfl)
    · rw [if_neg h1]
      by_cases h2 : c.toNat = 0 ∧ 0 < i
      · rw [if_pos h2]; exact .inr (.inl rfl)
      · rw [if_neg h2]
        by_cases h3 : c.toNat < 128
        · rw [if_pos h3]
          refine .inl ⟨rfl, by simp, by simp; try omega, by simp; omega, acc_word ha (by omega) (by omega)⟩
        · rw [if_neg h3]
          rcases ih (acc_step ha) (by omega) with ⟨a, b, c', d, e⟩ | h
          · exact .inl ⟨a, by omega, by simp; omega, d, e⟩
          · exact .inr h

theorem scan_enc {f i acc m : Nat} (t : List UInt8) (h0 : i = 0 ∨ 0 < m) (hw : m * 128 ^ i < 18446744073709551616) (hm : m < 128 ^ f) (hf : 0 < f) :
    scan i acc (enc f m ++ t) = (acc + m * 128 ^ i, i + (enc f m).length, 0) := by
  induction f generalizing i acc m with
  | zero => omega
  | succ f ih =>
    have e9 : (128 : Nat) ^ 9 = 9223372036854775808 := by decide
    have e10 : (128 : Nat) ^ 10 = 1180591620717411303424 := by decide
    have n10 : i ≠ 10 := by
      rintro rfl
      rw [e10] at hw
      omega
    have n9 : i = 9 → m ≤ 1 := by
      rintro rfl
      rw [e9] at hw
      omega
    by_cases hs : m < 128
    · rw [enc_small hs]
      simp only [List.cons_append, List.nil_append]
      unfold scan
      rw [byte_nat (by omega), if_neg (by omega), if_neg (by omega), if_pos hs, Nat.mod_eq_of_lt hs]
      rfl
    · rw [enc_big hs]
      simp only [List.cons_append]
      rw [scan, byte_nat (by omega), if_neg (by omega), if_neg (by omega), if_neg (by omega)]
      have e1 : (m % 128 + 128) % 128 = m % 128 := by omega
      have hf' : 0 < f := by
        rcases Nat.eq_zero_or_pos f with h | h
        · subst h; simp at hm; omega
        · exact h
      have e2 : m % 128 * 128 ^ i + m / 128 * 128 ^ (i + 1) = m * 128 ^ i := by
        have hd := Nat.div_add_mod m 128
        calc m % 128 * 128 ^ i + m / 128 * 128 ^ (i + 1) = (128 * (m / 128) + m % 128) * 128 ^ i := by
              rw [pow_succ', Nat.add_mul, Nat.mul_comm 128 (m / 128), Nat.mul_comm (128 ^ i) 128, ← Nat.mul_assoc, Nat.add_comm]
          _ = m * 128 ^ i := by rw [hd]
      rw [e1, ih (.inr (by omega)) (by omega) (by rw [pow_succ'] at hm; exact Nat.div_lt_of_lt_mul (by rw [Nat.mul_comm]; exact hm)) hf', List.length_cons]
      congr 1
      · omega
      · congr 1; omega

theorem scan_put {n : Nat} (hn : n < 18446744073709551616) (t : List UInt8) : scan 0 0 (enc 10 n ++ t) = (n, (enc 10 n).length, 0) := by
  have h := scan_enc (f := 10) (i := 0) (acc := 0) (m := n) t (.inl rfl) (by simpa using hn) (Nat.lt_trans hn (by decide)) (by omega)
  simpa using h
/-- None of the bytes of a number begins another one's. -/
theorem enc_free {a b : Nat} (ha : a < 18446744073709551616) (hb : b < 18446744073709551616) (h : enc 10 a = (enc 10 b).take (enc 10 a).length) : a = b := by
  have h1 := scan_put hb []
  rw [List.append_nil] at h1
  have h2 : enc 10 b = enc 10 a ++ (enc 10 b).drop (enc 10 a).length := by
    conv => lhs; rw [← List.take_append_drop (enc 10 a).length (enc 10 b)]
    rw [← h]
  rw [h2, scan_put ha] at h1
  simp only [Prod.mk.injEq] at h1
  exact h1.1
theorem enc_pos {n : Nat} : 0 < (enc 10 n).length := by
  unfold enc; split <;> simp

/-! By the document. -/
def lead : Nat → List UInt8 → Nat
  | 0, _ => 0
  | _ + 1, [] => 0
  | f + 1, c :: t => if 128 ≤ c.toNat then lead f t + 1 else 0
def ovF : Nat → Nat → List UInt8 → Bool
  | 0, _, _ => false
  | _ + 1, _, [] => false
  | f + 1, i, c :: t => (decide (0 < i) && decide (c.toNat = 0)) || (decide (i = 9) && decide (1 < c.toNat)) || (decide (128 ≤ c.toNat) && ovF f (i + 1) t)
def hv : List UInt8 → Nat
  | [] => 0
  | c :: t => c.toNat % 128 + 128 * hv t
def take1 (l : List UInt8) : Nat × Nat × Nat :=
  if lead 10 l = 10 ∨ ovF 10 0 l = true then (0, 0, 7) else if l.length ≤ lead 10 l then (0, 0, 11) else (hv (l.take (lead 10 l + 1)), lead 10 l + 1, 0)

theorem lead_le (f : Nat) (l : List UInt8) : lead f l ≤ f ∧ lead f l ≤ l.length := by
  induction f generalizing l with
  | zero => simp [lead]
  | succ f ih =>
    cases l with
    | nil => simp [lead]
    | cons c t =>
      have := ih t
      unfold lead
      split
      · simp; omega
      · simp

theorem scan_doc (f i acc : Nat) (l : List UInt8) (hf : f + i = 10) (h0 : 0 < f) :
    scan i acc l = if lead f l = f ∨ ovF f i l = true then (0, 0, 7) else if l.length ≤ lead f l then (0, 0, 11) else (acc + 128 ^ i * hv (l.take (lead f l + 1)), i + lead f l + 1, 0) := by
  induction f generalizing i acc l with
  | zero => omega
  | succ f ih =>
    cases l with
    | nil => simp [scan, lead, ovF]
    | cons c t =>
      have hc : c.toNat < 256 := c.toNat_lt
      rw [scan]
      by_cases h9 : i = 9
      · obtain rfl : f = 0 := by omega
        subst h9
        by_cases hc1 : 1 < c.toNat
        · rw [if_pos (.inr ⟨rfl, hc1⟩), if_pos (.inr (by simp [ovF, hc1]))]
        · rw [if_neg (by omega)]
          by_cases hc0 : c.toNat = 0
          · rw [if_pos ⟨hc0, by omega⟩, if_pos (.inr (by simp [ovF, hc0]))]
          · have e1 : c.toNat = 1 := by omega
            rw [if_neg (by omega), if_pos (by omega), if_neg (by simp [ovF, lead, e1]), if_neg (by simp [lead, e1])]
            simp [lead, e1, hv]
      · rw [if_neg (by omega)]
        by_cases hc0 : c.toNat = 0 ∧ 0 < i
        · rw [if_pos hc0, if_pos (.inr (by simp [ovF, hc0]))]
        · rw [if_neg hc0]
          by_cases hs : c.toNat < 128
          · have hl : lead (f + 1) (c :: t) = 0 := by unfold lead; rw [if_neg (by omega)]
            have ho : ovF (f + 1) i (c :: t) = false := by
              unfold ovF
              simp [h9]
              exact ⟨fun h1 h2 => hc0 ⟨h2, h1⟩, by omega⟩
            rw [if_pos hs, hl, ho, if_neg (by simp), if_neg (by simp)]
            simp [hv, Nat.mul_comm]
          · have hl : lead (f + 1) (c :: t) = lead f t + 1 := by rw [lead, if_pos (by omega)]
            have ho : ovF (f + 1) i (c :: t) = ovF f (i + 1) t := by
              rw [ovF]
              have hc0' : c.toNat ≠ 0 := by omega
              simp [h9, hc0', show 128 ≤ c.toNat by omega]
            rw [if_neg hs, ih (i + 1) _ t (by omega) (by omega), hl, ho]
            have hA' : (lead f t + 1 = f + 1 ∨ ovF f (i + 1) t = true) ↔ (lead f t = f ∨ ovF f (i + 1) t = true) := by
              constructor
              · rintro (h | h)
                · exact .inl (by omega)
                · exact .inr h
              · rintro (h | h)
                · exact .inl (by omega)
                · exact .inr h
            have hB' : (t.length + 1 ≤ lead f t + 1) ↔ (t.length ≤ lead f t) := by omega
            simp only [List.length_cons, hA', hB']
            by_cases hA : lead f t = f ∨ ovF f (i + 1) t = true
            · rw [if_pos hA, if_pos hA]
            · rw [if_neg hA, if_neg hA]
              by_cases hB : t.length ≤ lead f t
              · rw [if_pos hB, if_pos hB]
              · rw [if_neg hB, if_neg hB]
                simp only [List.take_succ_cons, hv]
                congr 1
                · rw [Nat.mul_add, pow_succ', Nat.add_assoc, Nat.mul_comm (128 ^ i) (c.toNat % 128), Nat.mul_assoc]
                · congr 1; omega

theorem scan_take1 (l : List UInt8) : scan 0 0 l = take1 l := by
  rw [scan_doc 10 0 0 l rfl (by omega)]
  unfold take1
  simp

/-- Overlong, as a loop asks it: at the places 1 to j. -/
def badAt (l : List UInt8) (p : Nat) : Bool := match l[p]? with
  | some c => decide (c.toNat = 0) || (decide (p = 9) && decide (1 < c.toNat))
  | none => false
def ovU (l : List UInt8) : Nat → Bool
  | 0 => false
  | j + 1 => ovU l j || badAt l (j + 1)

theorem ovU_iff (l : List UInt8) (j : Nat) : ovU l j = true ↔ ∃ p, 1 ≤ p ∧ p ≤ j ∧ badAt l p = true := by
  induction j with
  | zero => simp [ovU]; omega
  | succ j ih =>
    rw [ovU, Bool.or_eq_true, ih]
    constructor
    · rintro (⟨p, a, b, c⟩ | h)
      · exact ⟨p, a, by omega, c⟩
      · exact ⟨j + 1, by omega, by omega, h⟩
    · rintro ⟨p, a, b, c⟩
      by_cases e : p = j + 1
      · subst e; exact .inr c
      · exact .inl ⟨p, a, by omega, c⟩

theorem ovF_iff (f i : Nat) (l : List UInt8) : ovF f i l = true ↔ ∃ p c, p < f ∧ p ≤ lead f l ∧ l[p]? = some c ∧ ((0 < i + p ∧ c.toNat = 0) ∨ (i + p = 9 ∧ 1 < c.toNat)) := by
  induction f generalizing i l with
  | zero => simp [ovF]
  | succ f ih =>
    cases l with
    | nil => simp [ovF]
    | cons c t =>
      rw [ovF]
      simp only [Bool.or_eq_true, Bool.and_eq_true, decide_eq_true_eq, ih]
      constructor
      · rintro ((⟨a, b⟩ | ⟨a, b⟩) | ⟨a, p, c', h1, h2, h3, h4⟩)
        · exact ⟨0, c, by omega, by omega, rfl, .inl ⟨by omega, b⟩⟩
        · exact ⟨0, c, by omega, by omega, rfl, .inr ⟨by omega, b⟩⟩
        · refine ⟨p + 1, c', by omega, by rw [lead, if_pos a]; omega, by simpa using h3, ?_⟩
          rcases h4 with ⟨x, y⟩ | ⟨x, y⟩
          · exact .inl ⟨by omega, y⟩
          · exact .inr ⟨by omega, y⟩
      · rintro ⟨p, c', h1, h2, h3, h4⟩
        cases p with
        | zero =>
          simp at h3; subst h3
          rcases h4 with ⟨x, y⟩ | ⟨x, y⟩
          · exact .inl (.inl ⟨by omega, y⟩)
          · exact .inl (.inr ⟨by omega, y⟩)
        | succ p =>
          rw [lead] at h2
          by_cases a : 128 ≤ c.toNat
          · rw [if_pos a] at h2
            refine .inr ⟨a, p, c', by omega, by omega, by simpa using h3, ?_⟩
            rcases h4 with ⟨x, y⟩ | ⟨x, y⟩
            · exact .inl ⟨by omega, y⟩
            · exact .inr ⟨by omega, y⟩
          · rw [if_neg a] at h2; omega

/-- The loop's answer is the document's. -/
theorem ovU_ovF (l : List UInt8) (j : Nat) (h1 : j ≤ 9) (h2 : j ≤ lead 10 l) (h3 : 9 ≤ j ∨ lead 10 l ≤ j ∨ l.length ≤ j + 1) : ovU l j = ovF 10 0 l := by
  rw [Bool.eq_iff_iff, ovU_iff, ovF_iff]
  constructor
  · rintro ⟨p, a, b, c⟩
    unfold badAt at c
    cases hp : l[p]? with
    | none => rw [hp] at c; simp at c
    | some x =>
      rw [hp] at c
      simp at c
      refine ⟨p, x, by omega, by omega, hp, ?_⟩
      rcases c with c | ⟨c, d⟩
      · exact .inl ⟨by omega, by simp [c]⟩
      · exact .inr ⟨by omega, d⟩
  · rintro ⟨p, x, a, b, c, d⟩
    have hl : p < l.length := (List.getElem?_eq_some_iff.1 c).1
    have hx := x.toNat_lt
    have hp : 1 ≤ p := by omega
    refine ⟨p, hp, ?_, ?_⟩
    · omega
    · unfold badAt
      rw [c]
      simp
      rcases d with ⟨_, d⟩ | ⟨d1, d⟩
      · left; exact d
      · right; exact ⟨by omega, d⟩

theorem lead_step {f : Nat} {l : List UInt8} {j : Nat} {c : UInt8} (hj : j < f) (hc : l[j]? = some c) (h : lead f l = j + lead (f - j) (l.drop j)) :
    (128 ≤ c.toNat → lead f l = (j + 1) + lead (f - (j + 1)) (l.drop (j + 1))) ∧ (¬ 128 ≤ c.toNat → lead f l = j) := by
  obtain ⟨hl, hc'⟩ := List.getElem?_eq_some_iff.1 hc
  have e : l.drop j = c :: l.drop (j + 1) := by rw [List.drop_eq_getElem_cons hl, hc']
  have e2 : f - j = (f - (j + 1)) + 1 := by omega
  rw [e, e2, lead] at h
  constructor
  · intro a; rw [if_pos a] at h; omega
  · intro a; rw [if_neg a] at h; omega
theorem lead_end {f : Nat} {l : List UInt8} {j : Nat} (hj : j = f ∨ l.length ≤ j) (h : lead f l = j + lead (f - j) (l.drop j)) : lead f l = j := by
  rcases hj with e | e
  · subst e; simp [lead] at h; exact h
  · rw [List.drop_eq_nil_of_le e] at h
    have := (lead_le (f - j) []).2
    simp at this
    omega

theorem hv_lt (l : List UInt8) : hv l < 128 ^ l.length := by
  induction l with
  | nil => simp [hv]
  | cons c t ih =>
    rw [hv, List.length_cons, pow_succ']
    have := Nat.mod_lt c.toNat (show 0 < 128 by omega)
    omega
theorem hv_step {l : List UInt8} {j : Nat} (hj : j < l.length) : hv (l.drop j) = l[j].toNat % 128 + 128 * hv (l.drop (j + 1)) := by
  rw [List.drop_eq_getElem_cons hj, hv]
/-- What comes of the parts is a word. -/
theorem hv_drop_le (l : List UInt8) (j : Nat) : hv (l.drop j) ≤ hv l := by
  induction j generalizing l with
  | zero => simp
  | succ j ih =>
    cases l with
    | nil => simp [hv]
    | cons c t => rw [List.drop_succ_cons, hv]; have := ih t; omega
theorem hv_word (l : List UInt8) (h1 : lead 10 l ≠ 10) (h2 : ovF 10 0 l ≠ true) (h3 : lead 10 l < l.length) : hv (l.take (lead 10 l + 1)) < 18446744073709551616 := by
  have h := scan_take1 l
  have hs := scan_ok (i := 0) (acc := 0) (l := l) (by simp) (by omega)
  unfold take1 at h
  rw [if_neg (by intro x; rcases x with x | x <;> contradiction), if_neg (by omega)] at h
  rw [h] at hs
  rcases hs with ⟨_, _, _, _, e⟩ | e | e
  · exact e
  · simp at e
  · simp at e
end Go.Proofs.Ytlmlijmfcpenpaa

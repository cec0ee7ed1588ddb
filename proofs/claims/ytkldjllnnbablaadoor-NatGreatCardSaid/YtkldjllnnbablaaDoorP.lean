/- Numbers as digits in a base, the lowest first: values, what is canonical, how two are told apart. No program. -/
import Derived.Test.YtkldjllnnbablaaDoorCommon
set_option linter.unusedVariables false
set_option linter.unusedSimpArgs false
namespace Go.Proofs.YtkldjllnnbablaaDoor

/-- The value of digits. -/
def vl (b : Nat) : List Nat → Nat
  | [] => 0
  | x :: l => x + b * vl b l
theorem vl_append (b : Nat) (l l' : List Nat) : vl b (l ++ l') = vl b l + b ^ l.length * vl b l' := by
  induction l with
  | nil => simp [vl]
  | cons x l ih => simp only [List.cons_append, vl, ih, List.length_cons, Nat.pow_succ, Nat.mul_add]; rw [← Nat.mul_assoc, Nat.mul_comm b (b ^ l.length)]; omega
theorem vl_snoc (b : Nat) (l : List Nat) (x : Nat) : vl b (l ++ [x]) = vl b l + b ^ l.length * x := by rw [vl_append]; simp [vl]
theorem vl_lt {b : Nat} {l : List Nat} (h : ∀ x ∈ l, x < b) : vl b l < b ^ l.length := by
  induction l with
  | nil => simp [vl]
  | cons x l ih =>
    have h1 := ih (fun y hy => h y (by simp [hy]))
    have h2 := h x (by simp)
    have h3 : b * (vl b l + 1) ≤ b * b ^ l.length := Nat.mul_le_mul_left b h1
    rw [Nat.mul_add] at h3
    simp only [vl, List.length_cons, Nat.pow_succ]
    rw [Nat.mul_comm (b ^ l.length) b]
    omega
theorem vl_zero (b n : Nat) : vl b (List.replicate n 0) = 0 := by
  induction n with
  | zero => rfl
  | succ n ih => simp [List.replicate_succ, vl, ih]
theorem vl_zeros (b : Nat) (l : List Nat) (n : Nat) : vl b (l ++ List.replicate n 0) = vl b l := by rw [vl_append, vl_zero]; simp
theorem vl_take_succ (b : Nat) (l : List Nat) {i : Nat} (h : i < l.length) : vl b (l.take (i + 1)) = vl b (l.take i) + b ^ i * l[i] := by
  rw [List.take_succ_eq_append_getElem h, vl_snoc, List.length_take, Nat.min_eq_left (by omega)]
theorem vl_drop (b : Nat) (l : List Nat) {i : Nat} (h : i < l.length) : vl b (l.drop i) = l[i] + b * vl b (l.drop (i + 1)) := by
  rw [List.drop_eq_getElem_cons h]; rfl

/-- Digits of n: each below b, no 0 at the end. -/
structure Can (b : Nat) (l : List Nat) (n : Nat) : Prop where
  lt : ∀ x ∈ l, x < b
  val : vl b l = n
  last : ∀ x, l.getLast? = some x → x ≠ 0

theorem Can.nil (b : Nat) : Can b [] 0 := ⟨by simp, rfl, by simp⟩
theorem Can.upper {b : Nat} {l : List Nat} {n : Nat} (h : Can b l n) : n < b ^ l.length := by rw [← h.val]; exact vl_lt h.lt
theorem Can.lower {b : Nat} {l : List Nat} {n : Nat} (h : Can b l n) (hl : l ≠ []) : b ^ (l.length - 1) ≤ n := by
  rcases List.eq_nil_or_concat l with rfl | ⟨p, x, rfl⟩
  · exact absurd rfl hl
  · rw [List.concat_eq_append] at *
    have hx := h.last x (by simp)
    rw [← h.val, vl_snoc, List.length_append]
    have h1 : b ^ p.length * 1 ≤ b ^ p.length * x := Nat.mul_le_mul_left _ (by omega)
    simp
    omega
theorem Can.pos {b : Nat} {l : List Nat} {n : Nat} (hb : 0 < b) (h : Can b l n) (hl : l ≠ []) : 0 < n :=
  Nat.lt_of_lt_of_le (Nat.pow_pos hb) (h.lower hl)
theorem Can.zero {b : Nat} {l : List Nat} (hb : 0 < b) (h : Can b l 0) : l = [] := by
  by_cases hl : l = []
  · exact hl
  · have := h.pos hb hl; omega
theorem Can.nil_val {b : Nat} {n : Nat} (h : Can b [] n) : n = 0 := h.val.symm
theorem Can.fits {b : Nat} {l : List Nat} {n : Nat} (hb : 1 < b) (h : Can b l n) (k : Nat) : l.length ≤ k ↔ n < b ^ k := by
  constructor
  · intro q
    exact Nat.lt_of_lt_of_le h.upper (Nat.pow_le_pow_right (by omega) q)
  · intro q
    rcases Nat.lt_or_ge k l.length with q2 | q2
    · have hl : l ≠ [] := by intro e; rw [e] at q2; simp at q2
      have h1 := h.lower hl
      have h2 : b ^ k ≤ b ^ (l.length - 1) := Nat.pow_le_pow_right (by omega) (by omega)
      omega
    · exact q2
theorem Can.tail {b x : Nat} {l : List Nat} {n : Nat} (h : Can b (x :: l) n) : Can b l (vl b l) :=
  ⟨fun y hy => h.lt y (by simp [hy]), rfl, fun y hy => h.last y (by
    cases l with
    | nil => simp at hy
    | cons z t => rw [List.getLast?_cons_cons]; exact hy)⟩
theorem Can.uniq {b : Nat} (hb : 1 < b) : ∀ {l l' : List Nat} {n : Nat}, Can b l n → Can b l' n → l = l' := by
  intro l
  induction l with
  | nil =>
    intro l' n h h'
    obtain rfl := h.nil_val
    exact (h'.zero (by omega)).symm
  | cons x l ih =>
    intro l' n h h'
    cases l' with
    | nil =>
      obtain rfl := h'.nil_val
      exact h.zero (by omega)
    | cons y t =>
      have e : x + b * vl b l = y + b * vl b t := h.val.trans h'.val.symm
      have hx := h.lt x (by simp)
      have hy := h'.lt y (by simp)
      have e1 : x = y := by
        have := congrArg (· % b) e
        simpa [Nat.add_mul_mod_self_left, Nat.mod_eq_of_lt hx, Nat.mod_eq_of_lt hy] using this
      subst e1
      have e2 : vl b l = vl b t := Nat.eq_of_mul_eq_mul_left (show 0 < b by omega) (by omega)
      have h2 := h'.tail
      rw [← e2] at h2
      rw [ih h.tail h2]

/-- What Norm leaves. -/
theorem Can.norm {b : Nat} {l : List Nat} (h : ∀ x ∈ l, x < b) {n : Nat} (hn : n ≤ l.length) (hv : vl b (l.take n) = vl b l) (hz : n = 0 ∨ ∃ h : n - 1 < l.length, l[n - 1] ≠ 0) : Can b (l.take n) (vl b l) := by
  refine ⟨fun x hx => h x (List.mem_of_mem_take hx), hv, fun x hx => ?_⟩
  rcases hz with rfl | ⟨h1, h2⟩
  · simp at hx
  · by_cases h0 : n = 0
    · subst h0; simp at hx
    · rw [List.getLast?_eq_getElem?, List.length_take, Nat.min_eq_left hn, List.getElem?_take, if_pos (by omega), List.getElem?_eq_getElem h1] at hx
      simp at hx
      rw [← hx]; exact h2
theorem norm_step {b : Nat} {l : List Nat} {n : Nat} (hn : n < l.length) (hv : vl b (l.take (n + 1)) = vl b l) (h0 : l[n] = 0) : vl b (l.take n) = vl b l := by
  rw [← hv, vl_take_succ b l hn, h0]; simp

/-- Which is greater: seen at the highest place where they part. -/
theorem vl_part {b : Nat} {p q t : List Nat} {x y : Nat} (hp : ∀ z ∈ p, z < b) (hl : p.length = q.length) (h : x < y) : vl b (p ++ x :: t) < vl b (q ++ y :: t) := by
  have h1 := vl_lt hp
  rw [vl_append, vl_append, ← hl]
  simp only [vl]
  have h2 : b ^ p.length * (x + 1 + b * vl b t) ≤ b ^ p.length * (y + b * vl b t) := Nat.mul_le_mul_left _ (by omega)
  rw [show x + 1 + b * vl b t = x + b * vl b t + 1 by omega, Nat.mul_add] at h2
  omega
theorem part_at {b : Nat} {l l' : List Nat} (h : ∀ z ∈ l, z < b) (hl : l.length = l'.length) {i : Nat} (hi : i < l.length) (hd : l.drop (i + 1) = l'.drop (i + 1)) (hx : l[i] < l'[i]'(by omega)) : vl b l < vl b l' := by
  have e1 : l = l.take i ++ l[i] :: l.drop (i + 1) := by rw [List.getElem_cons_drop, List.take_append_drop]
  have e2 : l' = l'.take i ++ l'[i]'(by omega) :: l'.drop (i + 1) := by rw [List.getElem_cons_drop, List.take_append_drop]
  have := vl_part (b := b) (p := l.take i) (q := l'.take i) (t := l.drop (i + 1)) (fun z hz => h z (List.mem_of_mem_take hz)) (by simp; omega) hx
  rw [e1, e2, ← hd]
  exact this
theorem Can.shorter {b : Nat} {l l' : List Nat} {n n' : Nat} (hb : 1 < b) (h : Can b l n) (h' : Can b l' n') (hl : l.length < l'.length) : n < n' := by
  have h1 := h.upper
  have h2 := h'.lower (by intro e; rw [e] at hl; simp at hl)
  have h3 : b ^ l.length ≤ b ^ (l'.length - 1) := Nat.pow_le_pow_right (by omega) (by omega)
  omega
end Go.Proofs.YtkldjllnnbablaaDoor

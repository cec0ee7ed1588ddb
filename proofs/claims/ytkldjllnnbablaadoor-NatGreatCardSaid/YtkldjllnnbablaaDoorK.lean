/- Decimal digits of a number: fixed chunks, trimmed; what is written. No program. -/
import Derived.Test.YtkldjllnnbablaaDoorJ
set_option linter.unusedVariables false
set_option linter.unusedSimpArgs false
namespace Go.Proofs.YtkldjllnnbablaaDoor
open Go.RowKit Go.Shelf

/-- The p lowest decimal digits, the lowest first. -/
def fd : Nat → Nat → List Nat
  | 0, _ => []
  | p + 1, x => fd p x ++ [x / 10 ^ p % 10]
theorem fd_length (p x : Nat) : (fd p x).length = p := by
  induction p with
  | zero => rfl
  | succ p ih => simp [fd, ih]
theorem fd_lt (p x : Nat) : ∀ d ∈ fd p x, d < 10 := by
  induction p with
  | zero => simp [fd]
  | succ p ih =>
    intro d hd
    simp only [fd, List.mem_append, List.mem_singleton] at hd
    rcases hd with h | h
    · exact ih d h
    · omega
theorem fd_val (p x : Nat) : vl 10 (fd p x) = x % 10 ^ p := by
  induction p with
  | zero => simp [fd, vl, Nat.mod_one]
  | succ p ih => rw [fd, vl_snoc, ih, fd_length, Nat.mod_pow_succ]

def C19 : Nat := 10000000000000000000
theorem C19_eq : C19 = 10 ^ 19 := by unfold C19; rfl
/-- The chunks' digits, all. -/
def chunks (P : List Nat) : List Nat := P.flatMap (fd 19)
theorem chunks_lt (P : List Nat) : ∀ d ∈ chunks P, d < 10 := by
  intro d hd
  obtain ⟨x, _, h⟩ := List.mem_flatMap.1 hd
  exact fd_lt 19 x d h
theorem chunks_val {P : List Nat} (h : ∀ x ∈ P, x < C19) : vl 10 (chunks P) = vl C19 P := by
  induction P with
  | nil => rfl
  | cons x P ih =>
    have hx := h x (by simp)
    have e : chunks (x :: P) = fd 19 x ++ chunks P := by simp [chunks]
    rw [e, vl_append, fd_val, fd_length, ih (fun y hy => h y (by simp [hy])), ← C19_eq, Nat.mod_eq_of_lt hx]
    rfl
theorem chunks_length (P : List Nat) : (chunks P).length = 19 * P.length := by
  induction P with
  | nil => rfl
  | cons x P ih =>
    have e : chunks (x :: P) = fd 19 x ++ chunks P := by simp [chunks]
    rw [e, List.length_append, fd_length, ih, List.length_cons]; omega

/-- Without noughts at the end. -/
def trimd (D : List Nat) : List Nat := (D.reverse.dropWhile (· == 0)).reverse
theorem trimd_snoc0 (D : List Nat) : trimd (D ++ [0]) = trimd D := by simp [trimd]
theorem trimd_snoc (D : List Nat) (x : Nat) (hx : x ≠ 0) : trimd (D ++ [x]) = D ++ [x] := by simp [trimd, List.dropWhile_cons, hx]
theorem trimd_can {D : List Nat} (h : ∀ d ∈ D, d < 10) : Can 10 (trimd D) (vl 10 D) := by
  induction hn : D.length generalizing D with
  | zero =>
    rw [List.length_eq_zero_iff] at hn
    subst hn
    exact Can.nil 10
  | succ n ih =>
    rcases List.eq_nil_or_concat D with rfl | ⟨D', x, rfl⟩
    · simp at hn
    · rw [List.concat_eq_append] at *
      have h' : ∀ d ∈ D', d < 10 := fun d hd => h d (by simp [hd])
      by_cases hx : x = 0
      · subst hx
        rw [trimd_snoc0, vl_snoc, Nat.mul_zero, Nat.add_zero]
        exact ih h' (by simpa using hn)
      · rw [trimd_snoc _ _ hx]
        exact ⟨h, rfl, fun y hy => by simp at hy; omega⟩

/-- What is written of digits. -/
def textOf (d : List Nat) : List UInt8 := if d = [] then [48] else d.reverse.map fun x => UInt8.ofNat (48 + x)
theorem u8_nought {x : Nat} (h : x < 10) : (UInt8.ofNat (48 + x) == 48) = (x == 0) := by
  have : ∀ x : Fin 10, (UInt8.ofNat (48 + x.val) == 48) = (x.val == 0) := by decide
  exact this ⟨x, h⟩
theorem drop_noughts (l : List Nat) (h : ∀ d ∈ l, d < 10) : ((l.map fun x => UInt8.ofNat (48 + x)).dropWhile (· == 48)) = (l.dropWhile (· == 0)).map fun x => UInt8.ofNat (48 + x) := by
  induction l with
  | nil => rfl
  | cons x l ih =>
    have hx := u8_nought (h x (by simp))
    rw [List.map_cons, List.dropWhile_cons, List.dropWhile_cons, hx]
    by_cases q : (x == 0) = true
    · rw [if_pos q, if_pos q]; exact ih (fun d hd => h d (by simp [hd]))
    · rw [if_neg q, if_neg q]; rfl
/-- The digits that were written, without the noughts ahead. -/
theorem text_trim {D : List Nat} (h : ∀ d ∈ D, d < 10) (h0 : vl 10 D ≠ 0) : (((D.reverse.map (48 + ·)).map UInt8.ofNat).dropWhile (· == 48)) = textOf (trimd D) := by
  have e : ((D.reverse.map (48 + ·)).map UInt8.ofNat) = D.reverse.map fun x => UInt8.ofNat (48 + x) := by rw [List.map_map]; rfl
  have hn : trimd D ≠ [] := by
    intro q
    have := (trimd_can h).val
    rw [q] at this
    exact h0 this.symm
  rw [e, drop_noughts _ (by simpa using h)]
  unfold textOf
  rw [if_neg hn]
  simp [trimd]

/-- The digits, as the text's cells are filled from the end. -/
theorem fill_step (p x : Nat) (hp : p < 19) : (List.replicate (19 - p) 0 ++ (fd p x).reverse.map (48 + ·)).set (18 - p) (48 + x / 10 ^ p % 10) = List.replicate (19 - (p + 1)) 0 ++ (fd (p + 1) x).reverse.map (48 + ·) := by
  rw [show 19 - p = (18 - p) + 1 by omega, show 19 - (p + 1) = 18 - p by omega, List.replicate_succ', List.append_assoc, List.set_append_right _ _ (by simp), fd, List.reverse_append]
  simp
end Go.Proofs.YtkldjllnnbablaaDoor

/- Open addressing in plain words: slots in a ring, each key as near behind its hash's place as can be. -/
import Derived.Test.YtlgmmfhfoihbeaaSl
set_option linter.unusedVariables false
set_option linter.unusedSimpArgs false
namespace Go.Proofs.Ytlgmmfhfoihbeaa
open Go.RowKit

abbrev Slots := Nat → Nat × Nat × Bool
def key (T : Slots) (i : Nat) : Nat := (T i).1
def occ (T : Slots) (i : Nat) : Bool := (T i).2.2

/-- How far b lies behind a, in a ring of n. -/
def dist (n a b : Nat) : Nat := (b + n - a) % n

theorem dist_lt {n a b : Nat} (hn : 0 < n) : dist n a b < n := Nat.mod_lt _ hn
theorem dist_eq {n a b : Nat} (ha : a < n) (hb : b < n) : dist n a b = if a ≤ b then b - a else b + n - a := by
  unfold dist
  split
  · have : b + n - a = (b - a) + n := by omega
    rw [this, Nat.add_mod_right, Nat.mod_eq_of_lt (by omega)]
  · rw [Nat.mod_eq_of_lt (by omega)]
theorem add_mod_eq {n a t : Nat} (ha : a < n) (ht : t ≤ n) : (a + t) % n = if a + t < n then a + t else a + t - n := by
  split
  · rw [Nat.mod_eq_of_lt (by assumption)]
  · rw [Nat.mod_eq_sub_mod (by omega), Nat.mod_eq_of_lt (by omega)]
theorem add_dist {n a b : Nat} (ha : a < n) (hb : b < n) : (a + dist n a b) % n = b := by
  have hd := dist_lt (n := n) (a := a) (b := b) (by omega)
  rw [add_mod_eq ha (by omega), dist_eq ha hb]
  split <;> split <;> omega
theorem dist_add {n a t : Nat} (ha : a < n) (ht : t < n) : dist n a ((a + t) % n) = t := by
  have hb : (a + t) % n < n := Nat.mod_lt _ (by omega)
  rw [dist_eq ha hb, add_mod_eq ha (by omega)]
  split <;> split <;> omega

/-- From a place on, as far as there are other keys. -/
def probe (T : Slots) (n k : Nat) : Nat → Nat → Nat
  | 0, i => i
  | f + 1, i => if occ T i = true ∧ key T i ≠ k then probe T n k f ((i + 1) % n) else i

def stops (T : Slots) (k i : Nat) : Prop := occ T i = false ∨ key T i = k

theorem probe_run (T : Slots) (n k i : Nat) (hi : i < n) : ∀ t f, t ≤ f → f ≤ n → (∀ s, s < t → occ T ((i + s) % n) = true ∧ key T ((i + s) % n) ≠ k) → probe T n k f i = probe T n k (f - t) ((i + t) % n) := by
  intro t
  induction t with
  | zero => intro f _ _ _; simp [Nat.mod_eq_of_lt hi]
  | succ t ih =>
    intro f hf hfn h
    rw [ih f (by omega) hfn (fun s hs => h s (by omega))]
    have h1 := h t (by omega)
    have e : f - t = (f - (t + 1)) + 1 := by omega
    rw [e]
    rw [probe, if_pos h1]
    have e2 : ((i + t) % n + 1) % n = (i + (t + 1)) % n := by rw [Nat.mod_add_mod]; rfl
    rw [e2]

theorem probe_stop (T : Slots) (n k f i : Nat) (h : stops T k i) : probe T n k f i = i := by
  cases f with
  | zero => rfl
  | succ f =>
    unfold probe
    rw [if_neg]
    rintro ⟨h1, h2⟩
    rcases h with h | h
    · rw [h] at h1; simp at h1
    · exact h2 h

/-- The keys stand where they can be found. -/
structure LP (n : Nat) (home : Nat → Nat) (T : Slots) : Prop where
  hlt : ∀ k, home k < n
  path : ∀ i, i < n → occ T i = true → ∀ t, t < dist n (home (key T i)) i → occ T ((home (key T i) + t) % n) = true
  uniq : ∀ i j, i < n → j < n → occ T i = true → occ T j = true → key T i = key T j → i = j

section
variable {n : Nat} {home : Nat → Nat} {T : Slots}

/-- A key that is in is found. -/
theorem LP.find_in (h : LP n home T) {i : Nat} (hi : i < n) (ho : occ T i = true) : probe T n (key T i) n (home (key T i)) = i := by
  have hh := h.hlt (key T i)
  have hd := dist_lt (n := n) (a := home (key T i)) (b := i) (by omega)
  rw [probe_run T n (key T i) _ hh (dist n (home (key T i)) i) n (by omega) (Nat.le_refl _), add_dist hh hi]
  · exact probe_stop T n _ _ _ (.inr rfl)
  · intro s hs
    have h1 := h.path i hi ho s hs
    refine ⟨h1, fun e => ?_⟩
    have h2 := h.uniq _ _ (Nat.mod_lt _ (by omega)) hi h1 ho e
    have h3 := dist_add (n := n) hh (t := s) (by omega)
    rw [h2] at h3
    omega

/-- A key that isn't in is found to have an empty slot, to which its way is taken. -/
theorem LP.find_out (h : LP n home T) {k : Nat} (hk : ∀ i, i < n → occ T i = true → key T i ≠ k) (he : ∃ e, e < n ∧ occ T e = false) :
    ∃ t, t < n ∧ probe T n k n (home k) = (home k + t) % n ∧ occ T ((home k + t) % n) = false ∧ ∀ s, s < t → occ T ((home k + s) % n) = true := by
  obtain ⟨e, hen, hee⟩ := he
  have hh := h.hlt k
  have hd := dist_lt (n := n) (a := home k) (b := e) (by omega)
  -- the first empty one
  have hex : ∃ t, t < n ∧ occ T ((home k + t) % n) = false ∧ ∀ s, s < t → occ T ((home k + s) % n) = true := by
    have : ∀ m, m ≤ dist n (home k) e → (∀ s, s < m → occ T ((home k + s) % n) = true) ∨ ∃ t, t < m ∧ occ T ((home k + t) % n) = false ∧ ∀ s, s < t → occ T ((home k + s) % n) = true := by
      intro m
      induction m with
      | zero => intro _; exact .inl (fun s hs => by omega)
      | succ m ih =>
        intro hm
        rcases ih (by omega) with h1 | ⟨t, ht, h2⟩
        · cases ho : occ T ((home k + m) % n) with
          | true =>
            refine .inl (fun s hs => ?_)
            by_cases hsm : s = m
            · subst hsm; exact ho
            · exact h1 s (by omega)
          | false => exact .inr ⟨m, by omega, ho, h1⟩
        · exact .inr ⟨t, by omega, h2⟩
    rcases this _ (Nat.le_refl _) with h1 | ⟨t, ht, h2⟩
    · exact ⟨dist n (home k) e, hd, by rw [add_dist hh hen]; exact hee, h1⟩
    · exact ⟨t, by omega, h2⟩
  obtain ⟨t, ht, h1, h2⟩ := hex
  refine ⟨t, ht, ?_, h1, h2⟩
  rw [probe_run T n k _ hh t n (by omega) (Nat.le_refl _) (fun s hs => ⟨h2 s hs, hk _ (Nat.mod_lt _ (by omega)) (h2 s hs)⟩)]
  exact probe_stop T n _ _ _ (.inl h1)

def put1 (T : Slots) (i : Nat) (x : Nat × Nat × Bool) : Slots := fun j => if j = i then x else T j

/-- A new key at the end of its way. -/
theorem LP.insert (h : LP n home T) {k id : Nat} (hk : ∀ i, i < n → occ T i = true → key T i ≠ k) {t : Nat} (ht : t < n) (he : occ T ((home k + t) % n) = false) (hw : ∀ s, s < t → occ T ((home k + s) % n) = true) :
    LP n home (put1 T ((home k + t) % n) (k, id, true)) := by
  have hh := h.hlt k
  have hp : (home k + t) % n < n := Nat.mod_lt _ (by omega)
  have hocc : ∀ j, occ T j = true → occ (put1 T ((home k + t) % n) (k, id, true)) j = true := by
    intro j hj
    unfold put1 occ; dsimp only
    by_cases e : j = (home k + t) % n
    · simp [e]
    · rw [if_neg e]; exact hj
  have hkey : ∀ j, j ≠ (home k + t) % n → put1 T ((home k + t) % n) (k, id, true) j = T j := fun j hj => by unfold put1; rw [if_neg hj]
  have hself : put1 T ((home k + t) % n) (k, id, true) ((home k + t) % n) = (k, id, true) := by unfold put1; rw [if_pos rfl]
  refine ⟨h.hlt, fun i hi ho s hs => ?_, fun i j hi hj hoi hoj hij => ?_⟩
  · by_cases e : i = (home k + t) % n
    · subst e
      unfold key at hs ⊢
      rw [hself] at hs ⊢
      simp only at hs ⊢
      rw [dist_add hh ht] at hs
      exact hocc _ (hw s hs)
    · unfold key occ at *
      rw [hkey i e] at ho hs ⊢
      exact hocc _ (h.path i hi ho s hs)
  · unfold key occ at *
    by_cases e : i = (home k + t) % n
    · by_cases e2 : j = (home k + t) % n
      · rw [e, e2]
      · subst e
        rw [hself] at hij
        rw [hkey j e2] at hij hoj
        exact (hk j hj hoj hij.symm).elim
    · by_cases e2 : j = (home k + t) % n
      · subst e2
        rw [hself] at hij
        rw [hkey i e] at hij hoi
        exact (hk i hi hoi hij).elim
      · rw [hkey i e] at hij hoi
        rw [hkey j e2] at hij hoj
        exact h.uniq i j hi hj hoi hoj hij

/-- Another number for a key that is in. -/
theorem LP.renum (h : LP n home T) {i : Nat} (hi : i < n) (ho : occ T i = true) (id : Nat) : LP n home (put1 T i (key T i, id, true)) := by
  have hocc : ∀ j, occ (put1 T i (key T i, id, true)) j = occ T j := by
    intro j
    unfold put1 occ; dsimp only
    by_cases e : j = i
    · subst e; rw [if_pos rfl]; exact ho.symm
    · rw [if_neg e]
  have hkey : ∀ j, key (put1 T i (key T i, id, true)) j = key T j := by
    intro j
    unfold put1 key; dsimp only
    by_cases e : j = i
    · subst e; rw [if_pos rfl]
    · rw [if_neg e]
  refine ⟨h.hlt, fun j hj hoj s hs => ?_, fun a b ha hb hoa hob hab => ?_⟩
  · rw [hkey] at hs ⊢
    rw [hocc] at hoj ⊢
    exact h.path j hj hoj s hs
  · rw [hkey, hkey] at hab
    rw [hocc] at hoa hob
    exact h.uniq a b ha hb hoa hob hab
end
end Go.Proofs.Ytlgmmfhfoihbeaa

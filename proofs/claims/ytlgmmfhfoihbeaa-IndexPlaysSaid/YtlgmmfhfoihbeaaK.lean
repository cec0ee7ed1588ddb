/- How many keys there are, and the table as a relation of keys and numbers. -/
import Derived.Test.YtlgmmfhfoihbeaaB
set_option linter.unusedVariables false
set_option linter.unusedSimpArgs false
namespace Go.Proofs.Ytlgmmfhfoihbeaa
open Go.RowKit


def cnt (T : Slots) : Nat → Nat
  | 0 => 0
  | n + 1 => cnt T n + if occ T n = true then 1 else 0

theorem cnt_le (T : Slots) : ∀ n, cnt T n ≤ n := by
  intro n
  induction n with
  | zero => exact Nat.le_refl _
  | succ n ih => unfold cnt; split <;> omega
theorem cnt_put1 (T : Slots) (i : Nat) (x : Nat × Nat × Bool) : ∀ n, cnt (put1 T i x) n + (if i < n ∧ occ T i = true then 1 else 0) = cnt T n + (if i < n ∧ x.2.2 = true then 1 else 0) := by
  intro n
  induction n with
  | zero => simp [cnt]
  | succ n ih =>
    unfold cnt
    by_cases e : n = i
    · subst e
      have h1 : occ (put1 T n x) n = x.2.2 := by unfold occ put1; rw [if_pos rfl]
      rw [h1]
      simp only [Nat.lt_irrefl, false_and, if_false, Nat.add_zero] at ih
      rw [ih]
      simp only [Nat.lt_succ_self, true_and]
      omega
    · have h1 : occ (put1 T i x) n = occ T n := by unfold occ put1; rw [if_neg e]
      have h2 : (i < n + 1) ↔ (i < n) := by omega
      rw [h1]
      simp only [h2]
      omega
theorem cnt_empty {T : Slots} : ∀ {n}, cnt T n < n → ∃ e, e < n ∧ occ T e = false := by
  intro n
  induction n with
  | zero => intro h; omega
  | succ n ih =>
    intro h
    unfold cnt at h
    cases ho : occ T n with
    | false => exact ⟨n, by omega, ho⟩
    | true =>
      rw [ho] at h
      simp at h
      obtain ⟨e, he, h1⟩ := ih h
      exact ⟨e, by omega, h1⟩

/-- A table that bears the relation R, of c keys. -/
structure IW (n : Nat) (home : Nat → Nat) (T : Slots) (R : Nat → Nat → Prop) (c : Nat) : Prop where
  lp : LP n home T
  c : cnt T n = c
  r : ∀ k id, R k id ↔ ∃ i, i < n ∧ T i = (k, id, true)
  kb : ∀ i, i < n → occ T i = true → key T i ≤ 4294967295 ∧ (T i).2.1 ≤ 4294967295

section
variable {n c : Nat} {home : Nat → Nat} {T : Slots} {R : Nat → Nat → Prop}

theorem IW.fun_ (h : IW n home T R c) {k a b : Nat} (ha : R k a) (hb : R k b) : a = b := by
  obtain ⟨i, hi, hTi⟩ := (h.r k a).1 ha
  obtain ⟨j, hj, hTj⟩ := (h.r k b).1 hb
  have := h.lp.uniq i j hi hj (by unfold occ; rw [hTi]) (by unfold occ; rw [hTj]) (by unfold key; rw [hTi, hTj])
  subst this
  rw [hTi] at hTj
  simp at hTj
  exact hTj

theorem IW.find_in (h : IW n home T R c) {k id : Nat} (hk : R k id) : probe T n k n (home k) < n ∧ T (probe T n k n (home k)) = (k, id, true) := by
  obtain ⟨i, hi, hT⟩ := (h.r k id).1 hk
  have h1 := h.lp.find_in hi (by unfold occ; rw [hT])
  have h2 : key T i = k := by unfold key; rw [hT]
  rw [h2] at h1
  rw [h1]
  exact ⟨hi, hT⟩

theorem IW.find_out (h : IW n home T R c) (hn : c < n) {k : Nat} (hk : ∀ id, ¬ R k id) :
    probe T n k n (home k) < n ∧ occ T (probe T n k n (home k)) = false ∧ ∀ id, k ≤ 4294967295 → id ≤ 4294967295 → ∀ R' : Nat → Nat → Prop, (∀ k' id', R' k' id' ↔ (k' = k ∧ id' = id) ∨ (k' ≠ k ∧ R k' id')) → IW n home (put1 T (probe T n k n (home k)) (k, id, true)) R' (c + 1) := by
  have hne : ∀ i, i < n → occ T i = true → key T i ≠ k := fun i hi ho e => hk (T i).2.1 ((h.r _ _).2 ⟨i, hi, by
    have h1 : T i = ((T i).1, (T i).2.1, (T i).2.2) := rfl
    unfold occ at ho; unfold key at e
    rw [h1, ho, e]⟩)
  obtain ⟨t, ht, hp, he, hw⟩ := h.lp.find_out hne (cnt_empty (by rw [h.c]; exact hn))
  have hpn : (home k + t) % n < n := Nat.mod_lt _ (by omega)
  rw [hp]
  refine ⟨hpn, he, fun id hkb hid R' hR' => ⟨h.lp.insert hne ht he hw, ?_, fun k' id' => ?_, fun i hi ho => ?_⟩⟩
  · have h1 := cnt_put1 T ((home k + t) % n) (k, id, true) n
    rw [he] at h1
    simp [hpn] at h1
    rw [h1, h.c]
  · rw [hR', h.r]
    constructor
    · rintro (⟨rfl, rfl⟩ | ⟨hkk, i, hi, hT⟩)
      · exact ⟨_, hpn, by unfold put1; rw [if_pos rfl]⟩
      · refine ⟨i, hi, ?_⟩
        unfold put1
        rw [if_neg]
        · exact hT
        · intro e; subst e; unfold occ at he; rw [hT] at he; simp at he
    · rintro ⟨i, hi, hT⟩
      unfold put1 at hT
      by_cases e : i = (home k + t) % n
      · rw [if_pos e] at hT
        simp at hT
        exact .inl ⟨hT.1.symm, hT.2.symm⟩
      · rw [if_neg e] at hT
        refine .inr ⟨fun e2 => hne i hi (by unfold occ; rw [hT]) (by unfold key; rw [hT]; exact e2), i, hi, hT⟩
  · unfold key occ at *
    by_cases e : i = (home k + t) % n
    · rw [show put1 T ((home k + t) % n) (k, id, true) i = (k, id, true) from if_pos e]; exact ⟨hkb, hid⟩
    · rw [show put1 T ((home k + t) % n) (k, id, true) i = T i from if_neg e] at ho ⊢; exact h.kb i hi ho

theorem IW.renum (h : IW n home T R c) {k old id : Nat} (hk : R k old) (hid : id ≤ 4294967295) {R' : Nat → Nat → Prop} (hR' : ∀ k' id', R' k' id' ↔ (k' = k ∧ id' = id) ∨ (k' ≠ k ∧ R k' id')) : IW n home (put1 T (probe T n k n (home k)) (k, id, true)) R' c := by
  obtain ⟨hp, hT⟩ := h.find_in hk
  generalize probe T n k n (home k) = p at *
  have ho : occ T p = true := by unfold occ; rw [hT]
  have hkey : key T p = k := by unfold key; rw [hT]
  have h0 := h.lp.renum hp ho id
  rw [hkey] at h0
  refine ⟨h0, ?_, fun k' id' => ?_, fun i hi ho => ?_⟩
  · have h1 := cnt_put1 T p (k, id, true) n
    rw [ho] at h1
    simp [hp] at h1
    rw [h1, h.c]
  · rw [hR', h.r]
    constructor
    · rintro (⟨rfl, rfl⟩ | ⟨hkk, i, hi, hTi⟩)
      · exact ⟨_, hp, by unfold put1; rw [if_pos rfl]⟩
      · refine ⟨i, hi, ?_⟩
        unfold put1
        rw [if_neg]
        · exact hTi
        · intro e; subst e; rw [hTi] at hT; simp at hT; exact hkk hT.1
    · rintro ⟨i, hi, hTi⟩
      unfold put1 at hTi
      by_cases e : i = p
      · rw [if_pos e] at hTi
        simp at hTi
        exact .inl ⟨hTi.1.symm, hTi.2.symm⟩
      · rw [if_neg e] at hTi
        refine .inr ⟨fun e2 => e (h.lp.uniq i p hi hp (by unfold occ; rw [hTi]) ho (by unfold key; rw [hTi, hT]; exact e2)), i, hi, hTi⟩
  · by_cases e : i = p
    · have h3 := h.kb p hp (by unfold occ; rw [hT])
      rw [hkey] at h3
      unfold key
      rw [show put1 T p (k, id, true) i = (k, id, true) from if_pos e]
      exact ⟨h3.1, hid⟩
    · unfold key occ at *
      rw [show put1 T p (k, id, true) i = T i from if_neg e] at ho ⊢; exact h.kb i hi ho

theorem IW.empty (hh : ∀ k, home k < n) : IW n home (fun _ => (0, 0, false)) (fun _ _ => False) 0 := by
  have h0 : ∀ n, cnt (fun _ => (0, 0, false)) n = 0 := by
    intro n; induction n with
    | zero => rfl
    | succ n ih => unfold cnt; rw [ih]; simp [occ]
  refine ⟨⟨hh, fun i _ ho => by simp [occ] at ho, fun i j _ _ ho => by simp [occ] at ho⟩, h0 n, fun k id => by simp, fun i _ ho => by simp [occ] at ho⟩

theorem IW.congr (h : IW n home T R c) {R' : Nat → Nat → Prop} (e : ∀ k id, R' k id ↔ R k id) : IW n home T R' c :=
  ⟨h.lp, h.c, fun k id => (e k id).trans (h.r k id), h.kb⟩

theorem IW.stops (h : IW n home T R c) (hn : c < n) (k : Nat) : stops T k (probe T n k n (home k)) := by
  by_cases hk : ∃ id, R k id
  · obtain ⟨id, hid⟩ := hk
    have := (h.find_in hid).2
    exact .inr (by unfold key; rw [this])
  · exact .inl (h.find_out hn (fun id hid => hk ⟨id, hid⟩)).2.1

/-- The drop, ended. -/
theorem IW.dropped (h : IW n home T R c) {T' : Slots} {k0 hole i e : Nat} (hd : DInv n home T T' k0 hole i e) (hc : cnt T' n = c) (ho : occ T' i = false) (hc1 : 1 ≤ c) {R' : Nat → Nat → Prop} (hR' : ∀ k id, R' k id ↔ k ≠ k0 ∧ R k id) :
    IW n home (put1 T' hole (0, 0, false)) R' (c - 1) := by
  obtain ⟨h1, h2⟩ := hd.stop ho (0, 0)
  refine ⟨h1, ?_, fun k id => by rw [hR', h2, h.r], fun j hj hoj => ?_⟩
  · have h3 := cnt_put1 T' hole (0, 0, false) n
    rw [hd.oh] at h3
    have := hd.hh
    simp [this] at h3
    omega
  · obtain ⟨j', hj', hT'⟩ := ((h2 (put1 T' hole (0, 0, false) j).1 (put1 T' hole (0, 0, false) j).2.1).1 ⟨j, hj, by unfold occ at hoj; rw [← hoj]⟩).2
    have h4 := h.kb j' hj' (by unfold occ; rw [hT'])
    unfold key at h4 ⊢
    rw [hT'] at h4
    exact h4
end
end Go.Proofs.Ytlgmmfhfoihbeaa

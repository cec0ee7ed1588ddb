/- A key is dropped from the ring, and those behind it come nearer. -/
import Derived.Test.YtlgmmfhfoihbeaaA
set_option linter.unusedVariables false
set_option linter.unusedSimpArgs false
namespace Go.Proofs.Ytlgmmfhfoihbeaa
open Go.RowKit

/-- While the hole wanders: T bears what stood at the hole still, but it counts no more; i is looked at next. -/
structure DInv (n : Nat) (home : Nat → Nat) (T0 T : Slots) (k0 hole i e : Nat) : Prop where
  hlt : ∀ k, home k < n
  n2 : 2 ≤ n
  hh : hole < n
  hi : i < n
  he : e < n
  ne : hole ≠ i
  oh : occ T hole = true
  oe : occ T e = false
  btw : ∀ t, t < dist n hole i → occ T ((hole + t) % n) = true
  path : ∀ j, j < n → j ≠ hole → occ T j = true → ∀ t, t < dist n (home (key T j)) j → occ T ((home (key T j) + t) % n) = true ∧ ((home (key T j) + t) % n = hole → dist n hole i ≤ dist n hole j)
  uniq : ∀ a b, a < n → b < n → a ≠ hole → b ≠ hole → occ T a = true → occ T b = true → key T a = key T b → a = b
  same : ∀ k id, (∃ j, j < n ∧ j ≠ hole ∧ T j = (k, id, true)) ↔ k ≠ k0 ∧ ∃ j, j < n ∧ T0 j = (k, id, true)

section
variable {n : Nat} {home : Nat → Nat} {T0 T : Slots} {k0 hole i e : Nat}

theorem dist_self {a : Nat} (ha : a < n) : dist n a a = 0 := by rw [dist_eq ha ha, if_pos (Nat.le_refl _)]; omega
theorem dist_pos {a b : Nat} (ha : a < n) (hb : b < n) (h : a ≠ b) : 0 < dist n a b := by rw [dist_eq ha hb]; split <;> omega
theorem dist_next {a b : Nat} (hn : 2 ≤ n) (ha : a < n) (hb : b < n) (h : a ≠ b) : dist n ((a + 1) % n) b + 1 = dist n a b := by
  have h1 : (a + 1) % n < n := Nat.mod_lt _ (by omega)
  rw [dist_eq h1 hb, dist_eq ha hb, add_mod_eq ha (by omega)]
  split <;> split <;> split <;> omega
theorem next_cases {b : Nat} (hb : b < n) : ((b + 1) % n = b + 1 ∧ b + 1 < n) ∨ ((b + 1) % n = 0 ∧ b + 1 = n) := by
  by_cases h : b + 1 < n
  · exact .inl ⟨Nat.mod_eq_of_lt h, h⟩
  · have : b + 1 = n := by omega
    exact .inr ⟨by rw [this, Nat.mod_self], this⟩
theorem dist_succ {a b : Nat} (hn : 2 ≤ n) (ha : a < n) (hb : b < n) (h : (b + 1) % n ≠ a) : dist n a ((b + 1) % n) = dist n a b + 1 := by
  have h1 : (b + 1) % n < n := Nat.mod_lt _ (by omega)
  rw [dist_eq ha h1, dist_eq ha hb]
  rcases next_cases hb with ⟨e, he⟩ | ⟨e, he⟩
  · rw [e] at h ⊢; split <;> split <;> omega
  · rw [e] at h ⊢; split <;> split <;> omega
theorem dist_one {a : Nat} (hn : 2 ≤ n) (ha : a < n) : dist n a ((a + 1) % n) = 1 := dist_add ha (by omega)
/-- On the way from a to c, t steps on, stands b: the way is t and then that from b. -/
theorem dist_split {a b c t : Nat} (ha : a < n) (hc : c < n) (hb : (a + t) % n = b) (ht : t ≤ dist n a c) : dist n a c = t + dist n b c := by
  have hn : 0 < n := by omega
  have hd := dist_lt (n := n) (a := a) (b := c) hn
  subst hb
  have h1 : (a + t) % n < n := Nat.mod_lt _ hn
  rw [dist_eq h1 hc]
  rw [dist_eq ha hc] at ht hd ⊢
  rw [add_mod_eq ha (by omega)]
  split at ht <;> split <;> split <;> (try split) <;> omega

theorem DInv.start (hp : LP n home T0) (n2 : 2 ≤ n) {h0 : Nat} (hh : h0 < n) (ho : occ T0 h0 = true) (he : e < n) (hoe : occ T0 e = false) : DInv n home T0 T0 (key T0 h0) h0 ((h0 + 1) % n) e := by
  have hi : (h0 + 1) % n < n := Nat.mod_lt _ (by omega)
  have hd := dist_one n2 hh
  have hne : h0 ≠ (h0 + 1) % n := by
    intro x; rw [← x, dist_self hh] at hd; omega
  refine ⟨hp.hlt, n2, hh, hi, he, hne, ho, hoe, fun t ht => ?_, fun j hj hjh hoj t ht => ⟨hp.path j hj hoj t ht, fun _ => ?_⟩, fun a b ha hb _ _ hoa hob hab => hp.uniq a b ha hb hoa hob hab, fun k id => ?_⟩
  · rw [hd] at ht
    have : t = 0 := by omega
    subst this
    rw [Nat.add_zero, Nat.mod_eq_of_lt hh]; exact ho
  · rw [hd]; exact dist_pos hh hj (fun x => hjh x.symm)
  · constructor
    · rintro ⟨j, hj, hjh, hT⟩
      refine ⟨fun hk => ?_, j, hj, hT⟩
      have h1 : key T0 j = k := by unfold key; rw [hT]
      exact hjh (hp.uniq j h0 hj hh (by unfold occ; rw [hT]) ho (by rw [h1, hk]))
    · rintro ⟨hk, j, hj, hT⟩
      refine ⟨j, hj, fun x => hk ?_, hT⟩
      subst x; unfold key; rw [hT]

theorem DInv.move (h : DInv n home T0 T k0 hole i e) (ho : occ T i = true) (hd : dist n hole i ≤ dist n (home (key T i)) i) : DInv n home T0 (put1 T hole (T i)) k0 i ((i + 1) % n) e := by
  have hn := h.n2
  have hi' : (i + 1) % n < n := Nat.mod_lt _ (by omega)
  have hd1 := dist_one hn h.hi
  have hne : i ≠ (i + 1) % n := by
    intro x; rw [← x, dist_self h.hi] at hd1; omega
  have hoth : ∀ j, j ≠ hole → put1 T hole (T i) j = T j := fun j hj => by unfold put1; rw [if_neg hj]
  have hself : put1 T hole (T i) hole = T i := by unfold put1; rw [if_pos rfl]
  have hocc : ∀ j, occ T j = true → occ (put1 T hole (T i)) j = true := by
    intro j hj
    by_cases x : j = hole
    · subst x; unfold occ; rw [hself]; exact ho
    · unfold occ; rw [hoth j x]; exact hj
  have heh : e ≠ hole := fun x => by have h1 := h.oe; rw [x, h.oh] at h1; simp at h1
  refine ⟨h.hlt, hn, h.hi, hi', h.he, hne, hocc i ho, by unfold occ; rw [hoth e heh]; exact h.oe, fun t ht => ?_, fun j hj hji hoj t ht => ?_, fun a b ha hb hai hbi hoa hob hab => ?_, fun k id => ?_⟩
  · rw [hd1] at ht
    have : t = 0 := by omega
    subst this
    rw [Nat.add_zero, Nat.mod_eq_of_lt h.hi]; exact hocc i ho
  · by_cases x : j = hole
    · subst x
      unfold key at ht ⊢
      rw [hself] at ht ⊢
      have hh := h.hlt (T i).1
      -- the hole lies on the way of what stood at i
      have hsp : dist n (home (T i).1) i = dist n (home (T i).1) j + dist n j i := by
        have hd' : dist n j i ≤ dist n (home (T i).1) i := hd
        have l1 := dist_lt (n := n) (a := home (T i).1) (b := i) (by omega)
        rw [dist_eq hh h.hi] at hd' l1 ⊢
        rw [dist_eq h.hh h.hi] at hd' ⊢
        rw [dist_eq hh h.hh]
        split at hd' <;> split at hd' <;> split <;> (try split) <;> (try split) <;> omega
      have hji' := dist_pos h.hh h.hi hji
      have h1 := h.path i h.hi (fun x => hji x.symm) ho t (by unfold key; omega)
      refine ⟨hocc _ h1.1, fun hp => ?_⟩
      have h2 := dist_add (n := n) hh (t := t) (by have := dist_lt (n := n) (a := home (T i).1) (b := j) (by omega); omega)
      rw [hp] at h2
      omega
    · unfold key at ht ⊢
      unfold occ at hoj
      rw [hoth j x] at ht hoj ⊢
      refine ⟨hocc _ (h.path j hj x hoj t ht).1, fun _ => ?_⟩
      rw [hd1]; exact dist_pos h.hi hj (fun y => hji y.symm)
  · unfold key occ at *
    by_cases x : a = hole
    · by_cases y : b = hole
      · rw [x, y]
      · subst x
        rw [hself] at hab hoa
        rw [hoth b y] at hab hob
        exact (hbi (h.uniq i b h.hi hb hai.symm y hoa hob hab).symm).elim
    · by_cases y : b = hole
      · subst y
        rw [hself] at hab hob
        rw [hoth a x] at hab hoa
        exact (hai (h.uniq a i ha h.hi x hbi.symm hoa hob hab)).elim
      · rw [hoth a x] at hab hoa
        rw [hoth b y] at hab hob
        exact h.uniq a b ha hb x y hoa hob hab
  · rw [← h.same k id]
    constructor
    · rintro ⟨j, hj, hji, hT⟩
      by_cases x : j = hole
      · subst x
        rw [hself] at hT
        exact ⟨i, h.hi, h.ne.symm, hT⟩
      · rw [hoth j x] at hT
        exact ⟨j, hj, x, hT⟩
    · rintro ⟨j, hj, hjh, hT⟩
      by_cases x : j = i
      · subst x
        exact ⟨hole, h.hh, h.ne, by rw [hself]; exact hT⟩
      · exact ⟨j, hj, x, by rw [hoth j hjh]; exact hT⟩

theorem DInv.stay (h : DInv n home T0 T k0 hole i e) (ho : occ T i = true) (hd : dist n (home (key T i)) i < dist n hole i) : DInv n home T0 T k0 hole ((i + 1) % n) e := by
  have hn := h.n2
  have hi' : (i + 1) % n < n := Nat.mod_lt _ (by omega)
  have hbtw : ∀ t, t < dist n hole i + 1 → occ T ((hole + t) % n) = true := by
    intro t ht
    by_cases x : t = dist n hole i
    · subst x; rw [add_dist h.hh h.hi]; exact ho
    · exact h.btw t (by omega)
  have hne : (i + 1) % n ≠ hole := by
    intro x
    -- then all are taken
    have hall : dist n hole i + 1 = n := by
      have h1 := h.hi
      have h2 := h.hh
      rw [dist_eq h2 h1]
      rw [add_mod_eq h1 (by omega)] at x
      split at x <;> split <;> omega
    have h3 := hbtw (dist n hole e) (by have := dist_lt (n := n) (a := hole) (b := e) (by omega); omega)
    rw [add_dist h.hh h.he, h.oe] at h3
    simp at h3
  have hds := dist_succ hn h.hh h.hi hne
  refine ⟨h.hlt, hn, h.hh, hi', h.he, hne.symm, h.oh, h.oe, fun t ht => hbtw t (by omega), fun j hj hjh hoj t ht => ⟨(h.path j hj hjh hoj t ht).1, fun hp => ?_⟩, h.uniq, h.same⟩
  have h1 := (h.path j hj hjh hoj t ht).2 hp
  rw [hds]
  by_cases x : j = i
  · subst x
    have h2 := dist_split (n := n) (h.hlt (key T j)) hj hp (by omega)
    omega
  · have h2 : dist n hole j ≠ dist n hole i := by
      intro y
      have h3 := add_dist (n := n) h.hh hj
      rw [y, add_dist h.hh h.hi] at h3
      exact x h3.symm
    omega

theorem DInv.stop (h : DInv n home T0 T k0 hole i e) (ho : occ T i = false) (x0 : Nat × Nat) : LP n home (put1 T hole (x0.1, x0.2, false)) ∧
    ∀ k id, (∃ j, j < n ∧ put1 T hole (x0.1, x0.2, false) j = (k, id, true)) ↔ k ≠ k0 ∧ ∃ j, j < n ∧ T0 j = (k, id, true) := by
  have hoth : ∀ j, j ≠ hole → put1 T hole (x0.1, x0.2, false) j = T j := fun j hj => by unfold put1; rw [if_neg hj]
  have hself : put1 T hole (x0.1, x0.2, false) hole = (x0.1, x0.2, false) := by unfold put1; rw [if_pos rfl]
  have hne : ∀ j, occ (put1 T hole (x0.1, x0.2, false)) j = true → j ≠ hole ∧ occ T j = true := by
    intro j hj
    by_cases x : j = hole
    · subst x; unfold occ at hj; rw [hself] at hj; simp at hj
    · unfold occ at hj; rw [hoth j x] at hj; exact ⟨x, hj⟩
  refine ⟨⟨h.hlt, fun j hj hoj t ht => ?_, fun a b ha hb hoa hob hab => ?_⟩, fun k id => ?_⟩
  · obtain ⟨x, hoj'⟩ := hne j hoj
    unfold key at ht ⊢
    rw [hoth j x] at ht ⊢
    have h1 := h.path j hj x hoj' t ht
    have hnh : (home (T j).1 + t) % n ≠ hole := by
      intro hp
      have h2 : dist n hole i ≤ dist n hole j := h1.2 hp
      have h3 := dist_split (n := n) (h.hlt (T j).1) hj hp (by omega)
      have hji : i ≠ j := fun y => by subst y; rw [ho] at hoj'; simp at hoj'
      have h4 : dist n hole i ≠ dist n hole j := by
        intro y
        have h5 := add_dist (n := n) h.hh hj
        rw [← y, add_dist h.hh h.hi] at h5
        exact hji h5
      have h6 := (h.path j hj x hoj' (t + dist n hole i) (by unfold key; omega)).1
      have h7 : (home (key T j) + (t + dist n hole i)) % n = i := by
        have h8 : (home (key T j) + t) % n = hole := hp
        rw [← Nat.add_assoc, ← Nat.mod_add_mod, h8, add_dist h.hh h.hi]
      rw [h7, ho] at h6
      simp at h6
    unfold occ
    rw [hoth _ hnh]
    exact h1.1
  · obtain ⟨x, hoa'⟩ := hne a hoa
    obtain ⟨y, hob'⟩ := hne b hob
    unfold key at hab
    rw [hoth a x, hoth b y] at hab
    exact h.uniq a b ha hb x y hoa' hob' hab
  · rw [← h.same k id]
    constructor
    · rintro ⟨j, hj, hT⟩
      have hx : j ≠ hole := fun x => by subst x; rw [hself] at hT; simp at hT
      rw [hoth j hx] at hT
      exact ⟨j, hj, hx, hT⟩
    · rintro ⟨j, hj, hx, hT⟩
      exact ⟨j, hj, by rw [hoth j hx]; exact hT⟩
end
end Go.Proofs.Ytlgmmfhfoihbeaa

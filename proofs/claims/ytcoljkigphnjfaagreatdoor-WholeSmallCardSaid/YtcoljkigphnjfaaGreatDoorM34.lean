/- Plain: form 5's text; prints differ; the reference's sizes. · WholeSmall, given what alive tells. -/
import Derived.Test.YtcoljkigphnjfaaGreatDoorM33
import Derived.Test.YtcoljkigphnjfaaGreatDoorM12
import Derived.Test.YtcoljkigphnjfaaGreatDoorM07
import Derived.Deep.RegionHeld3
set_option linter.unusedVariables false
set_option linter.unusedSimpArgs false
namespace Go.Proofs.YtcoljkigphnjfaaGreatDoor
section
variable {n : Nat}
theorem skip5_pr : ∀ (k l : Nat) (t : List Bool), l + k = n → t.length = 2 ^ k → ∃ m u q, skip5 k t l = (m, u, q) ∧ m ≤ k ∧ q + m = n ∧ u.length = 2 ^ m ∧ buildE 5 n k l t = buildE 5 n m q u ∧ freeB m u = false ∧ (true ∈ t → true ∈ u) := by
  intro k
  induction k with
  | zero => intro l t h ht; exact ⟨0, t, l, rfl, Nat.le_refl _, h, ht, rfl, rfl, id⟩
  | succ k ih =>
    intro l t h ht
    obtain ⟨h1, h2⟩ := halves_len ht
    rw [skip5]
    by_cases e : t.take (2 ^ k) = t.drop (2 ^ k)
    · rw [if_pos e]
      obtain ⟨m, u, q, r1, r2, r3, r4, r5, r6, r7⟩ := ih (l + 1) _ (by omega) h1
      refine ⟨m, u, q, r1, by omega, r3, r4, ?_, r6, fun hm => r7 ?_⟩
      · rw [buildE, ← e, mk_same (by omega), r5]
      · rw [← List.take_append_drop (2 ^ k) t, List.mem_append, ← e] at hm
        exact hm.elim id id
    · rw [if_neg e]
      exact ⟨k + 1, t, l, rfl, Nat.le_refl _, h, ht, rfl, by simp [freeB, e], id⟩
/-- What stands behind form 5's tag. -/
def tailZ (n : Nat) (z : Nat × List Bool × Nat) : Tr :=
  match z.1 with
  | 0 => .leaf true
  | m + 1 => .node z.2.2 z.2.2 (buildE 5 n m (z.2.2 + 1) (z.2.1.take (2 ^ m))).1 (buildE 5 n m (z.2.2 + 1) (z.2.1.take (2 ^ m))).2 (buildE 5 n m (z.2.2 + 1) (z.2.1.drop (2 ^ m))).1 (buildE 5 n m (z.2.2 + 1) (z.2.1.drop (2 ^ m))).2
theorem zero5_pr : ∀ (k l : Nat) (t : List Bool), l + k = n → t.length = 2 ^ k → true ∈ t → freeB k t = false → ∃ m u z, zero5 k t l = (m, u, z) ∧ m ≤ k ∧ z + m = n ∧ u.length = 2 ^ m ∧ buildE 5 n k l t = (l, tailZ n (m, u, z)) := by
  intro k
  induction k with
  | zero =>
    intro l t h ht h1 hf
    refine ⟨0, t, l, rfl, Nat.le_refl _, h, ht, ?_⟩
    obtain ⟨a, rfl⟩ := List.length_eq_one_iff.1 ht
    simp at h1
    subst h1
    simp [buildE, leafE, tailZ]
    omega
  | succ k ih =>
    intro l t h ht hone hf
    obtain ⟨h1, h2⟩ := halves_len ht
    have e : ¬ t.take (2 ^ k) = t.drop (2 ^ k) := by simpa [freeB] using hf
    have hne : ¬ buildE 5 n k (l + 1) (t.take (2 ^ k)) = buildE 5 n k (l + 1) (t.drop (2 ^ k)) := fun q => e (build_inj (by omega) (by omega) k (l + 1) _ _ (by omega) h1 h2 q)
    have hz := build_zero (f := 5) (n := n) (by omega) (by omega) k (l + 1) (t.drop (2 ^ k)) (by omega) h2
    rw [zero5]
    by_cases c : noneB (t.drop (2 ^ k)) = true ∧ freeB k (t.take (2 ^ k)) = false
    · rw [if_pos c]
      have hd := (noneB_iff _).1 c.1
      have hlo : true ∈ t.take (2 ^ k) := by
        rw [← List.take_append_drop (2 ^ k) t, List.mem_append] at hone
        exact hone.elim id fun h => absurd h hd
      obtain ⟨m, u, z, r1, r2, r3, r4, r5⟩ := ih (l + 1) _ (by omega) h1 hlo c.2
      refine ⟨m, u, z, r1, by omega, r3, r4, ?_⟩
      rw [buildE, mk_five hne, if_pos ⟨hz.2 hd, by rw [r5]⟩, r5]
    · rw [if_neg c]
      refine ⟨k + 1, t, l, rfl, Nat.le_refl _, h, ht, ?_⟩
      rw [buildE, mk_five hne, if_neg]
      · rfl
      · intro q
        have hd := hz.1 q.1
        have hlo : true ∈ t.take (2 ^ k) := by
          rw [← List.take_append_drop (2 ^ k) t, List.mem_append] at hone
          exact hone.elim id fun h => absurd h hd
        refine c ⟨(noneB_iff _).2 hd, ?_⟩
        cases hb : freeB k (t.take (2 ^ k)) with
        | false => rfl
        | true =>
          exfalso
          cases k with
          | zero => simp [freeB] at hb
          | succ k =>
            obtain ⟨g1, g2⟩ := halves_len h1
            have e3 : (t.take (2 ^ (k + 1))).take (2 ^ k) = (t.take (2 ^ (k + 1))).drop (2 ^ k) := by simpa [freeB] using hb
            have q2 := q.2
            rw [buildE, ← e3, mk_same (by omega)] at q2
            have hin : true ∈ (t.take (2 ^ (k + 1))).take (2 ^ k) := by
              rw [← List.take_append_drop (2 ^ k) (t.take (2 ^ (k + 1))), List.mem_append, ← e3] at hlo
              exact hlo.elim id id
            have v1 := build_VE 5 n k (l + 1 + 1) ((t.take (2 ^ (k + 1))).take (2 ^ k)) (by omega)
            unfold VE at v1
            rw [if_pos rfl] at v1
            rcases v1 with v1 | v1
            · have := (build_zero (f := 5) (n := n) (by omega) (by omega) k (l + 1 + 1) _ (by omega) g1).1 (by rw [v1])
              exact this hin
            · have := v1.2.1; omega
theorem prE_five {T : Tr} (q : Nat) (h : ¬ T = .leaf false) : prE 5 (q, T) = [dg q, 64] ++ prT 5 T := by rw [prE, tagT, if_pos ⟨rfl, h⟩]
theorem term5_pr : ∀ (F k l : Nat) (t : List Bool), k ≤ F → l + k = n → t.length = 2 ^ k → term5 F k t l = prE 5 (buildE 5 n k l t) := by
  have main : ∀ (rec : Nat → List Bool → Nat → List UInt8) (k l : Nat) (t : List Bool), l + k = n → t.length = 2 ^ k → (∀ (m l' : Nat) (u : List Bool), m < k → l' + m = n → u.length = 2 ^ m → rec m u l' = prE 5 (buildE 5 n m l' u)) →
      (if noneB t then [48] else nodeT5 rec (skip5 k t l).2.2 (last5 k t l)) = prE 5 (buildE 5 n k l t) := by
    intro rec k l t h ht hrec
    by_cases e : noneB t = true
    · rw [if_pos e]; exact zero_pr 5 e
    · rw [if_neg e]
      have hone : true ∈ t := Decidable.byContradiction fun h => e ((noneB_iff _).2 h)
      obtain ⟨m, u, q, r1, r2, r3, r4, r5, r6, r7⟩ := skip5_pr (n := n) k l t h ht
      obtain ⟨m2, u2, z, s1, s2, s3, s4, s5⟩ := zero5_pr (n := n) m q u r3 r4 (r7 hone) r6
      rw [last5, r1]
      simp only
      rw [s1, r5, s5]
      cases m2 with
      | zero => rw [prE_five _ (by simp [tailZ])]; rfl
      | succ m2 =>
        obtain ⟨g1, g2⟩ := halves_len s4
        rw [prE_five _ (by simp [tailZ]), nodeT5, tailZ]
        simp only
        rw [hrec _ _ _ (by omega) (by omega) g1, hrec _ _ _ (by omega) (by omega) g2, prT]
        simp [prE]
  intro F
  induction F with
  | zero =>
    intro k l t hk h ht
    rw [term5]
    exact main _ k l t h ht (by intro m l' u hm; omega)
  | succ F ih =>
    intro k l t hk h ht
    rw [term5]
    exact main _ k l t h ht fun m l' u hm h' hu => ih m l' u (by omega) h' hu
theorem termF_pr {f : Nat} (h1 : 1 ≤ f) (h5 : f ≤ 5) (t : List Bool) (ht : t.length = 2 ^ n) : termF f n t = prE f (buildE f n n 0 t) := by
  obtain rfl | rfl | rfl | rfl | rfl : f = 1 ∨ f = 2 ∨ f = 3 ∨ f = 4 ∨ f = 5 := by omega
  · exact term1_pr n 0 t (by omega) ht
  · exact term2_pr n 0 t (by omega) ht
  · exact term3_pr n n 0 t (by omega) (by omega) ht
  · exact term4_pr n n 0 t (by omega) (by omega) ht
  · exact term5_pr n n 0 t (by omega) (by omega) ht
end

/-- Levels of one digit; tags that stand in the text. -/
def okE (f : Nat) (x : Nat × Tr) : Prop := if f = 5 then x.1 < 10 ∧ (x.2 = .leaf false → x.1 = 0) else x.1 = 0
def okT (f : Nat) : Tr → Prop
  | .leaf _ => True
  | .node t b tl x th y => t < 10 ∧ b < 10 ∧ ((f = 3 ∨ f = 4) ∨ b = t) ∧ okE f (tl, x) ∧ okE f (th, y) ∧ okT f x ∧ okT f y
theorem okT_sub {f : Nat} {T : Tr} (h : okT f T) : ∀ S ∈ nds T, okT f S := by
  induction T with
  | leaf b => simp [nds]
  | node t b tl x th y ihx ihy =>
    intro S hS
    simp [nds] at hS
    rcases hS with rfl | hS | hS
    · exact h
    · exact ihx h.2.2.2.2.2.1 S hS
    · exact ihy h.2.2.2.2.2.2 S hS
theorem ok_mk {f l : Nat} {x y : Nat × Tr} (h1 : 1 ≤ f) (h5 : f ≤ 5) (hl : l < 10) (hx : okE f x ∧ okT f x.2) (hy : okE f y ∧ okT f y.2) : okE f (mkE f l x y) ∧ okT f (mkE f l x y).2 := by
  have hn : okT f (nodeE f l x y) := by
    rcases nodeE_form f l x y with ⟨t, b, tl, u, th, v, e1, hf, _, e3, e⟩ | ⟨t, b, tl, u, th, v, e1, hf, _, _, e⟩ | e
    · rw [e]
      have := hx.2
      rw [e1] at this
      exact ⟨hl, this.2.1, .inl (.inl hf), this.2.2.2.1, hy.1, this.2.2.2.2.2.1, hy.2⟩
    · rw [e]
      have := hx.2
      rw [e1] at this
      exact ⟨hl, this.2.1, .inl (.inr hf), this.2.2.2.1, this.2.2.2.2.1, this.2.2.2.2.2.1, this.2.2.2.2.2.2⟩
    · rw [e]; exact ⟨hl, hl, .inr rfl, hx.1, hy.1, hx.2, hy.2⟩
  obtain ⟨b, tl, u, th, v, e⟩ := nodeE_top f l x y
  by_cases hf : f = 5
  · subst hf
    by_cases hxy : x = y
    · subst hxy; rw [mk_same (by omega)]; exact hx
    · rw [mk_five hxy]
      rw [nodeE_plain (by omega) (by omega)] at hn
      split
      · rename_i hz
        refine ⟨?_, hx.2⟩
        have := hx.1
        unfold okE at this ⊢
        simp only [if_true] at this ⊢
        exact ⟨hl, fun q => by have := this.2 q; omega⟩
      · refine ⟨?_, hn⟩
        unfold okE
        simp [hl]
  · have h0 : okE f (0, nodeE f l x y) := by unfold okE; simp [hf]
    unfold mkE
    simp only [hf, false_and, if_false]
    split
    · split
      · exact hx
      · exact ⟨h0, hn⟩
    · split
      · exact hx
      · exact ⟨h0, hn⟩
theorem ok_build {f n : Nat} (h1 : 1 ≤ f) (h5 : f ≤ 5) (hn : n < 10) : ∀ (k l : Nat) (t : List Bool), l + k = n → okE f (buildE f n k l t) ∧ okT f (buildE f n k l t).2 := by
  intro k
  induction k with
  | zero =>
    intro l t h
    rw [buildE, leafE]
    refine ⟨?_, trivial⟩
    unfold okE
    by_cases hf : f = 5
    · cases t.headD false <;> simp [hf, hn]
    · simp [hf]
  | succ k ih =>
    intro l t h
    exact ok_mk h1 h5 (by omega) (ih _ _ (by omega)) (ih _ _ (by omega))

theorem dg_inj {a b : Nat} (ha : a < 10) (hb : b < 10) (h : dg a = dg b) : a = b := by
  unfold dg at h
  have := congrArg UInt8.toNat h
  simp at this
  omega
theorem dg_40 {a : Nat} (ha : a < 10) : ¬ dg a = 40 := by
  unfold dg
  intro h
  have := congrArg UInt8.toNat h
  simp at this
  omega
theorem dg_41 {a : Nat} (ha : a < 10) : ¬ dg a = 41 := by
  unfold dg
  intro h
  have := congrArg UInt8.toNat h
  simp at this
  omega
theorem prT_head (f : Nat) (T : Tr) : ∃ c r, prT f T = c :: r ∧ (c = 40 ∨ c = 48 ∨ c = 49) ∧ (c = 48 ↔ T = .leaf false) ∧ (c = 40 ↔ ∃ t b tl x th y, T = .node t b tl x th y) := by
  cases T with
  | leaf b => cases b <;> exact ⟨_, [], rfl, by simp, by simp, by simp⟩
  | node t b tl x th y => exact ⟨40, _, by rw [prT]; simp; rfl, .inl rfl, by simp, by simp⟩
theorem prT_parse (f : Nat) : ∀ (T U : Tr) (r s : List UInt8), okT f T → okT f U → prT f T ++ r = prT f U ++ s → T = U ∧ r = s := by
  intro T
  induction T with
  | leaf b =>
    intro U r s hT hU h
    cases U with
    | leaf c =>
      rw [prT, prT] at h
      cases b <;> cases c <;> simp at h ⊢ <;> exact h
    | node t b' tl x th y =>
      exfalso
      rw [prT, prT] at h
      cases b <;> simp at h
  | node t b tl x th y ihx ihy =>
    intro U r s hT hU h
    cases U with
    | leaf c =>
      exfalso
      rw [prT, prT] at h
      cases c <;> simp at h
    | node t' b' tl' x' th' y' =>
      obtain ⟨a1, a2, a3, a4, a5, a6, a7⟩ := hT
      obtain ⟨b1, b2, b3, b4, b5, b6, b7⟩ := hU
      have edge : ∀ {q q' : Nat} {X X' : Tr} {c c' : UInt8} {r s : List UInt8}, (∀ (U : Tr) (r s : List UInt8), okT f X → okT f U → prT f X ++ r = prT f U ++ s → X = U ∧ r = s) → okT f X → okT f X' → okE f (q, X) → okE f (q', X') → ¬ c = 64 → ¬ c' = 64 →
          tagT f (q, X) ++ (prT f X ++ c :: r) = tagT f (q', X') ++ (prT f X' ++ c' :: s) → q = q' ∧ X = X' ∧ r = s := by
        intro q q' X X' c c' r s ih o1 o2 e1 e2 hc hc' h
        by_cases hf : f = 5
        · subst hf
          unfold okE at e1 e2
          simp only [if_true] at e1 e2
          unfold tagT at h
          by_cases z1 : X = .leaf false
          · by_cases z2 : X' = .leaf false
            · subst z1 z2
              simp [prT] at h
              exact ⟨by rw [e1.2 rfl, e2.2 rfl], rfl, h.2⟩
            · exfalso
              subst z1
              simp [prT, z2] at h
              exact hc h.2.1
          · by_cases z2 : X' = .leaf false
            · exfalso
              subst z2
              simp [prT, z1] at h
              exact hc' h.2.1.symm
            · simp [z1, z2] at h
              obtain ⟨g1, g2⟩ := ih X' _ _ o1 o2 h.2
              simp at g2
              exact ⟨dg_inj e1.1 e2.1 h.1, g1, g2.2⟩
        · rw [tag_no hf, tag_no hf] at h
          simp only [List.nil_append] at h
          obtain ⟨g1, g2⟩ := ih X' _ _ o1 o2 h
          simp at g2
          unfold okE at e1 e2
          rw [if_neg hf] at e1 e2
          exact ⟨by simp only at e1 e2; omega, g1, g2.2⟩
      rw [prT, prT] at h
      have h2 : dg t = dg t' ∧ b = b' ∧ tagT f (tl, x) ++ (prT f x ++ 32 :: (tagT f (th, y) ++ (prT f y ++ 41 :: r))) = tagT f (tl', x') ++ (prT f x' ++ 32 :: (tagT f (th', y') ++ (prT f y' ++ 41 :: s))) := by
        by_cases hf : f = 3 ∨ f = 4
        · simp [hf] at h
          exact ⟨h.1, dg_inj a2 b2 h.2.1, h.2.2⟩
        · simp [hf] at h
          have := dg_inj a1 b1 h.1
          exact ⟨h.1, by rw [a3.resolve_left hf, b3.resolve_left hf, this], h.2⟩
      obtain ⟨h3, h4, h5⟩ := h2
      obtain ⟨g1, g2, g3⟩ := edge (fun U r s => ihx U r s) a6 b6 a4 b4 (by decide) (by decide) h5
      obtain ⟨k1, k2, k3⟩ := edge (fun U r s => ihy U r s) a7 b7 a5 b5 (by decide) (by decide) g3
      have ht := dg_inj a1 b1 h3
      subst ht h4 g1 g2 k1 k2
      exact ⟨rfl, k3⟩

theorem closeL_other {c : UInt8} (h1 : ¬ c = 40) (h2 : ¬ c = 41) (d : Nat) (l : List UInt8) : closeL (d + 1) (c :: l) = 1 + closeL (d + 1) l := by
  rw [closeL, if_neg h1, if_neg h2]; rfl
theorem closeL_open (d : Nat) (l : List UInt8) : closeL (d + 1) (40 :: l) = 1 + closeL (d + 2) l := by
  rw [closeL, if_pos rfl, if_neg (by decide)]; rfl
theorem closeL_shut (d : Nat) (l : List UInt8) : closeL (d + 1) (41 :: l) = 1 + closeL d l := by
  rw [closeL, if_neg (by decide), if_pos rfl]; rfl
theorem closeL_tag (f d : Nat) (x : Nat × Tr) (h : okE f x) (r : List UInt8) : closeL (d + 1) (tagT f x ++ r) = (tagT f x).length + closeL (d + 1) r := by
  unfold tagT
  unfold okE at h
  by_cases hf : f = 5 ∧ ¬ x.2 = .leaf false
  · rw [if_pos hf]
    rw [if_pos hf.1] at h
    simp only [List.cons_append, List.nil_append]
    rw [closeL_other (dg_40 h.1) (dg_41 h.1), closeL_other (by decide) (by decide)]
    simp; omega
  · rw [if_neg hf]; simp
theorem closeL_pr (f : Nat) : ∀ (T : Tr) (d : Nat) (r : List UInt8), okT f T → closeL (d + 1) (prT f T ++ r) = (prT f T).length + closeL (d + 1) r := by
  intro T
  induction T with
  | leaf b =>
    intro d r _
    rw [prT]
    simp only [List.cons_append, List.nil_append, List.length_cons, List.length_nil]
    rw [closeL_other (by cases b <;> decide) (by cases b <;> decide)]
  | node t b tl x th y ihx ihy =>
    intro d r h
    obtain ⟨a1, a2, a3, a4, a5, a6, a7⟩ := h
    rw [prT]
    by_cases hf : f = 3 ∨ f = 4
    · simp only [hf, if_true, List.cons_append, List.nil_append, List.append_assoc, List.length_cons, List.length_nil, List.length_append]
      rw [closeL_open, closeL_other (dg_40 a1) (dg_41 a1), closeL_other (by decide) (by decide), closeL_other (dg_40 a2) (dg_41 a2), closeL_other (by decide) (by decide), closeL_tag _ _ _ a4, ihx _ _ a6, closeL_other (by decide) (by decide), closeL_tag _ _ _ a5, ihy _ _ a7, closeL_shut]
      omega
    · simp only [hf, if_false, List.cons_append, List.nil_append, List.append_assoc, List.length_cons, List.length_nil, List.length_append]
      rw [closeL_open, closeL_other (dg_40 a1) (dg_41 a1), closeL_other (by decide) (by decide), closeL_tag _ _ _ a4, ihx _ _ a6, closeL_other (by decide) (by decide), closeL_tag _ _ _ a5, ihy _ _ a7, closeL_shut]
      omega
theorem subs_other {c : UInt8} (h : ¬ c = 40) (l : List UInt8) : subs (c :: l) = subs l := by rw [subs, if_neg h]
theorem subs_tag (f : Nat) (x : Nat × Tr) (h : okE f x) (r : List UInt8) : subs (tagT f x ++ r) = subs r := by
  unfold tagT
  unfold okE at h
  by_cases hf : f = 5 ∧ ¬ x.2 = .leaf false
  · rw [if_pos hf]
    rw [if_pos hf.1] at h
    simp only [List.cons_append, List.nil_append]
    rw [subs_other (dg_40 h.1), subs_other (by decide)]
  · rw [if_neg hf]; rfl
theorem prT_split (f t b tl th : Nat) (x y : Tr) : ∃ m, prT f (.node t b tl x th y) = 40 :: m ∧ (m ++ [] = m) := ⟨_, by rw [prT]; simp; rfl, by simp⟩
theorem subs_pr (f : Nat) : ∀ (T : Tr) (r : List UInt8), okT f T → subs (prT f T ++ r) = (nds T).map (prT f) ++ subs r := by
  intro T
  induction T with
  | leaf b =>
    intro r _
    rw [prT]
    simp only [List.cons_append, List.nil_append, nds, List.map_nil]
    rw [subs_other (by cases b <;> decide)]
  | node t b tl x th y ihx ihy =>
    intro r h
    have hc := closeL_pr f (.node t b tl x th y) 0 r h
    obtain ⟨m, hm, -⟩ := prT_split f t b tl th x y
    have hbody : subs (m ++ r) = (nds x).map (prT f) ++ ((nds y).map (prT f) ++ subs r) := by
      have e : m = (prT f (.node t b tl x th y)).tail := by rw [hm]; rfl
      rw [e, prT]
      obtain ⟨a1, a2, a3, a4, a5, a6, a7⟩ := h
      by_cases hf : f = 3 ∨ f = 4
      · simp only [hf, if_true, List.cons_append, List.nil_append, List.append_assoc, List.tail_cons]
        rw [subs_other (dg_40 a1), subs_other (by decide), subs_other (dg_40 a2), subs_other (by decide), subs_tag _ _ a4, ihx _ a6, subs_other (by decide), subs_tag _ _ a5, ihy _ a7, subs_other (by decide)]
      · simp only [hf, if_false, List.cons_append, List.nil_append, List.append_assoc, List.tail_cons]
        rw [subs_other (dg_40 a1), subs_other (by decide), subs_tag _ _ a4, ihx _ a6, subs_other (by decide), subs_tag _ _ a5, ihy _ a7, subs_other (by decide)]
    rw [hm] at hc ⊢
    simp only [List.cons_append, List.length_cons] at hc ⊢
    rw [closeL_open] at hc
    have hlen : closeL 1 (m ++ r) = m.length := by
      have e : m = (prT f (.node t b tl x th y)).tail := by rw [hm]; rfl
      rw [e, prT]
      obtain ⟨a1, a2, a3, a4, a5, a6, a7⟩ := h
      by_cases hf : f = 3 ∨ f = 4
      · simp only [hf, if_true, List.cons_append, List.nil_append, List.append_assoc, List.tail_cons, List.length_cons, List.length_nil, List.length_append]
        rw [closeL_other (dg_40 a1) (dg_41 a1), closeL_other (by decide) (by decide), closeL_other (dg_40 a2) (dg_41 a2), closeL_other (by decide) (by decide), closeL_tag _ _ _ a4, closeL_pr _ _ _ _ a6, closeL_other (by decide) (by decide), closeL_tag _ _ _ a5, closeL_pr _ _ _ _ a7, closeL_shut, closeL]
        omega
      · simp only [hf, if_false, List.cons_append, List.nil_append, List.append_assoc, List.tail_cons, List.length_cons, List.length_nil, List.length_append]
        rw [closeL_other (dg_40 a1) (dg_41 a1), closeL_other (by decide) (by decide), closeL_tag _ _ _ a4, closeL_pr _ _ _ _ a6, closeL_other (by decide) (by decide), closeL_tag _ _ _ a5, closeL_pr _ _ _ _ a7, closeL_shut, closeL]
        omega
    rw [subs, if_pos rfl, hlen, hbody, nds, List.map_cons, hm]
    simp [List.take_append]
theorem refN_sz {f n : Nat} (h1 : 1 ≤ f) (h5 : f ≤ 5) (hn : n < 10) (t : List Bool) (ht : t.length = 2 ^ n) : refN n t f = szT f n t := by
  obtain ⟨o1, o2⟩ := ok_build (n := n) h1 h5 hn n 0 t (by omega)
  have e : subs (termF f n t) = (nds (buildE f n n 0 t).2).map (prT f) := by
    rw [termF_pr h1 h5 t ht, prE, subs_tag _ _ o1]
    have := subs_pr f _ [] o2
    rw [List.append_nil] at this
    rw [this]; simp [subs]
  unfold refN szT
  rw [e]
  refine nodup_len_rel (fun s T => okT f T ∧ prT f T = s) ?_ ?_ (dis_nodup _ _ List.nodup_nil) (dis_nodup _ _ List.nodup_nil) ?_ ?_
  · intro a a' T h k; exact h.2.symm.trans k.2
  · intro s T U h k
    exact (prT_parse f T U [] [] h.1 k.1 (by rw [h.2, k.2])).1
  · intro s hs
    obtain ⟨T, hT, rfl⟩ := List.mem_map.1 (mem_dis.1 hs)
    exact ⟨T, mem_dis.2 hT, okT_sub o2 T hT, rfl⟩
  · intro T hT
    have hT := mem_dis.1 hT
    exact ⟨_, mem_dis.2 (List.mem_map_of_mem hT), okT_sub o2 T hT, rfl⟩
theorem refsN_sizes {n W : Nat} (hn : n < 10) (p : List Nat) : refsN n (tabL W p n 0 0) = sizesN n W p := by
  have h := tabL_len W p n 0 0
  unfold refsN sizesN
  rw [refN_sz (by omega) (by omega) hn _ h, refN_sz (by omega) (by omega) hn _ h, refN_sz (by omega) (by omega) hn _ h, refN_sz (by omega) (by omega) hn _ h, refN_sz (by omega) (by omega) hn _ h]
  rfl
end Go.Proofs.YtcoljkigphnjfaaGreatDoor
set_option linter.unusedVariables false
set_option linter.unusedSimpArgs false
namespace Go.Proofs.YtcoljkigphnjfaaGreatDoor
open Go.RowKit

/-- The numbers that a slice shows. -/
def readL (w : World) (v : Value) (n : Nat) : List Nat :=
  match v with
  | .slice (some ⟨b, off, none⟩) _ _ => (List.range n).map fun i => match w.cell? ⟨b, off + i, none⟩ with | some (.int _ x) => x.toNat | _ => 0
  | _ => []
theorem readL_rv {w : World} {v : Value} {p : List Nat} {F : List Nat} (h : Rv w v (p.map ei) F) : readL w v p.length = p := by
  obtain ⟨A, cap, rfl, hc⟩ := h.shape
  rcases Nat.eq_zero_or_pos p.length with h0 | h0
  · rw [List.length_eq_zero_iff.1 h0]
    unfold readL
    simp
    split <;> simp
  · obtain ⟨b, off, rfl, hb, hcell⟩ := h.addr (by rw [List.length_map]; exact h0)
    unfold readL
    refine List.ext_getElem (by simp) fun i hi1 hi2 => ?_
    simp only [List.getElem_map, List.getElem_range]
    rw [hcell i (by rw [List.length_map]; exact hi2)]
    simp [ei]

def SmallP (w : World) (e : Ending) (w' : World) : Prop := e = .returned (.bool true) ∧ Mod [] w w'

theorem five_at {w : World} {g cap : Nat} {l : List Nat} {F : List Nat} {E : Nat} (h : Sl w E 1 (.slice (some ⟨g, 0, none⟩) 5 cap) 5 (l.map ei) F) (i : Nat) (hi : i < 5) (hl : l.length = 5) : w.cell? ⟨g, i, none⟩ = some (.int .i64 (l.getD i 0 : Nat)) := by
  have := (h.at i (by omega)).1
  rw [this, List.getElem?_map, List.getD_eq_getElem?_getD, List.getElem?_eq_getElem (by omega)]
  rfl

set_option maxRecDepth 100000 in
set_option maxHeartbeats 16000000 in
theorem whole_c (AL : ∀ w, Calls Tryz.prog 4 #[] w fun e w' => e = .returned (.bool true) ∧ Mod [] w w') (n : Int) (a : Nat) (ha : a < B64) (w : World) :
    Calls Tryz.prog 3 #[.int .i64 n, .int .u64 a] w (SmallP w) := by
  replace AL := Lib.hid AL
  by_cases hlow : n < 0
  · go_enter Tryz.func3, Tryz.ntmps3
    go_wp2_with fail
    refine (AL.out _).mono ?_
    rintro e w1 ⟨rfl, m1⟩
    go_wp2_with fail
    go_ret
    exact ⟨rfl, m1⟩
  by_cases hhigh : 4 < n
  · go_enter Tryz.func3, Tryz.ntmps3
    go_wp2_with fail
    refine (AL.out _).mono ?_
    rintro e w1 ⟨rfl, m1⟩
    go_wp2_with fail
    go_ret
    exact ⟨rfl, m1⟩
  obtain ⟨N, rfl⟩ : ∃ N : Nat, n = N := ⟨n.toNat, by omega⟩
  have hN : N ≤ 4 := by omega
  clear hlow hhigh
  have BT : Hid (∀ W, _) := bits_c N a (by omega) ha
  have SF : Hid (∀ W, _) := self02_c N (by omega)
  clear ha
  have hN2 : (N : Int) ≤ 4 := by omega
  have h2N : 2 ^ N ≤ 16 := by have := Nat.pow_le_pow_right (n := 2) (by omega) hN; simpa using this
  have h2N0 : 0 < 2 ^ N := Nat.two_pow_pos N
  obtain ⟨t, ht⟩ : ∃ t, bitsN N a = t := ⟨_, rfl⟩
  have HT := Lib.hid (bitsN_len N a)
  rw [ht] at HT BT
  clear ht
  have HB := Lib.hid (And.intro h2N h2N0)
  clear h2N h2N0
  go_enter Tryz.func3, Tryz.ntmps3
  go_wp2_with fail
  refine (AL.out _).mono ?_
  rintro e w1 ⟨rfl, m1⟩
  have M1 := Lib.hid m1
  clear m1 AL
  go_wp2_with fail
  refine (BT.out _).mono ?_
  rintro e w2 ⟨v2, rfl, n2⟩
  obtain ⟨A2, c2, rfl⟩ := n2.shape
  have M2 := Lib.hid (M1.out.trans' n2.mod)
  obtain ⟨F2, r2, -⟩ := n2.rv
  have hl2 : (t.map eb).length = 2 ^ N := by rw [List.length_map]; exact HT.out
  rw [hl2] at r2 ⊢
  obtain ⟨T, hT⟩ : ∃ T, 2 ^ N = T := ⟨_, rfl⟩
  rw [hT] at r2 ⊢
  have R2 := Lib.hid r2
  clear r2 n2 hl2 BT M1 hT
  go_wp2_with fail
  refine (SF.out _).mono ?_
  rintro e w3 ⟨v3, rfl, n3⟩
  obtain ⟨A3, c3, rfl⟩ := n3.shape
  have M3 := Lib.hid n3.mod
  obtain ⟨F3, r3, -⟩ := n3.rv
  have hl3 : ((List.range N).map ei).length = N := by simp
  rw [hl3] at r3 ⊢
  have R3 := Lib.hid r3
  clear r3 n3 hl3 SF
  go_wp2_with fail
  go_loopw [6, 7, 8, 9, 10, 11, 12] (fun v6 _ _ _ _ _ _ wr => ∃ (p : List Nat) (A6 : Option Addr) (c6 : Nat), v6 = .slice A6 N c6 ∧ Hid (p ∈ permsL N) ∧ Hid (∃ F, Rv wr (.slice A6 N c6) (p.map ei) F) ∧ Hid (Mod [] w2 wr)) (fun v6 _ _ _ _ _ _ wr => (permsL N).length - (permsL N).idxOf (readL wr v6 N))
  case atStart => exact ⟨List.range N, A3, c3, rfl, perms_range N, ⟨_, R3.out⟩, M3.out⟩
  case round =>
    obtain ⟨p, A6, c6, rfl, HP, HR, HM⟩ := hrel
    obtain ⟨F6, r6⟩ := HR.out
    have G := permsL_good hN HP.out
    have HG := Lib.hid G
    have hlen := G.len
    have RL : Hid (readL wr (.slice A6 N c6) N = p) := by
      have := readL_rv r6
      rw [hlen] at this
      exact this
    have OF : Hid (∀ W, Mod [] wr W → Calls Tryz.prog 7 #[.slice A6 N c6] W (OrdP W p)) := fun W m => orderOf_c (r6.mod m (by simp)) ⟨G.len, G.lt, G.nd⟩ (by omega)
    have O5 : Hid (∀ W, Mod [] wr W → _) := fun W m => of05_c N ((R2.out.mod HM.out (by simp)).mod m (by simp)) (by have := HT.out; have := HB.out; omega) (by have := HT.out; have := HB.out; omega)
    have R6 := Lib.hid r6
    clear r6 G
    go_wp2_with fail
    refine (OF.out _ (by (repeat (first | exact Mod.refl _ _ | apply Mod.drew | apply Mod.drewN | apply Mod.alloc | refine Mod.setCell ?_ _ _ (by first | simp | (simp; omega)))))).mono ?_
    rintro e w4 ⟨bo, q, Fo, rfl, io, -, m4, -⟩
    have M4 := Lib.hid (Mod.trans' (show Mod [] wr _ from by (repeat (first | exact Mod.refl _ _ | apply Mod.drew | apply Mod.drewN | apply Mod.alloc | refine Mod.setCell ?_ _ _ (by first | simp | (simp; omega))))) m4)
    have IOR := Lib.hid io
    clear io m4 OF
    go_wp2_with fail
    refine (O5.out _ (M4.out.trans' (by (repeat (first | exact Mod.refl _ _ | apply Mod.drew | apply Mod.drewN | apply Mod.alloc | refine Mod.setCell ?_ _ _ (by first | simp | (simp; omega))))))).mono ?_
    rintro e w5 ⟨g, rfl, c0, -, m5⟩
    have M5 := Lib.hid (M4.out.trans' m5)
    have IO5 := Lib.hid (IOR.out.mod m5 (by simp))
    clear m5 O5 IOR
    have SZ := Lib.hid (sizes_c (cap := 1) IO5.out c0 (by omega) HG.out.len HG.out.lt (by have h1 := valB_lt t; rw [HT.out] at h1; exact h1) (fun f h1 h5 => sizes_ok p hN f h1 h5))
    clear c0 IO5 hlen
    go_wp2_with fail
    refine SZ.out.mono ?_
    rintro e w6 ⟨v6, rfl, n6⟩
    have M6 := Lib.hid (M5.out.trans' n6.mod)
    obtain ⟨Fl, sl, ml, fl⟩ := n6
    obtain ⟨S, hS⟩ : ∃ S, sizesN N (valB t) p = S := ⟨_, rfl⟩
    have hSl : S.length = 5 := by rw [← hS]; rfl
    have HS := Lib.hid hS
    rw [hS] at sl
    have h5 : (S.map ei).length = 5 := by rw [List.length_map, hSl]
    rw [h5] at sl
    obtain ⟨gl, cl, rfl, rfl, hcl⟩ := sl.pos (by omega)
    have c0 := five_at sl 0 (by omega) hSl
    have c1 := five_at sl 1 (by omega) hSl
    have c2' := five_at sl 2 (by omega) hSl
    have c3' := five_at sl 3 (by omega) hSl
    have c4 := five_at sl 4 (by omega) hSl
    have hgl : gl < w6.heap.size := sl.lt gl (by simp)
    have RS := Lib.hid (Rv.of_sl sl h5.symm)
    obtain ⟨q1, q2, q3, q4⟩ := sizes_less (n := N) (W := valB t) p
    obtain ⟨s0, hs0⟩ : ∃ s, S.getD 0 0 = s := ⟨_, rfl⟩
    obtain ⟨s1, hs1⟩ : ∃ s, S.getD 1 0 = s := ⟨_, rfl⟩
    obtain ⟨s2, hs2⟩ : ∃ s, S.getD 2 0 = s := ⟨_, rfl⟩
    obtain ⟨s3, hs3⟩ : ∃ s, S.getD 3 0 = s := ⟨_, rfl⟩
    obtain ⟨s4, hs4⟩ : ∃ s, S.getD 4 0 = s := ⟨_, rfl⟩
    rw [hs0] at c0
    rw [hs1] at c1
    rw [hs2] at c2'
    rw [hs3] at c3'
    rw [hs4] at c4
    rw [← hS] at hs0 hs1 hs2 hs3 hs4
    replace hs0 : sizeN N (valB t) p 1 = s0 := hs0
    replace hs1 : sizeN N (valB t) p 2 = s1 := hs1
    replace hs2 : sizeN N (valB t) p 3 = s2 := hs2
    replace hs3 : sizeN N (valB t) p 4 = s3 := hs3
    replace hs4 : sizeN N (valB t) p 5 = s4 := hs4
    rw [hs0, hs2] at q1
    rw [hs1, hs3] at q2
    rw [hs0, hs4] at q3
    rw [hs1, hs4] at q4
    have d1 : decide (s0 < s2) = false := decide_eq_false (by omega)
    have d2 : decide (s1 < s3) = false := decide_eq_false (by omega)
    have d3 : decide (s0 < s4) = false := decide_eq_false (by omega)
    have d4 : decide (s1 < s4) = false := decide_eq_false (by omega)
    clear q1 q2 q3 q4 hs0 hs1 hs2 hs3 hs4 sl ml fl h5 SZ
    have RF : Hid (refsN N (tabL (valB t) p N 0 0) = S) := by
      show _ = _
      rw [refsN_sizes (by omega), HS.out]
    have S21 : Hid (∀ W, Mod [] w6 W → Calls Tryz.prog 11 #[.slice A6 N c6, .slice A2 T c2] W fun e w' => ∃ A9 c9, e = .returned (.slice A9 5 c9) ∧ Mod [] W w' ∧ ∃ F9, Rv w' (.slice A9 5 c9) (S.map ei) F9) := fun W m => by
      refine (sizes21_c (n := N) (by omega) ((R6.out.mod M6.out (by simp)).mod m (by simp)) HG.out.len (fun v hv => by have := HG.out.lt v hv; omega) (((R2.out.mod HM.out (by simp)).mod M6.out (by simp)).mod m (by simp)) HT.out HG.out.inj
        (fun xs hx => HG.out.table HT.out (valB_bit t) hx)).mono ?_
      rintro e w' ⟨v9, rfl, n9⟩
      rw [RF.out] at n9
      obtain ⟨F9, r9, -⟩ := n9.rv
      obtain ⟨A9, c9, rfl⟩ := n9.shape
      rw [List.length_map, hSl] at r9 ⊢
      exact ⟨A9, c9, rfl, n9.mod, F9, r9⟩
    have I21 : Hid (∀ W A9 c9 F9, Mod [] w6 W → Rv W (.slice A9 5 c9) (S.map ei) F9 → Calls Tryz.prog 10 #[.slice (some ⟨gl, 0, none⟩) 5 cl, .slice A9 5 c9] W fun e w' => e = .returned (.bool true) ∧ Mod [] W w') := fun W A9 c9 F9 m r9 => by
      refine (ints21_c (RS.out.mod m (by simp)) r9 (by omega) (by omega)).mono ?_
      rintro e w' ⟨rfl, m'⟩
      exact ⟨by simp, m'⟩
    have NX : Hid (∀ W, Mod [] wr W → Calls Tryz.prog 12 #[.slice A6 N c6] W (NextP W p)) := fun W m => next02_c (R6.out.mod m (by simp)) (by have := HG.out.len; omega) (by rw [HG.out.len]; exact HG.out.best)
    clear hSl HS
    go_wp2_with fail
    go_region_held3 (fun w' => w'.cell? ⟨gl, 0, none⟩ = some (.int .i64 s0) ∧ w'.cell? ⟨gl, 1, none⟩ = some (.int .i64 s1) ∧ w'.cell? ⟨gl, 2, none⟩ = some (.int .i64 s2) ∧ w'.cell? ⟨gl, 3, none⟩ = some (.int .i64 s3) ∧ w'.cell? ⟨gl, 4, none⟩ = some (.int .i64 s4)) (go_keep) (first | (go_at_call 11; refine (S21.out _ (by (repeat (first | exact Mod.refl _ _ | apply Mod.drew | apply Mod.drewN | apply Mod.alloc | refine Mod.setCell ?_ _ _ (by first | simp | (simp; omega)))))).mono ?_; rintro e' wa ⟨A9, c9, rfl, m_wa, F9, R9⟩; have M_wa := Mod.trans' (show Mod _ w6 _ from by (repeat (first | exact Mod.refl _ _ | apply Mod.drew | apply Mod.drewN | apply Mod.alloc | refine Mod.setCell ?_ _ _ (by first | simp | (simp; omega))))) m_wa; have c0 := (M_wa.cell (a := ⟨gl, 0, none⟩) hgl (by first | assumption | (simp; done))).trans c0; have c1 := (M_wa.cell (a := ⟨gl, 1, none⟩) hgl (by first | assumption | (simp; done))).trans c1; have c2' := (M_wa.cell (a := ⟨gl, 2, none⟩) hgl (by first | assumption | (simp; done))).trans c2'; have c3' := (M_wa.cell (a := ⟨gl, 3, none⟩) hgl (by first | assumption | (simp; done))).trans c3'; have c4 := (M_wa.cell (a := ⟨gl, 4, none⟩) hgl (by first | assumption | (simp; done))).trans c4; have hgl := Nat.lt_of_lt_of_le hgl M_wa.size; skip) | (go_at_call 10; refine (I21.out _ _ _ _ (M_wa.trans' (by (repeat (first | exact Mod.refl _ _ | apply Mod.drew | apply Mod.drewN | apply Mod.alloc | refine Mod.setCell ?_ _ _ (by first | simp | (simp; omega)))))) (R9.mod (show Mod [] wa _ from by (repeat (first | exact Mod.refl _ _ | apply Mod.drew | apply Mod.drewN | apply Mod.alloc | refine Mod.setCell ?_ _ _ (by first | simp | (simp; omega))))) (by simp))).mono ?_; rintro e' wb ⟨rfl, m_wb⟩; have M_wb := Mod.trans' (show Mod _ wa _ from by (repeat (first | exact Mod.refl _ _ | apply Mod.drew | apply Mod.drewN | apply Mod.alloc | refine Mod.setCell ?_ _ _ (by first | simp | (simp; omega))))) m_wb; have c0 := (M_wb.cell (a := ⟨gl, 0, none⟩) hgl (by first | assumption | (simp; done))).trans c0; have c1 := (M_wb.cell (a := ⟨gl, 1, none⟩) hgl (by first | assumption | (simp; done))).trans c1; have c2' := (M_wb.cell (a := ⟨gl, 2, none⟩) hgl (by first | assumption | (simp; done))).trans c2'; have c3' := (M_wb.cell (a := ⟨gl, 3, none⟩) hgl (by first | assumption | (simp; done))).trans c3'; have c4 := (M_wb.cell (a := ⟨gl, 4, none⟩) hgl (by first | assumption | (simp; done))).trans c4; have hgl := Nat.lt_of_lt_of_le hgl M_wb.size))
    have M9 := Lib.hid (M6.out.trans' (M_wa.trans' M_wb))
    clear c0 c1 c2' c3' c4 M_wa M_wb m_wa m_wb R9 S21 I21 RF d1 d2 d3 d4 RS
    go_wp2_with fail
    refine (NX.out _ (M9.out.trans' (by (repeat (first | exact Mod.refl _ _ | apply Mod.drew | apply Mod.drewN | apply Mod.alloc | refine Mod.setCell ?_ _ _ (by first | simp | (simp; omega))))))).mono ?_
    rintro e wn (⟨hnone, rfl, mn⟩ | ⟨v, q', hq, rfl, nq⟩)
    · go_wp2_with fail
      go_ret
      exact ⟨rfl, M2.out.trans' (HM.out.trans' (M9.out.trans' (Mod.trans' (by (repeat (first | exact Mod.refl _ _ | apply Mod.drew | apply Mod.drewN | apply Mod.alloc | refine Mod.setCell ?_ _ _ (by first | simp | (simp; omega))))) mn)))⟩
    · obtain ⟨Aq, cq, rfl⟩ := nq.shape
      obtain ⟨Fq, rq, -⟩ := nq.rv
      obtain ⟨g1, g2⟩ := HG.out.next q' hq
      have hlq : (q'.map ei).length = N := by rw [List.length_map]; exact (permsL_good hN g1).len
      have hlq2 : q'.length = N := by rw [List.length_map] at hlq; exact hlq
      rw [hlq] at rq ⊢
      have MN := Lib.hid (M9.out.trans' (Mod.trans' (by (repeat (first | exact Mod.refl _ _ | apply Mod.drew | apply Mod.drewN | apply Mod.alloc | refine Mod.setCell ?_ _ _ (by first | simp | (simp; omega))))) nq.mod))
      have RQ := Lib.hid rq
      have RLQ : Hid (readL wn (.slice Aq N cq) N = q') := by
        have := readL_rv rq
        rw [hlq2] at this
        exact this
      have HLT := Lib.hid (And.intro g2 (List.idxOf_lt_length_of_mem g1))
      have HPQ := Lib.hid g1
      clear rq nq g1 g2 hlq hlq2 hq
      go_wp2_with fail
      go_roundw
      case rel => exact ⟨q', Aq, cq, rfl, HPQ, ⟨Fq, RQ.out⟩, HM.out.trans' MN.out⟩
      case measure =>
        have h1 := HLT.out.1
        have h2 := HLT.out.2
        rw [RLQ.out, RL.out]
        omega
end Go.Proofs.YtcoljkigphnjfaaGreatDoor

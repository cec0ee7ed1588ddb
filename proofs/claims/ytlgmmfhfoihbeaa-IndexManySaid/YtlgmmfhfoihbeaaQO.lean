/- The index as an object: what it tells of a relation of keys and numbers. -/
import Derived.Test.YtlgmmfhfoihbeaaFO
import Derived.Test.YtlgmmfhfoihbeaaPO
import Derived.Test.YtlgmmfhfoihbeaaObj
set_option linter.unusedVariables false
set_option linter.unusedSimpArgs false
namespace Go.Proofs.Ytlgmmfhfoihbeaa.O
open Go.RowKit

set_option maxHeartbeats 1000000 in
theorem clear_c {w : World} {b g n c : Nat} (hH : Hd w b g n c) :
    Calls Try.prog 19 #[.pointer (some ⟨b, 0, none⟩)] w fun e w' => e = .returned (.tuple #[]) ∧ Hd w' b w.heap.size 8 0 ∧ Tab w' w.heap.size 8 (fun _ => (0, 0, false)) ∧ Mod [b] w w' := by
  have HH := Lib.hid hH
  have hbl := hH.lt
  clear hH
  go_enter Try.func19, Try.ntmps19
  go_wp2_with fail
  refine (new_c w).mono ?_
  rintro e w' ⟨rfl, h1, h2, h3⟩
  obtain ⟨cap, c0, c1, _⟩ := h1.own
  have hH' := HH.out.mod h3 (by simp)
  have b0 := hH'.own.choose_spec.2.2 0
  have b1 := hH'.own.choose_spec.2.2 1
  obtain ⟨cap2, q0, q1, _⟩ := hH'.own
  have X1 := Lib.hid hH'
  have X2 := Lib.hid h2
  have X3 := Lib.hid h3
  have hbg : b ≠ w.heap.size := by omega
  clear h1 h2 h3 hH'
  go_wp2
  go_end0
  exact ⟨rfl, (X1.out.slots w.heap.size 8 cap).count 0, X2.out.mod (S := [b]) (by (repeat (first | exact Mod.refl _ _ | apply Mod.drew | apply Mod.drewN | apply Mod.alloc | refine Mod.setCell ?_ _ _ (by first | simp | (simp; omega))))) (by simpa using fun h => hbg h.symm), Mod.trans (S := [b]) (S' := [b]) (X3.out.mono (by simp)) (by (repeat (first | exact Mod.refl _ _ | apply Mod.drew | apply Mod.drewN | apply Mod.alloc | refine Mod.setCell ?_ _ _ (by first | simp | (simp; omega))))) (by intro i _ h; exact h)⟩

/-- The index at b: it bears R, c keys; M: a bound on how many have been put. -/
def IsIx (b : Nat) (R : Nat → Nat → Prop) (c M : Nat) (w : World) (F : List Nat) : Prop :=
  ∃ g j n T, Hd w b g n c ∧ Tab w g n T ∧ IW n (hm n) T R c ∧ n = 2 ^ j ∧ 2 ≤ n ∧ 2 * c ≤ n ∧ n ≤ 4 * M + 8 ∧ c ≤ M ∧ g ≠ b ∧ F = [b, g]

theorem IsIx.stable (b : Nat) (R : Nat → Nat → Prop) (c M : Nat) : Stable (IsIx b R c M) := by
  constructor
  · rintro S w w' F ⟨g, j, n, T, h1, h2, h3, h4, h5, h6, h7, h8, h9, rfl⟩ m hd
    exact ⟨g, j, n, T, h1.mod m (hd b (by simp)), h2.mod m (hd g (by simp)), h3, h4, h5, h6, h7, h8, h9, rfl⟩
  · rintro w F ⟨g, j, n, T, h1, h2, h3, h4, h5, h6, h7, h8, h9, rfl⟩ k hk
    simp at hk
    rcases hk with rfl | rfl
    · exact h1.lt
    · exact h2.lt

theorem Hd.keep {w w' : World} {b g n c : Nat} {F : List Nat} (h : Hd w b g n c) (m : Keep F w w') (hb : b ∈ F) : Hd w' b g n c := by
  obtain ⟨cap, hb'⟩ := h; exact ⟨cap, hb'.keep m hb⟩
theorem Tab.keep {w w' : World} {g n : Nat} {T : Slots} {F : List Nat} (h : Tab w g n T) (m : Keep F w w') (hb : g ∈ F) : Tab w' g n T := by
  obtain ⟨A, hb', r⟩ := h; exact ⟨A, hb'.keep m hb, r⟩
theorem IsIx.kept (b : Nat) (R : Nat → Nat → Prop) (c M : Nat) : Kept (IsIx b R c M) := by
  refine ⟨?_, (IsIx.stable b R c M).lt⟩
  rintro w w' F ⟨g, j, n, T, h1, h2, h3, h4, h5, h6, h7, h8, h9, rfl⟩ m
  exact ⟨g, j, n, T, h1.keep m (by simp), h2.keep m (by simp), h3, h4, h5, h6, h7, h8, h9, rfl⟩
theorem IsIx.mono {b c M M' : Nat} {R R' : Nat → Nat → Prop} {w : World} {F : List Nat} (h : IsIx b R c M w F) (hM : M ≤ M') (e : ∀ k id, R' k id ↔ R k id) : IsIx b R' c M' w F := by
  obtain ⟨g, j, n, T, h1, h2, h3, h4, h5, h6, h7, h8, h9, rfl⟩ := h
  exact ⟨g, j, n, T, h1, h2, h3.congr e, h4, h5, h6, by omega, by omega, h9, rfl⟩

theorem small_j {j n M : Nat} (hn : n = 2 ^ j) (h : n ≤ 4 * M + 8) (hM : M ≤ 100000) : j + 1 ≤ 20 := by
  by_cases hj : j + 1 ≤ 20
  · exact hj
  · have h1 : 2 ^ 20 ≤ 2 ^ j := Nat.pow_le_pow_right (by omega) (by omega)
    omega

abbrev Own (X : List Nat) (w0 w : World) (b : Nat) (R : Nat → Nat → Prop) (c M : Nat) : Prop := OwnG (IsIx b R c M) X w0 w

section
variable {X : List Nat} {w0 w : World} {b : Nat} {R R' : Nat → Nat → Prop} {c M : Nat}

theorem Own.congr (h : Own X w0 w b R c M) (e : ∀ k id, R' k id ↔ R k id) : Own X w0 w b R' c M :=
  h.imp fun F ⟨g, j, n, T, h1, h2, h3, r⟩ => ⟨g, j, n, T, h1, h2, h3.congr e, r⟩

theorem Own.fun_ (h : Own X w0 w b R c M) {k x y : Nat} (hx : R k x) (hy : R k y) : x = y := by
  obtain ⟨F, ⟨g, j, n, T, h1, h2, h3, r⟩, _⟩ := h
  exact h3.fun_ hx hy

theorem own_new (X : List Nat) (M0 : Mod [] w0 w) (hX : ∀ k ∈ X, k < w.heap.size) :
    Calls Try.prog 7 #[] w fun e w' => e = .returned (.pointer (some ⟨w.heap.size + 1, 0, none⟩)) ∧ Own X w0 w' (w.heap.size + 1) (fun _ _ => False) 0 0 ∧ Keep X w w' := by
  refine (new_c w).mono fun e w' ⟨he, h1, h2, h3⟩ => ⟨he, ?_⟩
  exact OwnG.mk (F := []) (F' := [w.heap.size + 1, w.heap.size]) M0 (by simp) hX ⟨w.heap.size, 3, 8, _, h1, h2, IW.empty (fun k => hm_lt 8 k (by omega)), by decide, by omega, by omega, by omega, by omega, by omega, rfl⟩ h3 (by intro k hk; simp at hk; rcases hk with rfl | rfl <;> right <;> omega)

theorem own_len (h : Own X w0 w b R c M) :
    Calls Try.prog 9 #[.pointer (some ⟨b, 0, none⟩)] w fun e w' => e = .returned (.int .i64 c) ∧ w = w' := by
  obtain ⟨F, ⟨g, j, n, T, h1, _⟩, _⟩ := h
  exact len_c h1

theorem own_clear (h : Own X w0 w b R c M) :
    Calls Try.prog 19 #[.pointer (some ⟨b, 0, none⟩)] w fun e w' => e = .returned (.tuple #[]) ∧ Own X w0 w' b (fun _ _ => False) 0 M ∧ Keep X w w' := by
  obtain ⟨F, ⟨g, j, n, T, h1, h2, h3, h4, h5, h6, h7, h8, h9, rfl⟩, M0, hf, hX⟩ := h
  have hl := h1.lt
  refine (clear_c h1).mono fun e w' ⟨he, k1, k2, k3⟩ => ⟨he, ?_⟩
  exact OwnG.mk (F := [b, g]) (F' := [b, w.heap.size]) M0 hf hX ⟨w.heap.size, 3, 8, _, k1, k2, IW.empty (fun k => hm_lt 8 k (by omega)), by decide, by omega, by omega, by omega, by omega, by omega, rfl⟩ (k3.mono (by intro k _ hk; simp at hk; simp [hk])) (by intro k hk; simp at hk; rcases hk with rfl | rfl <;> simp)

theorem own_get (h : Own X w0 w b R c M) (hM : M ≤ 100000) (k : Nat) (hk : k ≤ 4294967295) {id : Nat} (hR : R k id) :
    Calls Try.prog 11 #[.pointer (some ⟨b, 0, none⟩), .int .u32 k] w fun e w' => e = .returned (.tuple #[.int .u32 id, .bool true]) ∧ Own X w0 w' b R c M ∧ Keep X w w' := by
  have h0 := h
  obtain ⟨F, ⟨g, j, n, T, h1, h2, h3, h4, h5, h6, h7, h8, h9, rfl⟩, M0, hf, hX⟩ := h
  have hj := small_j h4 h7 hM
  obtain ⟨hp, hT⟩ := h3.find_in hR
  obtain ⟨cap, c0, _⟩ := h1.own
  have hn3 : n ≤ 1048576 := by omega
  refine (get_raw c0 k _ hp hn3 h2 (find_m h1 h2 h3 (by omega) j (by omega) h4 h5 k hk) true (by rw [hT])).mono fun e w' ⟨he, m⟩ => ⟨?_, OwnG.same (IsIx.stable b R c M) h0 m, m.keep fun k hk => ⟨hX k hk, by simp⟩⟩
  rw [he, hT]; rfl

theorem own_get_none (h : Own X w0 w b R c M) (hM : M ≤ 100000) (k : Nat) (hk : k ≤ 4294967295) (hR : ∀ id, ¬ R k id) :
    Calls Try.prog 11 #[.pointer (some ⟨b, 0, none⟩), .int .u32 k] w fun e w' => e = .returned (.tuple #[.int .u32 0, .bool false]) ∧ Own X w0 w' b R c M ∧ Keep X w w' := by
  have h0 := h
  obtain ⟨F, ⟨g, j, n, T, h1, h2, h3, h4, h5, h6, h7, h8, h9, rfl⟩, M0, hf, hX⟩ := h
  have hj := small_j h4 h7 hM
  obtain ⟨hp, hT, _⟩ := h3.find_out (by omega) hR
  obtain ⟨cap, c0, _⟩ := h1.own
  have hn3 : n ≤ 1048576 := by omega
  refine (get_raw c0 k _ hp hn3 h2 (find_m h1 h2 h3 (by omega) j (by omega) h4 h5 k hk) false hT).mono fun e w' ⟨he, m⟩ => ⟨?_, OwnG.same (IsIx.stable b R c M) h0 m, m.keep fun k hk => ⟨hX k hk, by simp⟩⟩
  rw [he]; rfl

theorem own_put_old (h : Own X w0 w b R c M) (hM : M ≤ 100000) (k id : Nat) (hk : k ≤ 4294967295) (hid : id ≤ 4294967295) {old : Nat} (hR : R k old) (hR' : ∀ k' id', R' k' id' ↔ (k' = k ∧ id' = id) ∨ (k' ≠ k ∧ R k' id')) :
    Calls Try.prog 8 #[.pointer (some ⟨b, 0, none⟩), .int .u32 k, .int .u32 id] w fun e w' => e = .returned (.tuple #[.int .u32 old, .bool true]) ∧ Own X w0 w' b R' c M ∧ Keep X w w' := by
  obtain ⟨F, ⟨g, j, n, T, h1, h2, h3, h4, h5, h6, h7, h8, h9, rfl⟩, M0, hf, hX⟩ := h
  have hj := small_j h4 h7 hM
  refine (put_old h1 h2 h3 (by omega) (by omega) h4 h5 k old id hk hid hR hR').mono fun e w' ⟨he, T', k2, k3, k4⟩ => ⟨he, ?_⟩
  exact OwnG.mk (F := [b, g]) (F' := [b, g]) M0 hf hX ⟨g, j, n, T', h1.mod k4 (by simpa using fun h => h9 h.symm), k2, k3, h4, h5, h6, h7, h8, h9, rfl⟩ (k4.mono (by intro k _ hk; simp at hk; simp [hk])) (fun k hk => .inl hk)

theorem own_put_new (h : Own X w0 w b R c M) (hM : M ≤ 100000) (k id : Nat) (hk : k ≤ 4294967295) (hid : id ≤ 4294967295) (hR : ∀ old, ¬ R k old) (hR' : ∀ k' id', R' k' id' ↔ (k' = k ∧ id' = id) ∨ (k' ≠ k ∧ R k' id')) :
    Calls Try.prog 8 #[.pointer (some ⟨b, 0, none⟩), .int .u32 k, .int .u32 id] w fun e w' => e = .returned (.tuple #[.int .u32 0, .bool false]) ∧ Own X w0 w' b R' (c + 1) (M + 1) ∧ Keep X w w' := by
  obtain ⟨F, ⟨g, j, n, T, h1, h2, h3, h4, h5, h6, h7, h8, h9, rfl⟩, M0, hf, hX⟩ := h
  have hj := small_j h4 h7 hM
  have hl := h1.lt
  refine (put_new h1 h2 h3 h9 (by omega) hj h4 h5 k id hk hid hR hR').mono fun e w' ⟨he, g', n', T', k1, k2, k3, k4, k5⟩ => ⟨he, ?_⟩
  rcases k4 with ⟨rfl, rfl, hb⟩ | ⟨rfl, hg', hb⟩
  · exact OwnG.mk (F := [b, g']) (F' := [b, g']) M0 hf hX ⟨g', j, n', T', k1, k2, k3, h4, h5, by omega, by omega, by omega, h9, rfl⟩ k5 (fun k hk => .inl hk)
  · exact OwnG.mk (F := [b, g]) (F' := [b, g']) M0 hf hX ⟨g', j + 1, 2 * n, T', k1, k2, k3, by rw [h4, Nat.pow_succ]; omega, by omega, by omega, by omega, by omega, by omega, rfl⟩ k5 (by intro k hk; simp at hk; rcases hk with rfl | rfl; simp; right; exact hg')

theorem own_drop (h : Own X w0 w b R c M) (hM : M ≤ 100000) (k : Nat) (hk : k ≤ 4294967295) {old : Nat} (hR : R k old) (hR' : ∀ k' id', R' k' id' ↔ k' ≠ k ∧ R k' id') :
    Calls Try.prog 10 #[.pointer (some ⟨b, 0, none⟩), .int .u32 k] w fun e w' => e = .returned (.bool true) ∧ 1 ≤ c ∧ Own X w0 w' b R' (c - 1) M ∧ Keep X w w' := by
  obtain ⟨F, ⟨g, j, n, T, h1, h2, h3, h4, h5, h6, h7, h8, h9, rfl⟩, M0, hf, hX⟩ := h
  have hj := small_j h4 h7 hM
  refine (drop_c h1 h2 h3 h9 (by omega) (by omega) h4 h5 k old hk hR hR').mono fun e w' ⟨he, hc, T', k1, k2, k3, k5⟩ => ⟨he, hc, ?_⟩
  exact OwnG.mk (F := [b, g]) (F' := [b, g]) M0 hf hX ⟨g, j, n, T', k1, k2, k3, h4, h5, by omega, by omega, by omega, h9, rfl⟩ k5 (fun k hk => .inl hk)

theorem own_drop_none (h : Own X w0 w b R c M) (hM : M ≤ 100000) (k : Nat) (hk : k ≤ 4294967295) (hR : ∀ id, ¬ R k id) :
    Calls Try.prog 10 #[.pointer (some ⟨b, 0, none⟩), .int .u32 k] w fun e w' => e = .returned (.bool false) ∧ w = w' := by
  obtain ⟨F, ⟨g, j, n, T, h1, h2, h3, h4, h5, h6, h7, h8, h9, rfl⟩, M0, hf, hX⟩ := h
  have hj := small_j h4 h7 hM
  exact drop_none h1 h2 h3 (by omega) (by omega) h4 h5 k hk hR
end

/-! No index. -/
theorem put_nil (k id : Nat) (w : World) : Calls Try.prog 8 #[.pointer none, .int .u32 k, .int .u32 id] w fun e w' => e = .returned (.tuple #[.int .u32 0, .bool false]) ∧ w = w' := by
  go_enter Try.func8, Try.ntmps8
  go_wp2
  go_ret2
  exact ⟨rfl, rfl⟩
theorem get_nil (k : Nat) (w : World) : Calls Try.prog 11 #[.pointer none, .int .u32 k] w fun e w' => e = .returned (.tuple #[.int .u32 0, .bool false]) ∧ w = w' := by
  go_enter Try.func11, Try.ntmps11
  go_wp2
  go_ret2
  exact ⟨rfl, rfl⟩
theorem drop_nil (k : Nat) (w : World) : Calls Try.prog 10 #[.pointer none, .int .u32 k] w fun e w' => e = .returned (.bool false) ∧ w = w' := by
  go_enter Try.func10, Try.ntmps10
  go_wp2
  go_ret
  exact ⟨rfl, rfl⟩
theorem len_nil (w : World) : Calls Try.prog 9 #[.pointer none] w fun e w' => e = .returned (.int .i64 0) ∧ w = w' := by
  go_enter Try.func9, Try.ntmps9
  go_wp2
  go_ret
  exact ⟨rfl, rfl⟩
theorem clear_nil (w : World) : Calls Try.prog 19 #[.pointer none] w fun e w' => e = .returned (.tuple #[]) ∧ w = w' := by
  go_enter Try.func19, Try.ntmps19
  go_wp2
  go_end0
  exact ⟨rfl, rfl⟩
end Go.Proofs.Ytlgmmfhfoihbeaa.O

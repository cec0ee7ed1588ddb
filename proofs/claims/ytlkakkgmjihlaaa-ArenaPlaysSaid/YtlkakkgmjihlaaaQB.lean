/- Iterators with boxes of their own; none, Take: contracts. -/
import Derived.Test.YtlkakkgmjihlaaaRx
import Derived.Test.YtlkakkgmjihlaaaBI
import Derived.Test.YtlkakkgmjihlaaaRv
set_option linter.unusedVariables false
set_option linter.unusedSimpArgs false
namespace Go.Proofs.Ytlkakkgmjihlaaa
open Go.RowKit Go.Shelf
attribute [local go_sem] Oper.semAt_some

/-- What an iterator's call keeps between rounds: the caller's word J; its own boxes bs (block, value, type); the captured blocks R as in w; W: where the call began. -/
structure Bx {β : Type} (R : List Nat) (w W : World) (bs : List (Nat × Value × Nat)) (J : List Nat → β → World → Prop) (X : List Nat) (s : β) (V : World) : Prop where
  j : J (bs.map (·.1) ++ X) s V
  blk : ∀ b ∈ bs, Blk V b.1 #[b.2.1] b.2.2
  new : ∀ b ∈ bs, W.heap.size ≤ b.1
  nx : ∀ b ∈ bs, b.1 ∉ X
  kept : Keep R w V
  above : ∀ k ∈ X, W.heap.size ≤ k
  size : W.heap.size ≤ V.heap.size

theorem Bx.step {β : Type} {R : List Nat} {w W : World} {bs : List (Nat × Value × Nat)} {J : List Nat → β → World → Prop} {X X' : List Nat} {s : β} {A B : World} (h : Bx R w W bs J X s A) (hJ : Stable J) (hR : ∀ k ∈ R, k < W.heap.size)
    (m : Mod X A B) (hX : ∀ k ∈ X', (k ∈ X ∨ A.heap.size ≤ k) ∧ k < B.heap.size) : Bx R w W bs J X' s B := by
  have hs := m.size
  refine ⟨hJ _ _ _ _ _ h.j (m.mono fun k _ hk => List.mem_append_right _ hk) (fun k hk => ?_), fun b hb => (h.blk b hb).mod m (h.nx b hb), h.new, fun b hb hm => ?_, h.kept.trans (m.keep fun k hk => ⟨Nat.lt_of_lt_of_le (hR k hk) h.size, fun hm => by have := h.above k hm; have := hR k hk; omega⟩), fun k hk => ?_, Nat.le_trans h.size hs⟩
  · rcases List.mem_append.1 hk with hk | hk
    · obtain ⟨b, hb, rfl⟩ := List.mem_map.1 hk
      exact ⟨.inl (List.mem_append_left _ hk), Nat.lt_of_lt_of_le (h.blk b hb).lt hs⟩
    · obtain ⟨h1, h2⟩ := hX k hk
      exact ⟨h1.imp (List.mem_append_right _) id, h2⟩
  · rcases (hX _ hm).1 with h1 | h1
    · exact h.nx b hb h1
    · have := (h.blk b hb).lt; omega
  · rcases (hX k hk).1 with h1 | h1
    · exact h.above k h1
    · have := h.size; omega

/-- At the end the caller has its word again. -/
theorem Bx.out {β : Type} {R : List Nat} {w W : World} {bs : List (Nat × Value × Nat)} {J : List Nat → β → World → Prop} {X : List Nat} {s : β} {A B : World} (h : Bx R w W bs J X s A) (hJ : Stable J) (m : Mod X A B) : J [] s B :=
  hJ _ _ _ _ _ h.j (m.mono fun k _ hk => List.mem_append_right _ hk) (by simp)

/-- A store into the second box, ahead of yield. -/
theorem Bx.at1 {β : Type} {R : List Nat} {w W : World} {y b : Nat} {yv v : Value} {yt t : Nat} {J : List Nat → β → World → Prop} {X : List Nat} {s : β} {V : World} (h : Bx R w W [(y, yv, yt), (b, v, t)] J X s V) (hJ : Stable J) (hR : ∀ k ∈ R, k < W.heap.size)
    (hX : ∀ k ∈ X, k < V.heap.size) (v' : Value) :
    J (y :: b :: X) s (V.setCell ⟨b, 0, none⟩ v') ∧ (∀ k ∈ y :: b :: X, k < (V.setCell ⟨b, 0, none⟩ v').heap.size) ∧ Keep R w (V.setCell ⟨b, 0, none⟩ v') := by
  have m1 : Mod [b] V (V.setCell ⟨b, 0, none⟩ v') := (Mod.refl _ _).setCell _ _ (by simp)
  have hz := m1.size
  have hlt : ∀ k ∈ y :: b :: X, k < (V.setCell ⟨b, 0, none⟩ v').heap.size := by
    intro k hk
    simp only [List.mem_cons] at hk
    rcases hk with rfl | rfl | hk
    · exact Nat.lt_of_lt_of_le (h.blk _ (List.mem_cons_self ..)).lt hz
    · exact Nat.lt_of_lt_of_le (h.blk (k, v, t) (by simp)).lt hz
    · exact Nat.lt_of_lt_of_le (hX k hk) hz
  refine ⟨hJ _ _ _ _ _ h.j (m1.mono fun k _ hk => by simp at hk; simp [hk]) (fun k hk => ⟨.inl hk, hlt k hk⟩), hlt, h.kept.trans (m1.keep fun k hk => ⟨Nat.lt_of_lt_of_le (hR k hk) h.size, ?_⟩)⟩
  have h1 := h.new (b, v, t) (by simp)
  have h2 := hR k hk
  simp; simp at h1; omega

theorem Keep.mono' {X Y : List Nat} {w w' : World} (h : Keep X w w') (hs : ∀ k ∈ Y, k ∈ X) : Keep Y w w' := fun k hk => h k (hs k hk)
theorem Bx.kept2 {β : Type} {R : List Nat} {w W : World} {y b : Nat} {yv v : Value} {yt t : Nat} {J : List Nat → β → World → Prop} {X : List Nat} {s : β} {V V2 : World} (h : Bx R w W [(y, yv, yt), (b, v, t)] J X s V) (hne : y ≠ b) (hR : ∀ k ∈ R, k < W.heap.size) {v' : Value}
    (hk : Keep (R ++ y :: b :: X) (V.setCell ⟨b, 0, none⟩ v') V2) : Keep (R ++ X) V V2 := by
  have hb := h.new (b, v, t) (by simp)
  simp at hb
  have k1 : Keep (R ++ X) V (V.setCell ⟨b, 0, none⟩ v') := by
    intro k hk'
    refine Below.heap_setCell _ _ _ _ ?_
    rcases List.mem_append.1 hk' with h1 | h1
    · have := hR k h1; simp; omega
    · intro e; exact h.nx (b, v, t) (by simp) (by simp at e; rw [← e]; exact h1)
  exact k1.trans fun k hk' => hk k (by
    rcases List.mem_append.1 hk' with h1 | h1
    · exact List.mem_append_left _ h1
    · exact List.mem_append_right _ (by simp [h1]))

/-- And behind yield. -/
theorem Bx.turn2 {β : Type} {R : List Nat} {w W : World} {y b : Nat} {yv v : Value} {yt t : Nat} {J : List Nat → β → World → Prop} {X : List Nat} {s s' : β} {V V2 : World} (h : Bx R w W [(y, yv, yt), (b, v, t)] J X s V) (hne : y ≠ b) (hR : ∀ k ∈ R, k < W.heap.size) {v' : Value}
    (hs : V.heap.size ≤ V2.heap.size) (hk : Keep (R ++ y :: b :: X) (V.setCell ⟨b, 0, none⟩ v') V2) (hj : J (y :: b :: X) s' V2) : Bx R w W [(y, yv, yt), (b, v', t)] J X s' V2 ∧ Keep (R ++ X) V V2 := by
  have m1 : Mod [b] V (V.setCell ⟨b, 0, none⟩ v') := (Mod.refl _ _).setCell _ _ (by simp)
  have hb := h.new (b, v, t) (by simp)
  simp at hb
  have k1 : Keep (R ++ X) V (V.setCell ⟨b, 0, none⟩ v') := by
    intro k hk'
    refine Below.heap_setCell _ _ _ _ ?_
    rcases List.mem_append.1 hk' with h1 | h1
    · have := hR k h1; simp; omega
    · intro e; exact h.nx (b, v, t) (by simp) (by simp at e; rw [← e]; exact h1)
  have k2 : Keep (R ++ X) (V.setCell ⟨b, 0, none⟩ v') V2 := fun k hk' => hk k (by
    rcases List.mem_append.1 hk' with h1 | h1
    · exact List.mem_append_left _ h1
    · exact List.mem_append_right _ (by simp [h1]))
  have k3 := k1.trans k2
  refine ⟨⟨hj, ?_, ?_, ?_, h.kept.trans (fun k hk' => k3 k (List.mem_append_left _ hk')), h.above, Nat.le_trans h.size hs⟩, k3⟩
  · intro c hc
    simp only [List.mem_cons, List.not_mem_nil, or_false] at hc
    rcases hc with rfl | rfl
    · exact ((h.blk _ (List.mem_cons_self ..)).other _ _ (by simpa using hne)).keep hk (by simp)
    · have h1 := (h.blk (b, v, t) (by simp)).set 0 v'
      have h2 := h1.keep hk (by simp)
      simpa using h2
  · intro c hc
    simp only [List.mem_cons, List.not_mem_nil, or_false] at hc
    rcases hc with rfl | rfl
    · exact h.new _ (List.mem_cons_self ..)
    · exact hb
  · intro c hc
    simp only [List.mem_cons, List.not_mem_nil, or_false] at hc
    rcases hc with rfl | rfl
    · exact h.nx _ (List.mem_cons_self ..)
    · exact h.nx (b, v, t) (by simp)

theorem equalIn_func (w : World) (d : Nat) (f : Fn) (rs lb : Array Value) : (Op.equalIn (d + 1) 60 (.func f rs lb) .nilFunc).run Try.prog w = .ok false w := by
  simp [Op.equalIn, run_underlying Try.underlying60]
theorem eql_func (w : World) (f : Fn) (rs lb : Array Value) : (binOp .eql 60 (.func f rs lb) .nilFunc).run Try.prog w = .ok (.bool false) w := by
  simp only [binOp]
  simp [Op.equal, Op.maxDepth, equalIn_func w 9999 f rs lb]

theorem none_c (g : Nat) (lb : Array Value) (w : World) : Calls Try.prog 37 #[.func (.func g) #[] lb] w fun e w' => e = .returned (.func (.func g) #[] lb) ∧ w = w' := by
  have he := eql_func
  go_enter Try.func37, Try.ntmps37
  go_wp2
  go_ret
  exact ⟨rfl, rfl⟩

/-- A row that may be nil: what 'none' makes of it. -/
def NoneTo (sv : Value) (g : Nat) (lb : Array Value) : Prop :=
  sv.oneCell' = true ∧ ∀ w : World, Calls Try.prog 37 #[sv] w fun e w' => e = .returned (.func (.func g) #[] lb) ∧ w = w'
theorem NoneTo.func (g : Nat) (lb : Array Value) : NoneTo (.func (.func g) #[] lb) g lb := ⟨rfl, none_c g lb⟩
theorem equalIn_nilf (w : World) (d : Nat) : (Op.equalIn (d + 1) 60 .nilFunc .nilFunc).run Try.prog w = .ok true w := by
  simp [Op.equalIn, run_underlying Try.underlying60]
theorem NoneTo.nil : NoneTo .nilFunc 38 #[] := ⟨rfl, fun w => by
  have he : (binOp .eql 60 .nilFunc .nilFunc).run Try.prog w = .ok (.bool true) w := by
    simp only [binOp]
    simp [Op.equal, Op.maxDepth, equalIn_nilf w 9999]
  go_enter Try.func37, Try.ntmps37
  go_wp2
  go_ret
  exact ⟨rfl, rfl⟩⟩

theorem take_mk (s : Value) (n : Int) (hs : s.oneCell' = true) (w : World) : Calls Try.prog 34 #[s, .int .i64 n] w fun e w' => e = .returned (.func (.func 36) #[] #[.pointer (some ⟨w.heap.size + 1, 0, none⟩), .pointer (some ⟨w.heap.size, 0, none⟩)]) ∧ w' = (w.alloc (.cells #[s] 60)).alloc (.cells #[.int .i64 n] 3) := by
  go_enter Try.func34, Try.ntmps34
  go_wp2
  go_ret
  exact ⟨rfl, rfl⟩
end Go.Proofs.Ytlkakkgmjihlaaa

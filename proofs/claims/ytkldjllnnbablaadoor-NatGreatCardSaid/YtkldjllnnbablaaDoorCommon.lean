/- Small lemmas on worlds and blocks, shared by the walks: 'Mod S w w'': but for the blocks in S the old blocks are as they were. -/
import Derived.Test.YtkldjllnnbablaaDoorRows
import Derived.WalkKit
import Derived.Deep.QuietTactic
import Derived.BigQuiet
import Derived.StillTailTactics
import Derived.WalkLawsBesides
import Derived.WalkSpells
import Derived.Outline
import Derived.Handy
import Derived.PlainAid
import Derived.Deep.RegionWith
import Derived.Lib.Hide
set_option linter.unusedVariables false
set_option linter.unusedSimpArgs false
namespace Go.Proofs.YtkldjllnnbablaaDoor
open Go.RowKit

/-- Block b of w is a row of cells c, of element type t, none of them frozen. -/
def Blk (w : World) (b : Nat) (c : Array Value) (t : TypeId) : Prop := w.heap[b]? = some (.cells c t (0, 0))

theorem Blk.cell {w : World} {b : Nat} {c : Array Value} {t : TypeId} (h : Blk w b c t) (i : Nat) : w.cell? ⟨b, i, none⟩ = c[i]? := by
  unfold Blk at h; simp [World.cell?, h]
theorem Blk.froz {w : World} {b : Nat} {c : Array Value} {t : TypeId} (h : Blk w b c t) (i : Nat) : w.frozen? ⟨b, i, none⟩ = false := by
  unfold Blk at h; simp [World.frozen?, h]
theorem Blk.lt {w : World} {b : Nat} {c : Array Value} {t : TypeId} (h : Blk w b c t) : b < w.heap.size := by
  unfold Blk at h; exact (Array.getElem?_eq_some_iff.1 h).1
theorem Blk.new (w : World) (c : Array Value) (t : TypeId) : Blk (w.alloc (.cells c t)) w.heap.size c t := by
  unfold Blk World.alloc; simp
theorem Blk.new' (w : World) (c : Array Value) (t : TypeId) (b : Nat) (hb : b = w.heap.size) : Blk (w.alloc (.cells c t)) b c t := by
  subst hb; exact Blk.new w c t
theorem Blk.alloc {w : World} {b : Nat} {c : Array Value} {t : TypeId} (h : Blk w b c t) (o : Obj) : Blk (w.alloc o) b c t := by
  have hl := h.lt
  unfold Blk at *; rw [Below.heap_alloc _ _ _ hl]; exact h
theorem Blk.drew {w : World} {b : Nat} {c : Array Value} {t : TypeId} (h : Blk w b c t) : Blk w.drew b c t := h
theorem Blk.drewN {w : World} {b : Nat} {c : Array Value} {t : TypeId} (h : Blk w b c t) (n : Nat) : Blk (w.drewN n) b c t := h
theorem Blk.set {w : World} {b : Nat} {c : Array Value} {t : TypeId} (h : Blk w b c t) (i : Nat) (v : Value) : Blk (w.setCell ⟨b, i, none⟩ v) b (c.setIfInBounds i v) t := by
  unfold Blk at *; simp [World.setCell, Array.getElem?_modify, h]
theorem Blk.other {w : World} {b : Nat} {c : Array Value} {t : TypeId} (h : Blk w b c t) (a : Addr) (v : Value) (hne : b ≠ a.block) : Blk (w.setCell a v) b c t := by
  unfold Blk at *; rw [Below.heap_setCell _ _ _ _ hne]; exact h

/-- Old blocks outside S are as they were; the streams too; no block has gone. -/
structure Mod (S : List Nat) (w w' : World) : Prop where
  os : w'.os = w.os
  tape : w'.tape = w.tape
  output : w'.output = w.output
  size : w.heap.size ≤ w'.heap.size
  block : ∀ k, k < w.heap.size → k ∉ S → w'.heap[k]? = w.heap[k]?

theorem Mod.refl (S : List Nat) (w : World) : Mod S w w := ⟨rfl, rfl, rfl, Nat.le_refl _, fun _ _ _ => rfl⟩
theorem Mod.mono {S S' : List Nat} {w w' : World} (h : Mod S w w') (hs : ∀ k, k < w.heap.size → k ∈ S → k ∈ S') : Mod S' w w' :=
  ⟨h.os, h.tape, h.output, h.size, fun k hk hn => h.block k hk (fun hm => hn (hs k hk hm))⟩
/-- Two steps: the second may touch blocks that the first has made. -/
theorem Mod.trans {S S' : List Nat} {a b c : World} (h : Mod S a b) (k : Mod S' b c) (hs : ∀ i, i < a.heap.size → i ∈ S' → i ∈ S) : Mod S a c :=
  ⟨k.os.trans h.os, k.tape.trans h.tape, k.output.trans h.output, Nat.le_trans h.size k.size,
    fun i hi hn => (k.block i (Nat.lt_of_lt_of_le hi h.size) (fun hm => hn (hs i hi hm))).trans (h.block i hi hn)⟩
theorem Mod.trans' {S : List Nat} {a b c : World} (h : Mod S a b) (k : Mod S b c) : Mod S a c := h.trans k (fun _ _ hm => hm)
theorem Mod.drew {S : List Nat} {a w : World} (h : Mod S a w) : Mod S a w.drew := ⟨h.os, h.tape, h.output, h.size, h.block⟩
theorem Mod.drewN {S : List Nat} {a w : World} (h : Mod S a w) (n : Nat) : Mod S a (w.drewN n) := ⟨h.os, h.tape, h.output, h.size, h.block⟩
theorem Mod.alloc {S : List Nat} {a w : World} (h : Mod S a w) (o : Obj) : Mod S a (w.alloc o) :=
  ⟨h.os, h.tape, h.output, by have := h.size; simp; omega, fun k hk hn => (Below.heap_alloc _ _ _ (Nat.lt_of_lt_of_le hk h.size)).trans (h.block k hk hn)⟩
theorem Mod.setCell {S : List Nat} {a w : World} (h : Mod S a w) (p : Addr) (u : Value) (hp : p.block < a.heap.size → p.block ∈ S) : Mod S a (w.setCell p u) :=
  ⟨h.os, h.tape, h.output, by have := h.size; simp [World.setCell]; omega,
    fun k hk hn => (Below.heap_setCell _ _ _ _ (fun e => hn (by rw [e]; exact hp (by rw [← e]; exact hk)))).trans (h.block k hk hn)⟩
theorem Mod.grown {S : List Nat} {a w w' : World} {row : Option Nat} (h : Mod S a w) (hg : w.grownBy w' row) (hr : ∀ k, row = some k → k < a.heap.size → k ∈ S) : Mod S a w' :=
  ⟨hg.os.trans h.os, hg.tape.trans h.tape, hg.output.trans h.output, Nat.le_trans h.size hg.size,
    fun k hk hn => (hg.block k (Nat.lt_of_lt_of_le hk h.size) (fun e => hn (hr k e.symm hk))).trans (h.block k hk hn)⟩
theorem Mod.grownBy {S : List Nat} {w w' : World} (h : Mod S w w') (row : Option Nat) (hs : ∀ k ∈ S, row = some k) : w.grownBy w' row :=
  ⟨h.os, h.tape, h.output, h.size, fun k hk hn => h.block k hk (fun hm => hn (hs k hm).symm)⟩
theorem Mod.below {S : List Nat} {w w' : World} (h : Mod S w w') (B : Nat) (hB : B ≤ w.heap.size) (hs : ∀ k ∈ S, B ≤ k) : Below B w w' :=
  ⟨h.os, h.tape, h.output, h.size, fun k hk => h.block k (by omega) (fun hm => by have := hs k hm; omega)⟩
theorem Mod.of_below {w w' : World} (h : Below w.heap.size w w') : Mod [] w w' := ⟨h.os, h.tape, h.output, h.size, fun k hk _ => h.block k hk⟩
theorem Mod.cell {S : List Nat} {w w' : World} (h : Mod S w w') {a : Addr} (ha : a.block < w.heap.size) (hn : a.block ∉ S) : w'.cell? a = w.cell? a :=
  World.cell?_of_block (h.block _ ha hn)
theorem Mod.froz {S : List Nat} {w w' : World} (h : Mod S w w') {a : Addr} (ha : a.block < w.heap.size) (hn : a.block ∉ S) : w'.frozen? a = w.frozen? a :=
  World.frozen?_of_block (h.block _ ha hn)
theorem Blk.mod {S : List Nat} {w w' : World} {b : Nat} {c : Array Value} {t : TypeId} (h : Blk w b c t) (m : Mod S w w') (hn : b ∉ S) : Blk w' b c t := by
  have hl := h.lt
  unfold Blk at *; rw [m.block b hl hn]; exact h

/-- Block g is a row of n cells of type t, cell i holding f i. -/
def Row (w : World) (g : Nat) (t : TypeId) (n : Nat) (f : Nat → Value) : Prop := ∃ A, Blk w g A t ∧ A.size = n ∧ ∀ i, i < n → A[i]? = some (f i)

theorem Row.cell {w : World} {g : Nat} {t : TypeId} {n : Nat} {f : Nat → Value} (h : Row w g t n f) (i : Nat) (hi : i < n) : w.cell? ⟨g, i, none⟩ = some (f i) := by
  obtain ⟨A, hb, hs, hf⟩ := h; rw [hb.cell]; exact hf i hi
theorem Row.froz {w : World} {g : Nat} {t : TypeId} {n : Nat} {f : Nat → Value} (h : Row w g t n f) (i : Nat) : w.frozen? ⟨g, i, none⟩ = false := by
  obtain ⟨A, hb, _⟩ := h; exact hb.froz i
theorem Row.lt {w : World} {g : Nat} {t : TypeId} {n : Nat} {f : Nat → Value} (h : Row w g t n f) : g < w.heap.size := by
  obtain ⟨A, hb, _⟩ := h; exact hb.lt
theorem Row.mod {S : List Nat} {w w' : World} {g : Nat} {t : TypeId} {n : Nat} {f : Nat → Value} (h : Row w g t n f) (m : Mod S w w') (hn : g ∉ S) : Row w' g t n f := by
  obtain ⟨A, hb, hs, hf⟩ := h; exact ⟨A, hb.mod m hn, hs, hf⟩
theorem Row.set {w : World} {g : Nat} {t : TypeId} {n : Nat} {f : Nat → Value} (h : Row w g t n f) (i : Nat) (v : Value) : Row (w.setCell ⟨g, i, none⟩ v) g t n (fun j => if j = i then v else f j) := by
  obtain ⟨A, hb, hs, hf⟩ := h
  refine ⟨_, hb.set i v, by simpa using hs, fun j hj => ?_⟩
  by_cases e : j = i
  · subst e; simp [hs, hj]
  · have e' : ¬ i = j := fun x => e x.symm
    simp [Array.getElem?_setIfInBounds, e, e', hf j hj]
theorem Row.congr {w : World} {g : Nat} {t : TypeId} {n : Nat} {f f' : Nat → Value} (h : Row w g t n f) (e : ∀ i, i < n → f i = f' i) : Row w g t n f' := by
  obtain ⟨A, hb, hs, hf⟩ := h; exact ⟨A, hb, hs, fun i hi => by rw [hf i hi, e i hi]⟩
theorem Row.made (w : World) (n : Nat) (z : Value) (t : TypeId) (g : Nat) (hg : g = w.heap.size) : Row (w.alloc (.cells (madeCells #[z] n) t)) g t n (fun _ => z) :=
  ⟨_, Blk.new' _ _ _ _ hg, size_madeCells _ _, fun i hi => by simp [madeCells, hi, Nat.mod_one]⟩

/-- The blocks of X are as they were. -/
def Keep (X : List Nat) (w w' : World) : Prop := ∀ k ∈ X, w'.heap[k]? = w.heap[k]?
theorem Keep.refl (X : List Nat) (w : World) : Keep X w w := fun _ _ => rfl
theorem Keep.trans {X : List Nat} {a b c : World} (h : Keep X a b) (k : Keep X b c) : Keep X a c := fun i hi => (k i hi).trans (h i hi)
theorem Blk.keep {X : List Nat} {w w' : World} {b : Nat} {c : Array Value} {t : TypeId} (h : Blk w b c t) (m : Keep X w w') (hb : b ∈ X) : Blk w' b c t := by
  unfold Blk at *; rw [m b hb]; exact h
theorem Row.keep {X : List Nat} {w w' : World} {g : Nat} {t : TypeId} {n : Nat} {f : Nat → Value} (h : Row w g t n f) (m : Keep X w w') (hb : g ∈ X) : Row w' g t n f := by
  obtain ⟨A, hb', r⟩ := h; exact ⟨A, hb'.keep m hb, r⟩
theorem Mod.keep {S X : List Nat} {w w' : World} (m : Mod S w w') (h : ∀ k ∈ X, k < w.heap.size ∧ k ∉ S) : Keep X w w' := fun k hk => m.block k (h k hk).1 (h k hk).2

/-- A slice of integers that came in: its numbers. -/
def IntRow (k : IntKind) (w : World) (a : Option Addr) (len cap : Nat) (z : Nat → Int) : Prop :=
  len ≤ cap ∧ ∀ i, i < len → ∃ b off, a = some ⟨b, off, none⟩ ∧ b < w.heap.size ∧ w.cell? ⟨b, off + i, none⟩ = some (.int k (z i)) ∧ (Lit.int k (z i)).wf = true
/-- A slice of structs of integers that came in: the numbers of its fields. -/
def Recs (w : World) (a : Option Addr) (len cap : Nat) (ks : List IntKind) (z : Nat → Nat → Int) : Prop :=
  len ≤ cap ∧ ∀ i, i < len → ∃ b off, a = some ⟨b, off, none⟩ ∧ b < w.heap.size ∧ ∀ j k, ks[j]? = some k → w.cell? ⟨b, off + i * ks.length + j, none⟩ = some (.int k (z i j)) ∧ (Lit.int k (z i j)).wf = true

theorem Recs.at3 {w : World} {a : Option Addr} {len cap : Nat} {k0 k1 k2 : IntKind} {z : Nat → Nat → Int} (h : Recs w a len cap [k0, k1, k2] z) (i : Nat) (hi : i < len) :
    ∃ b off, a = some ⟨b, off, none⟩ ∧ b < w.heap.size ∧ (w.cell? ⟨b, off + i * 3, none⟩ = some (.int k0 (z i 0)) ∧ w.cell? ⟨b, off + i * 3 + 1, none⟩ = some (.int k1 (z i 1)) ∧ w.cell? ⟨b, off + i * 3 + 2, none⟩ = some (.int k2 (z i 2))) ∧
      (Lit.int k0 (z i 0)).wf = true ∧ (Lit.int k1 (z i 1)).wf = true ∧ (Lit.int k2 (z i 2)).wf = true := by
  obtain ⟨b, off, ha, hb, hc⟩ := h.2 i hi
  have h0 := hc 0 k0 rfl
  have h1 := hc 1 k1 rfl
  have h2 := hc 2 k2 rfl
  exact ⟨b, off, ha, hb, ⟨h0.1, h1.1, h2.1⟩, h0.2, h1.2, h2.2⟩
end Go.Proofs.YtkldjllnnbablaaDoor

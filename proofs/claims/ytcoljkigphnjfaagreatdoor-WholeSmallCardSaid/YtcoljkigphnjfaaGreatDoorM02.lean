/- node: One, Right. · node: the hash of a key. · Open addressing in plain words: slots in a ring, each key as near behind its hash's place as can be. · How many keys there are, and the table as a relation of keys and numbers. · '==' of edges, records and keys. · Numbers as digits in a base, the lowest first: values, what is canonical, how two are told apart. No program. -/
import Derived.Test.YtcoljkigphnjfaaGreatDoorM01
set_option linter.unusedVariables false
set_option linter.unusedSimpArgs false
namespace Go.Proofs.YtcoljkigphnjfaaGreatDoor
open Go.RowKit

def oneE (f n : Nat) : Ed := if f = 5 then ⟨n, 1⟩ else ⟨0, 1⟩
theorem one_c (f : Nat) (h1 : 1 ≤ f) (h5 : f ≤ 5) (n : Nat) (hn : n ≤ 16) (w : World) :
    Calls Tryz.prog 78 #[.int .u8 f, .int .i64 n] w fun e' w' => e' = .returned (edv (oneE f n)) ∧ Mod [] w w' := by
  have IF := Lib.hid (isForm_c f h1 h5)
  have MY := Lib.hid (nodeMay_c n hn)
  have hn' : (n : Int) ≤ 255 := by omega
  unfold edv oneE
  by_cases q5 : f = 5
  · subst q5
    go_enter Tryz.func78, Tryz.ntmps78
    go_wp2_with fail
    refine (IF.out _).mono ?_
    rintro e w1 ⟨rfl, rfl⟩
    go_wp2_with fail
    refine (MY.out _).mono ?_
    rintro e w1 ⟨rfl, rfl⟩
    go_wp2_with fail
    go_returns
    exact ⟨rfl, by (repeat (first | exact Mod.refl _ _ | apply Mod.drew | apply Mod.drewN | apply Mod.alloc | refine Mod.setCell ?_ _ _ (by first | simp | (simp; omega))))⟩
  · have h5' : ((f : Int) == 5) = false := by rw [beq_eq_false_iff_ne]; omega
    have h5n : ¬ (f : Int) = 5 := by omega
    rw [if_neg q5]
    go_enter Tryz.func78, Tryz.ntmps78
    go_wp2_with fail
    refine (IF.out _).mono ?_
    rintro e w1 ⟨rfl, rfl⟩
    go_wp2_with fail
    refine (MY.out _).mono ?_
    rintro e w1 ⟨rfl, rfl⟩
    go_wp2_with fail
    go_returns
    exact ⟨rfl, by (repeat (first | exact Mod.refl _ _ | apply Mod.drew | apply Mod.drewN | apply Mod.alloc | refine Mod.setCell ?_ _ _ (by first | simp | (simp; omega))))⟩

/-- A node's record. -/
structure Rc where
  f : Nat
  top : Nat
  bot : Nat
  lo : Ed
  hi : Ed
  deriving DecidableEq
def rcv (r : Rc) : Value := .agg #[.int .u8 r.f, .int .u8 r.top, .int .u8 r.bot, .int .u8 r.lo.t, .int .u32 r.lo.a, .int .u8 r.hi.t, .int .u32 r.hi.a]
/-- May a record be? -/
structure RightR (r : Rc) (n : Nat) : Prop where
  f1 : 1 ≤ r.f
  f5 : r.f ≤ 5
  tb : r.top ≤ r.bot
  bn : r.bot < n
  n16 : n ≤ 16
  ch : r.top = r.bot ∨ r.f = 3 ∨ r.f = 4
  lo : PlainE r.f r.lo (r.bot + 1) n
  hi : PlainE r.f r.hi (r.bot + 1) n
  z : r.f = 2 ∨ r.f = 4 → r.hi.a ≠ 0
  b : r.f ≠ 2 → r.f ≠ 4 → r.lo ≠ r.hi

theorem Blk.cells7 {w : World} {g : Nat} {a b c d e f h : Value} {t : TypeId} (B : Blk w g #[a, b, c, d, e, f, h] t) :
    w.cell? ⟨g, 0, none⟩ = some a ∧ w.cell? ⟨g, 1, none⟩ = some b ∧ w.cell? ⟨g, 2, none⟩ = some c ∧ w.cell? ⟨g, 3, none⟩ = some d ∧ w.cell? ⟨g, 4, none⟩ = some e ∧ w.cell? ⟨g, 5, none⟩ = some f ∧ w.cell? ⟨g, 6, none⟩ = some h := by
  refine ⟨?_, ?_, ?_, ?_, ?_, ?_, ?_⟩ <;> (rw [B.cell]; rfl)

set_option maxRecDepth 100000 in
set_option maxHeartbeats 1000000 in
theorem right_c (r : Rc) (n : Nat) (h : RightR r n) (w : World) :
    Calls Tryz.prog 197 #[rcv r, .int .i64 n] w fun e' w' => e' = .returned (.bool true) ∧ Mod [] w w' := by
  obtain ⟨f, top, bot, ⟨lt, la⟩, ⟨ht, ha⟩⟩ := r
  obtain ⟨f1, f5, tb, bn, n16, ch, lo, hi, z, b⟩ := h
  simp only at f1 f5 tb bn ch lo hi z b
  have IF := Lib.hid (isForm_c f f1 f5)
  have MY := Lib.hid (nodeMay_c n n16)
  have PL := Lib.hid (plain_c f f1 f5 ⟨lt, la⟩ (bot + 1) n (by omega) n16 lo)
  have PH := Lib.hid (plain_c f f1 f5 ⟨ht, ha⟩ (bot + 1) n (by omega) n16 hi)
  have tb' : (top : Int) ≤ bot := by omega
  have bn' : (bot : Int) < n := by omega
  have n16' : (n : Int) ≤ 16 := by omega
  clear lo hi
  unfold rcv
  unfold edv at PL PH
  simp only at PL PH ⊢
  rcases Decidable.em (f = 2) with q2 | q2
  · subst q2
    have hz2 := z (by omega)
    have ha0 : ((ha : Int) != 0) = true := by rw [bne_iff_ne]; omega
    have ha1 : ¬ (ha : Int) = 0 := by omega
    have htb : top = bot := by omega
    clear b z ch
    subst htb
    obtain ⟨g, hg⟩ : ∃ g, w.heap.size = g := ⟨_, rfl⟩
    have BB : Hid (Blk (w.alloc (.cells #[.int .u8 (2 : Nat), .int .u8 top, .int .u8 top, .int .u8 lt, .int .u32 la, .int .u8 ht, .int .u32 ha] 108)) g #[.int .u8 (2 : Nat), .int .u8 top, .int .u8 top, .int .u8 lt, .int .u32 la, .int .u8 ht, .int .u32 ha] 108) := Blk.new' _ _ _ _ hg.symm
    have MM : Hid (Mod [] w (w.alloc (.cells #[.int .u8 (2 : Nat), .int .u8 top, .int .u8 top, .int .u8 lt, .int .u32 la, .int .u8 ht, .int .u32 ha] 108))) := (Mod.refl _ _).alloc _
    go_enter Tryz.func197, Tryz.ntmps197
    go_wp2_with fail
    go_quiet (fail)
    go_wp2_with fail
    refine (IF.out _).mono ?_
    rintro e w1 ⟨rfl, rfl⟩
    go_wp2_with fail
    refine (MY.out _).mono ?_
    rintro e w1 ⟨rfl, rfl⟩
    go_wp2_with fail
    refine (PL.out _).mono ?_
    rintro e w2 ⟨rfl, m2⟩
    replace BB := Lib.hid ((BB.out.drewN _).mod m2 (by simp))
    replace MM := Lib.hid ((MM.out.drewN _).trans' m2)
    obtain ⟨c0, c1, c2, c3, c4, c5, c6⟩ := BB.out.cells7
    clear m2
    go_wp2_with fail
    refine (PH.out _).mono ?_
    rintro e w3 ⟨rfl, m3⟩
    clear c0 c1 c2 c3 c4 c5 c6
    replace BB := Lib.hid (BB.out.mod m3 (by simp))
    replace MM := Lib.hid (MM.out.trans' m3)
    obtain ⟨c0, c1, c2, c3, c4, c5, c6⟩ := BB.out.cells7
    clear m3
    go_wp2_with fail
    go_ret
    exact ⟨rfl, MM.out⟩
  rcases Decidable.em (f = 4) with q4 | q4
  · subst q4
    have hz2 := z (by omega)
    have ha0 : ((ha : Int) != 0) = true := by rw [bne_iff_ne]; omega
    have ha1 : ¬ (ha : Int) = 0 := by omega
    clear b z ch q2
    by_cases htb : top = bot
    · skip
      subst htb
      obtain ⟨g, hg⟩ : ∃ g, w.heap.size = g := ⟨_, rfl⟩
      have BB : Hid (Blk (w.alloc (.cells #[.int .u8 (4 : Nat), .int .u8 top, .int .u8 top, .int .u8 lt, .int .u32 la, .int .u8 ht, .int .u32 ha] 108)) g #[.int .u8 (4 : Nat), .int .u8 top, .int .u8 top, .int .u8 lt, .int .u32 la, .int .u8 ht, .int .u32 ha] 108) := Blk.new' _ _ _ _ hg.symm
      have MM : Hid (Mod [] w (w.alloc (.cells #[.int .u8 (4 : Nat), .int .u8 top, .int .u8 top, .int .u8 lt, .int .u32 la, .int .u8 ht, .int .u32 ha] 108))) := (Mod.refl _ _).alloc _
      go_enter Tryz.func197, Tryz.ntmps197
      go_wp2_with fail
      go_quiet (fail)
      go_wp2_with fail
      refine (IF.out _).mono ?_
      rintro e w1 ⟨rfl, rfl⟩
      go_wp2_with fail
      refine (MY.out _).mono ?_
      rintro e w1 ⟨rfl, rfl⟩
      go_wp2_with fail
      refine (PL.out _).mono ?_
      rintro e w2 ⟨rfl, m2⟩
      replace BB := Lib.hid ((BB.out.drewN _).mod m2 (by simp))
      replace MM := Lib.hid ((MM.out.drewN _).trans' m2)
      obtain ⟨c0, c1, c2, c3, c4, c5, c6⟩ := BB.out.cells7
      clear m2
      go_wp2_with fail
      refine (PH.out _).mono ?_
      rintro e w3 ⟨rfl, m3⟩
      clear c0 c1 c2 c3 c4 c5 c6
      replace BB := Lib.hid (BB.out.mod m3 (by simp))
      replace MM := Lib.hid (MM.out.trans' m3)
      obtain ⟨c0, c1, c2, c3, c4, c5, c6⟩ := BB.out.cells7
      clear m3
      go_wp2_with fail
      go_ret
      exact ⟨rfl, MM.out⟩
    · skip
      have CH := Lib.hid (chained_c 4 true (decide_eq_true (by omega)))
      have htb1 : ((top : Int) != bot) = true := by rw [bne_iff_ne]; omega
      have htb2 : ¬ (top : Int) = bot := by omega
      clear htb
      obtain ⟨g, hg⟩ : ∃ g, w.heap.size = g := ⟨_, rfl⟩
      have BB : Hid (Blk (w.alloc (.cells #[.int .u8 (4 : Nat), .int .u8 top, .int .u8 bot, .int .u8 lt, .int .u32 la, .int .u8 ht, .int .u32 ha] 108)) g #[.int .u8 (4 : Nat), .int .u8 top, .int .u8 bot, .int .u8 lt, .int .u32 la, .int .u8 ht, .int .u32 ha] 108) := Blk.new' _ _ _ _ hg.symm
      have MM : Hid (Mod [] w (w.alloc (.cells #[.int .u8 (4 : Nat), .int .u8 top, .int .u8 bot, .int .u8 lt, .int .u32 la, .int .u8 ht, .int .u32 ha] 108))) := (Mod.refl _ _).alloc _
      go_enter Tryz.func197, Tryz.ntmps197
      go_wp2_with fail
      go_quiet (fail)
      go_wp2_with fail
      refine (IF.out _).mono ?_
      rintro e w1 ⟨rfl, rfl⟩
      go_wp2_with fail
      refine (MY.out _).mono ?_
      rintro e w1 ⟨rfl, rfl⟩
      go_wp2_with fail
      refine (CH.out _).mono ?_
      rintro e w1 ⟨rfl, rfl⟩
      go_wp2_with fail
      refine (PL.out _).mono ?_
      rintro e w2 ⟨rfl, m2⟩
      replace BB := Lib.hid ((BB.out.drewN _).mod m2 (by simp))
      replace MM := Lib.hid ((MM.out.drewN _).trans' m2)
      obtain ⟨c0, c1, c2, c3, c4, c5, c6⟩ := BB.out.cells7
      clear m2
      go_wp2_with fail
      refine (PH.out _).mono ?_
      rintro e w3 ⟨rfl, m3⟩
      clear c0 c1 c2 c3 c4 c5 c6
      replace BB := Lib.hid (BB.out.mod m3 (by simp))
      replace MM := Lib.hid (MM.out.trans' m3)
      obtain ⟨c0, c1, c2, c3, c4, c5, c6⟩ := BB.out.cells7
      clear m3
      go_wp2_with fail
      go_ret
      exact ⟨rfl, MM.out⟩
  have hb := b q2 q4
  have hf2 : ((f : Int) == 2) = false := by rw [beq_eq_false_iff_ne]; omega
  have hf4 : ((f : Int) == 4) = false := by rw [beq_eq_false_iff_ne]; omega
  have hf2' : ¬ (f : Int) = 2 := by omega
  have hf4' : ¬ (f : Int) = 4 := by omega
  clear b z
  by_cases hlt : lt = ht
  · subst hlt
    have hla : ¬ la = ha := fun e => hb (by rw [e])
    have hla1 : ((la : Int) == ha) = false := by rw [beq_eq_false_iff_ne]; omega
    have hla2 : ¬ (la : Int) = ha := by omega
    clear hb hla
    by_cases htb : top = bot
    · skip
      subst htb
      obtain ⟨g, hg⟩ : ∃ g, w.heap.size = g := ⟨_, rfl⟩
      have BB : Hid (Blk (w.alloc (.cells #[.int .u8 f, .int .u8 top, .int .u8 top, .int .u8 lt, .int .u32 la, .int .u8 lt, .int .u32 ha] 108)) g #[.int .u8 f, .int .u8 top, .int .u8 top, .int .u8 lt, .int .u32 la, .int .u8 lt, .int .u32 ha] 108) := Blk.new' _ _ _ _ hg.symm
      have MM : Hid (Mod [] w (w.alloc (.cells #[.int .u8 f, .int .u8 top, .int .u8 top, .int .u8 lt, .int .u32 la, .int .u8 lt, .int .u32 ha] 108))) := (Mod.refl _ _).alloc _
      go_enter Tryz.func197, Tryz.ntmps197
      go_wp2_with fail
      go_quiet (fail)
      go_wp2_with fail
      refine (IF.out _).mono ?_
      rintro e w1 ⟨rfl, rfl⟩
      go_wp2_with fail
      refine (MY.out _).mono ?_
      rintro e w1 ⟨rfl, rfl⟩
      go_wp2_with fail
      refine (PL.out _).mono ?_
      rintro e w2 ⟨rfl, m2⟩
      replace BB := Lib.hid ((BB.out.drewN _).mod m2 (by simp))
      replace MM := Lib.hid ((MM.out.drewN _).trans' m2)
      obtain ⟨c0, c1, c2, c3, c4, c5, c6⟩ := BB.out.cells7
      clear m2
      go_wp2_with fail
      refine (PH.out _).mono ?_
      rintro e w3 ⟨rfl, m3⟩
      clear c0 c1 c2 c3 c4 c5 c6
      replace BB := Lib.hid (BB.out.mod m3 (by simp))
      replace MM := Lib.hid (MM.out.trans' m3)
      obtain ⟨c0, c1, c2, c3, c4, c5, c6⟩ := BB.out.cells7
      clear m3
      go_wp2_with fail
      go_ret
      exact ⟨rfl, MM.out⟩
    · skip
      have CH := Lib.hid (chained_c f true (decide_eq_true (by omega)))
      have htb1 : ((top : Int) != bot) = true := by rw [bne_iff_ne]; omega
      have htb2 : ¬ (top : Int) = bot := by omega
      clear htb
      obtain ⟨g, hg⟩ : ∃ g, w.heap.size = g := ⟨_, rfl⟩
      have BB : Hid (Blk (w.alloc (.cells #[.int .u8 f, .int .u8 top, .int .u8 bot, .int .u8 lt, .int .u32 la, .int .u8 lt, .int .u32 ha] 108)) g #[.int .u8 f, .int .u8 top, .int .u8 bot, .int .u8 lt, .int .u32 la, .int .u8 lt, .int .u32 ha] 108) := Blk.new' _ _ _ _ hg.symm
      have MM : Hid (Mod [] w (w.alloc (.cells #[.int .u8 f, .int .u8 top, .int .u8 bot, .int .u8 lt, .int .u32 la, .int .u8 lt, .int .u32 ha] 108))) := (Mod.refl _ _).alloc _
      go_enter Tryz.func197, Tryz.ntmps197
      go_wp2_with fail
      go_quiet (fail)
      go_wp2_with fail
      refine (IF.out _).mono ?_
      rintro e w1 ⟨rfl, rfl⟩
      go_wp2_with fail
      refine (MY.out _).mono ?_
      rintro e w1 ⟨rfl, rfl⟩
      go_wp2_with fail
      refine (CH.out _).mono ?_
      rintro e w1 ⟨rfl, rfl⟩
      go_wp2_with fail
      refine (PL.out _).mono ?_
      rintro e w2 ⟨rfl, m2⟩
      replace BB := Lib.hid ((BB.out.drewN _).mod m2 (by simp))
      replace MM := Lib.hid ((MM.out.drewN _).trans' m2)
      obtain ⟨c0, c1, c2, c3, c4, c5, c6⟩ := BB.out.cells7
      clear m2
      go_wp2_with fail
      refine (PH.out _).mono ?_
      rintro e w3 ⟨rfl, m3⟩
      clear c0 c1 c2 c3 c4 c5 c6
      replace BB := Lib.hid (BB.out.mod m3 (by simp))
      replace MM := Lib.hid (MM.out.trans' m3)
      obtain ⟨c0, c1, c2, c3, c4, c5, c6⟩ := BB.out.cells7
      clear m3
      go_wp2_with fail
      go_ret
      exact ⟨rfl, MM.out⟩
  · have hlt1 : ((lt : Int) == ht) = false := by rw [beq_eq_false_iff_ne]; omega
    have hlt2 : ¬ (lt : Int) = ht := by omega
    clear hb hlt
    by_cases htb : top = bot
    · skip
      subst htb
      obtain ⟨g, hg⟩ : ∃ g, w.heap.size = g := ⟨_, rfl⟩
      have BB : Hid (Blk (w.alloc (.cells #[.int .u8 f, .int .u8 top, .int .u8 top, .int .u8 lt, .int .u32 la, .int .u8 ht, .int .u32 ha] 108)) g #[.int .u8 f, .int .u8 top, .int .u8 top, .int .u8 lt, .int .u32 la, .int .u8 ht, .int .u32 ha] 108) := Blk.new' _ _ _ _ hg.symm
      have MM : Hid (Mod [] w (w.alloc (.cells #[.int .u8 f, .int .u8 top, .int .u8 top, .int .u8 lt, .int .u32 la, .int .u8 ht, .int .u32 ha] 108))) := (Mod.refl _ _).alloc _
      go_enter Tryz.func197, Tryz.ntmps197
      go_wp2_with fail
      go_quiet (fail)
      go_wp2_with fail
      refine (IF.out _).mono ?_
      rintro e w1 ⟨rfl, rfl⟩
      go_wp2_with fail
      refine (MY.out _).mono ?_
      rintro e w1 ⟨rfl, rfl⟩
      go_wp2_with fail
      refine (PL.out _).mono ?_
      rintro e w2 ⟨rfl, m2⟩
      replace BB := Lib.hid ((BB.out.drewN _).mod m2 (by simp))
      replace MM := Lib.hid ((MM.out.drewN _).trans' m2)
      obtain ⟨c0, c1, c2, c3, c4, c5, c6⟩ := BB.out.cells7
      clear m2
      go_wp2_with fail
      refine (PH.out _).mono ?_
      rintro e w3 ⟨rfl, m3⟩
      clear c0 c1 c2 c3 c4 c5 c6
      replace BB := Lib.hid (BB.out.mod m3 (by simp))
      replace MM := Lib.hid (MM.out.trans' m3)
      obtain ⟨c0, c1, c2, c3, c4, c5, c6⟩ := BB.out.cells7
      clear m3
      go_wp2_with fail
      go_ret
      exact ⟨rfl, MM.out⟩
    · skip
      have CH := Lib.hid (chained_c f true (decide_eq_true (by omega)))
      have htb1 : ((top : Int) != bot) = true := by rw [bne_iff_ne]; omega
      have htb2 : ¬ (top : Int) = bot := by omega
      clear htb
      obtain ⟨g, hg⟩ : ∃ g, w.heap.size = g := ⟨_, rfl⟩
      have BB : Hid (Blk (w.alloc (.cells #[.int .u8 f, .int .u8 top, .int .u8 bot, .int .u8 lt, .int .u32 la, .int .u8 ht, .int .u32 ha] 108)) g #[.int .u8 f, .int .u8 top, .int .u8 bot, .int .u8 lt, .int .u32 la, .int .u8 ht, .int .u32 ha] 108) := Blk.new' _ _ _ _ hg.symm
      have MM : Hid (Mod [] w (w.alloc (.cells #[.int .u8 f, .int .u8 top, .int .u8 bot, .int .u8 lt, .int .u32 la, .int .u8 ht, .int .u32 ha] 108))) := (Mod.refl _ _).alloc _
      go_enter Tryz.func197, Tryz.ntmps197
      go_wp2_with fail
      go_quiet (fail)
      go_wp2_with fail
      refine (IF.out _).mono ?_
      rintro e w1 ⟨rfl, rfl⟩
      go_wp2_with fail
      refine (MY.out _).mono ?_
      rintro e w1 ⟨rfl, rfl⟩
      go_wp2_with fail
      refine (CH.out _).mono ?_
      rintro e w1 ⟨rfl, rfl⟩
      go_wp2_with fail
      refine (PL.out _).mono ?_
      rintro e w2 ⟨rfl, m2⟩
      replace BB := Lib.hid ((BB.out.drewN _).mod m2 (by simp))
      replace MM := Lib.hid ((MM.out.drewN _).trans' m2)
      obtain ⟨c0, c1, c2, c3, c4, c5, c6⟩ := BB.out.cells7
      clear m2
      go_wp2_with fail
      refine (PH.out _).mono ?_
      rintro e w3 ⟨rfl, m3⟩
      clear c0 c1 c2 c3 c4 c5 c6
      replace BB := Lib.hid (BB.out.mod m3 (by simp))
      replace MM := Lib.hid (MM.out.trans' m3)
      obtain ⟨c0, c1, c2, c3, c4, c5, c6⟩ := BB.out.cells7
      clear m3
      go_wp2_with fail
      go_ret
      exact ⟨rfl, MM.out⟩
end Go.Proofs.YtcoljkigphnjfaaGreatDoor
set_option linter.unusedVariables false
set_option linter.unusedSimpArgs false
namespace Go.Proofs.YtcoljkigphnjfaaGreatDoor
open Go.RowKit

def mixv (h p : Int) : Int :=
  bits .xor .u64 (IntKind.u64.wrap (bits .xor .u64 h p * 11400714819323198485)) (IntKind.u64.wrap (bits .xor .u64 h p * 11400714819323198485) / 536870912)
theorem mix_c (h p : Int) (w : World) : Calls Tryz.prog 245 #[.int .u64 h, .int .u64 p] w fun e w' => e = .returned (.int .u64 (mixv h p)) ∧ w' = w := by
  go_enter Tryz.func245, Tryz.ntmps245
  go_wp2
  go_ret
  exact ⟨rfl, rfl⟩
theorem mixv_range (h p : Int) : 0 ≤ mixv h p ∧ mixv h p < 18446744073709551616 := by
  unfold mixv bits
  generalize (BitVec.toNat _ : Nat) = x
  unfold IntKind.wrap
  simp [IntKind.signed, IntKind.bits]
  omega

def part1 (f t b : Nat) : Int := bits .or .u64 (bits .or .u64 (IntKind.u64.wrap (IntKind.u64.wrap (f : Int) * 281474976710656)) (IntKind.u64.wrap (IntKind.u64.wrap (t : Int) * 1099511627776))) (IntKind.u64.wrap (IntKind.u64.wrap (b : Int) * 4294967296))
def part2 (t a : Nat) : Int := bits .or .u64 (IntKind.u64.wrap (IntKind.u64.wrap (t : Int) * 4294967296)) (IntKind.u64.wrap (a : Int))
def hsh (r : Rc) : Int := mixv (mixv (mixv 1 (part1 r.f r.top r.bot)) (part2 r.lo.t r.lo.a)) (part2 r.hi.t r.hi.a)
theorem hsh_range (r : Rc) : 0 ≤ hsh r ∧ hsh r < 18446744073709551616 := mixv_range _ _

set_option maxRecDepth 100000 in
set_option maxHeartbeats 1000000 in
theorem hash_c (r : Rc) (w : World) : Calls Tryz.prog 244 #[rcv r] w fun e w' => e = .returned (.int .u64 (hsh r)) ∧ Mod [] w w' := by
  obtain ⟨f, t, b, ⟨lt, la⟩, ⟨ht, ha⟩⟩ := r
  have MX := Lib.hid mix_c
  unfold rcv hsh
  simp only
  generalize hm : mixv (mixv (mixv 1 (part1 f t b)) (part2 lt la)) (part2 ht ha) = m
  have HM := Lib.hid hm
  unfold part1 part2 at HM
  clear hm
  go_enter Tryz.func244, Tryz.ntmps244
  go_wp2_with fail
  refine (MX.out _ _ _).mono ?_
  rintro e w1 ⟨rfl, rfl⟩
  generalize hx1 : mixv 1 _ = x1
  rw [hx1] at HM
  clear hx1
  go_wp2_with fail
  refine (MX.out _ _ _).mono ?_
  rintro e w1 ⟨rfl, rfl⟩
  generalize hx2 : mixv x1 _ = x2
  rw [hx2] at HM
  clear hx2
  go_wp2_with fail
  refine (MX.out _ _ _).mono ?_
  rintro e w1 ⟨rfl, rfl⟩
  go_wp2_with fail
  go_ret
  exact ⟨by rw [← HM.out]; rfl, by (repeat (first | exact Mod.refl _ _ | apply Mod.drew | apply Mod.drewN | apply Mod.alloc | refine Mod.setCell ?_ _ _ (by first | simp | (simp; omega))))⟩
end Go.Proofs.YtcoljkigphnjfaaGreatDoor
set_option linter.unusedVariables false
set_option linter.unusedSimpArgs false
namespace Go.Proofs.YtcoljkigphnjfaaGreatDoor
open Go.RowKit

abbrev Slots := Nat → Rc × Nat × Bool
def key (T : Slots) (i : Nat) : Rc := (T i).1
def occ (T : Slots) (i : Nat) : Bool := (T i).2.2

/-- How far b lies behind a, in a ring of n. -/
def dist (n a b : Nat) : Nat := (b + n - a) % n

theorem dist_lt {n a b : Nat} (hn : 0 < n) : dist n a b < n := Nat.mod_lt _ hn
theorem dist_eq {n a b : Nat} (ha : a < n) (hb : b < n) : dist n a b = if a ≤ b then b - a else b + n - a := by
  unfold dist
  split
  · have : b + n - a = (b - a) + n := by omega
    rw [this, Nat.add_mod_right, Nat.mod_eq_of_lt (by omega)]
  · rw [Nat.mod_eq_of_lt (by omega)]
theorem add_mod_eq {n a t : Nat} (ha : a < n) (ht : t ≤ n) : (a + t) % n = if a + t < n then a + t else a + t - n := by
  split
  · rw [Nat.mod_eq_of_lt (by assumption)]
  · rw [Nat.mod_eq_sub_mod (by omega), Nat.mod_eq_of_lt (by omega)]
theorem add_dist {n a b : Nat} (ha : a < n) (hb : b < n) : (a + dist n a b) % n = b := by
  have hd := dist_lt (n := n) (a := a) (b := b) (by omega)
  rw [add_mod_eq ha (by omega), dist_eq ha hb]
  split <;> split <;> omega
theorem dist_add {n a t : Nat} (ha : a < n) (ht : t < n) : dist n a ((a + t) % n) = t := by
  have hb : (a + t) % n < n := Nat.mod_lt _ (by omega)
  rw [dist_eq ha hb, add_mod_eq ha (by omega)]
  split <;> split <;> omega

/-- From a place on, as far as there are other keys. -/
def probe (T : Slots) (n : Nat) (k : Rc) : Nat → Nat → Nat
  | 0, i => i
  | f + 1, i => if occ T i = true ∧ key T i ≠ k then probe T n k f ((i + 1) % n) else i

def stops (T : Slots) (k : Rc) (i : Nat) : Prop := occ T i = false ∨ key T i = k

theorem probe_run (T : Slots) (n : Nat) (k : Rc) (i : Nat) (hi : i < n) : ∀ t f, t ≤ f → f ≤ n → (∀ s, s < t → occ T ((i + s) % n) = true ∧ key T ((i + s) % n) ≠ k) → probe T n k f i = probe T n k (f - t) ((i + t) % n) := by
  intro t
  induction t with
  | zero => intro f _ _ _; simp [Nat.mod_eq_of_lt hi]
  | succ t ih =>
    intro f hf hfn h
    rw [ih f (by omega) hfn (fun s hs => h s (by omega))]
    have h1 := h t (by omega)
    have e : f - t = (f - (t + 1)) + 1 := by omega
    rw [e]
    rw [probe, if_pos h1]
    have e2 : ((i + t) % n + 1) % n = (i + (t + 1)) % n := by rw [Nat.mod_add_mod]; rfl
    rw [e2]

theorem probe_stop (T : Slots) (n : Nat) (k : Rc) (f i : Nat) (h : stops T k i) : probe T n k f i = i := by
  cases f with
  | zero => rfl
  | succ f =>
    unfold probe
    rw [if_neg]
    rintro ⟨h1, h2⟩
    rcases h with h | h
    · rw [h] at h1; simp at h1
    · exact h2 h

/-- The keys stand where they can be found. -/
structure LP (n : Nat) (home : Rc → Nat) (T : Slots) : Prop where
  hlt : ∀ k, home k < n
  path : ∀ i, i < n → occ T i = true → ∀ t, t < dist n (home (key T i)) i → occ T ((home (key T i) + t) % n) = true
  uniq : ∀ i j, i < n → j < n → occ T i = true → occ T j = true → key T i = key T j → i = j

section
variable {n : Nat} {home : Rc → Nat} {T : Slots}

/-- A key that is in is found. -/
theorem LP.find_in (h : LP n home T) {i : Nat} (hi : i < n) (ho : occ T i = true) : probe T n (key T i) n (home (key T i)) = i := by
  have hh := h.hlt (key T i)
  have hd := dist_lt (n := n) (a := home (key T i)) (b := i) (by omega)
  rw [probe_run T n (key T i) _ hh (dist n (home (key T i)) i) n (by omega) (Nat.le_refl _), add_dist hh hi]
  · exact probe_stop T n _ _ _ (.inr rfl)
  · intro s hs
    have h1 := h.path i hi ho s hs
    refine ⟨h1, fun e => ?_⟩
    have h2 := h.uniq _ _ (Nat.mod_lt _ (by omega)) hi h1 ho e
    have h3 := dist_add (n := n) hh (t := s) (by omega)
    rw [h2] at h3
    omega

/-- A key that isn't in is found to have an empty slot, to which its way is taken. -/
theorem LP.find_out (h : LP n home T) {k : Rc} (hk : ∀ i, i < n → occ T i = true → key T i ≠ k) (he : ∃ e, e < n ∧ occ T e = false) :
    ∃ t, t < n ∧ probe T n k n (home k) = (home k + t) % n ∧ occ T ((home k + t) % n) = false ∧ ∀ s, s < t → occ T ((home k + s) % n) = true := by
  obtain ⟨e, hen, hee⟩ := he
  have hh := h.hlt k
  have hd := dist_lt (n := n) (a := home k) (b := e) (by omega)
  -- the first empty one
  have hex : ∃ t, t < n ∧ occ T ((home k + t) % n) = false ∧ ∀ s, s < t → occ T ((home k + s) % n) = true := by
    have : ∀ m, m ≤ dist n (home k) e → (∀ s, s < m → occ T ((home k + s) % n) = true) ∨ ∃ t, t < m ∧ occ T ((home k + t) % n) = false ∧ ∀ s, s < t → occ T ((home k + s) % n) = true := by
      intro m
      induction m with
      | zero => intro _; exact .inl (fun s hs => by omega)
      | succ m ih =>
        intro hm
        rcases ih (by omega) with h1 | ⟨t, ht, h2⟩
        · cases ho : occ T ((home k + m) % n) with
          | true =>
            refine .inl (fun s hs => ?_)
            by_cases hsm : s = m
            · subst hsm; exact ho
            · exact h1 s (by omega)
          | false => exact .inr ⟨m, by omega, ho, h1⟩
        · exact .inr ⟨t, by omega, h2⟩
    rcases this _ (Nat.le_refl _) with h1 | ⟨t, ht, h2⟩
    · exact ⟨dist n (home k) e, hd, by rw [add_dist hh hen]; exact hee, h1⟩
    · exact ⟨t, by omega, h2⟩
  obtain ⟨t, ht, h1, h2⟩ := hex
  refine ⟨t, ht, ?_, h1, h2⟩
  rw [probe_run T n k _ hh t n (by omega) (Nat.le_refl _) (fun s hs => ⟨h2 s hs, hk _ (Nat.mod_lt _ (by omega)) (h2 s hs)⟩)]
  exact probe_stop T n _ _ _ (.inl h1)

def put1 (T : Slots) (i : Nat) (x : Rc × Nat × Bool) : Slots := fun j => if j = i then x else T j

/-- A new key at the end of its way. -/
theorem LP.insert (h : LP n home T) {k : Rc} {id : Nat} (hk : ∀ i, i < n → occ T i = true → key T i ≠ k) {t : Nat} (ht : t < n) (he : occ T ((home k + t) % n) = false) (hw : ∀ s, s < t → occ T ((home k + s) % n) = true) :
    LP n home (put1 T ((home k + t) % n) (k, id, true)) := by
  have hh := h.hlt k
  have hp : (home k + t) % n < n := Nat.mod_lt _ (by omega)
  have hocc : ∀ j, occ T j = true → occ (put1 T ((home k + t) % n) (k, id, true)) j = true := by
    intro j hj
    unfold put1 occ; dsimp only
    by_cases e : j = (home k + t) % n
    · simp [e]
    · rw [if_neg e]; exact hj
  have hkey : ∀ j, j ≠ (home k + t) % n → put1 T ((home k + t) % n) (k, id, true) j = T j := fun j hj => by unfold put1; rw [if_neg hj]
  have hself : put1 T ((home k + t) % n) (k, id, true) ((home k + t) % n) = (k, id, true) := by unfold put1; rw [if_pos rfl]
  refine ⟨h.hlt, fun i hi ho s hs => ?_, fun i j hi hj hoi hoj hij => ?_⟩
  · by_cases e : i = (home k + t) % n
    · subst e
      unfold key at hs ⊢
      rw [hself] at hs ⊢
      simp only at hs ⊢
      rw [dist_add hh ht] at hs
      exact hocc _ (hw s hs)
    · unfold key occ at *
      rw [hkey i e] at ho hs ⊢
      exact hocc _ (h.path i hi ho s hs)
  · unfold key occ at *
    by_cases e : i = (home k + t) % n
    · by_cases e2 : j = (home k + t) % n
      · rw [e, e2]
      · subst e
        rw [hself] at hij
        rw [hkey j e2] at hij hoj
        exact (hk j hj hoj hij.symm).elim
    · by_cases e2 : j = (home k + t) % n
      · subst e2
        rw [hself] at hij
        rw [hkey i e] at hij hoi
        exact (hk i hi hoi hij).elim
      · rw [hkey i e] at hij hoi
        rw [hkey j e2] at hij hoj
        exact h.uniq i j hi hj hoi hoj hij

/-- Another number for a key that is in. -/
theorem LP.renum (h : LP n home T) {i : Nat} (hi : i < n) (ho : occ T i = true) (id : Nat) : LP n home (put1 T i (key T i, id, true)) := by
  have hocc : ∀ j, occ (put1 T i (key T i, id, true)) j = occ T j := by
    intro j
    unfold put1 occ; dsimp only
    by_cases e : j = i
    · subst e; rw [if_pos rfl]; exact ho.symm
    · rw [if_neg e]
  have hkey : ∀ j, key (put1 T i (key T i, id, true)) j = key T j := by
    intro j
    unfold put1 key; dsimp only
    by_cases e : j = i
    · subst e; rw [if_pos rfl]
    · rw [if_neg e]
  refine ⟨h.hlt, fun j hj hoj s hs => ?_, fun a b ha hb hoa hob hab => ?_⟩
  · rw [hkey] at hs ⊢
    rw [hocc] at hoj ⊢
    exact h.path j hj hoj s hs
  · rw [hkey, hkey] at hab
    rw [hocc] at hoa hob
    exact h.uniq a b ha hb hoa hob hab
end
section
variable {n : Nat}
theorem dist_self {a : Nat} (ha : a < n) : dist n a a = 0 := by rw [dist_eq ha ha, if_pos (Nat.le_refl _)]; omega
theorem dist_pos {a b : Nat} (ha : a < n) (hb : b < n) (h : a ≠ b) : 0 < dist n a b := by rw [dist_eq ha hb]; split <;> omega
theorem dist_next {a b : Nat} (hn : 2 ≤ n) (ha : a < n) (hb : b < n) (h : a ≠ b) : dist n ((a + 1) % n) b + 1 = dist n a b := by
  have h1 : (a + 1) % n < n := Nat.mod_lt _ (by omega)
  rw [dist_eq h1 hb, dist_eq ha hb, add_mod_eq ha (by omega)]
  split <;> split <;> split <;> omega
end
end Go.Proofs.YtcoljkigphnjfaaGreatDoor
set_option linter.unusedVariables false
set_option linter.unusedSimpArgs false
namespace Go.Proofs.YtcoljkigphnjfaaGreatDoor
open Go.RowKit


/-- No record. -/
def rc0 : Rc := ⟨0, 0, 0, ⟨0, 0⟩, ⟨0, 0⟩⟩
def cnt (T : Slots) : Nat → Nat
  | 0 => 0
  | n + 1 => cnt T n + if occ T n = true then 1 else 0

theorem cnt_le (T : Slots) : ∀ n, cnt T n ≤ n := by
  intro n
  induction n with
  | zero => exact Nat.le_refl _
  | succ n ih => unfold cnt; split <;> omega
theorem cnt_put1 (T : Slots) (i : Nat) (x : Rc × Nat × Bool) : ∀ n, cnt (put1 T i x) n + (if i < n ∧ occ T i = true then 1 else 0) = cnt T n + (if i < n ∧ x.2.2 = true then 1 else 0) := by
  intro n
  induction n with
  | zero => simp [cnt]
  | succ n ih =>
    unfold cnt
    by_cases e : n = i
    · subst e
      have h1 : occ (put1 T n x) n = x.2.2 := by unfold occ put1; rw [if_pos rfl]
      rw [h1]
      simp only [Nat.lt_irrefl, false_and, if_false, Nat.add_zero] at ih
      rw [ih]
      simp only [Nat.lt_succ_self, true_and]
      omega
    · have h1 : occ (put1 T i x) n = occ T n := by unfold occ put1; rw [if_neg e]
      have h2 : (i < n + 1) ↔ (i < n) := by omega
      rw [h1]
      simp only [h2]
      omega
theorem cnt_empty {T : Slots} : ∀ {n}, cnt T n < n → ∃ e, e < n ∧ occ T e = false := by
  intro n
  induction n with
  | zero => intro h; omega
  | succ n ih =>
    intro h
    unfold cnt at h
    cases ho : occ T n with
    | false => exact ⟨n, by omega, ho⟩
    | true =>
      rw [ho] at h
      simp at h
      obtain ⟨e, he, h1⟩ := ih h
      exact ⟨e, by omega, h1⟩

/-- A table that bears the relation R, of c keys. -/
structure IW (n : Nat) (home : Rc → Nat) (T : Slots) (R : Rc → Nat → Prop) (c : Nat) : Prop where
  lp : LP n home T
  c : cnt T n = c
  r : ∀ k id, R k id ↔ ∃ i, i < n ∧ T i = (k, id, true)
  kb : ∀ i, i < n → occ T i = true → (T i).2.1 ≤ 4294967295

section
variable {n c : Nat} {home : Rc → Nat} {T : Slots} {R : Rc → Nat → Prop}

theorem IW.fun_ (h : IW n home T R c) {k : Rc} {a b : Nat} (ha : R k a) (hb : R k b) : a = b := by
  obtain ⟨i, hi, hTi⟩ := (h.r k a).1 ha
  obtain ⟨j, hj, hTj⟩ := (h.r k b).1 hb
  have := h.lp.uniq i j hi hj (by unfold occ; rw [hTi]) (by unfold occ; rw [hTj]) (by unfold key; rw [hTi, hTj])
  subst this
  rw [hTi] at hTj
  simp at hTj
  exact hTj

theorem IW.find_in (h : IW n home T R c) {k : Rc} {id : Nat} (hk : R k id) : probe T n k n (home k) < n ∧ T (probe T n k n (home k)) = (k, id, true) := by
  obtain ⟨i, hi, hT⟩ := (h.r k id).1 hk
  have h1 := h.lp.find_in hi (by unfold occ; rw [hT])
  have h2 : key T i = k := by unfold key; rw [hT]
  rw [h2] at h1
  rw [h1]
  exact ⟨hi, hT⟩

theorem IW.find_out (h : IW n home T R c) (hn : c < n) {k : Rc} (hk : ∀ id, ¬ R k id) :
    probe T n k n (home k) < n ∧ occ T (probe T n k n (home k)) = false ∧ ∀ id, id ≤ 4294967295 → ∀ R' : Rc → Nat → Prop, (∀ k' id', R' k' id' ↔ (k' = k ∧ id' = id) ∨ (k' ≠ k ∧ R k' id')) → IW n home (put1 T (probe T n k n (home k)) (k, id, true)) R' (c + 1) := by
  have hne : ∀ i, i < n → occ T i = true → key T i ≠ k := fun i hi ho e => hk (T i).2.1 ((h.r _ _).2 ⟨i, hi, by
    have h1 : T i = ((T i).1, (T i).2.1, (T i).2.2) := rfl
    unfold occ at ho; unfold key at e
    rw [h1, ho, e]⟩)
  obtain ⟨t, ht, hp, he, hw⟩ := h.lp.find_out hne (cnt_empty (by rw [h.c]; exact hn))
  have hpn : (home k + t) % n < n := Nat.mod_lt _ (by omega)
  rw [hp]
  refine ⟨hpn, he, fun id hid R' hR' => ⟨h.lp.insert hne ht he hw, ?_, fun k' id' => ?_, fun i hi ho => ?_⟩⟩
  · have h1 := cnt_put1 T ((home k + t) % n) (k, id, true) n
    rw [he] at h1
    simp [hpn] at h1
    rw [h1, h.c]
  · rw [hR', h.r]
    constructor
    · rintro (⟨rfl, rfl⟩ | ⟨hkk, i, hi, hT⟩)
      · exact ⟨_, hpn, by unfold put1; rw [if_pos rfl]⟩
      · refine ⟨i, hi, ?_⟩
        unfold put1
        rw [if_neg]
        · exact hT
        · intro e; subst e; unfold occ at he; rw [hT] at he; simp at he
    · rintro ⟨i, hi, hT⟩
      unfold put1 at hT
      by_cases e : i = (home k + t) % n
      · rw [if_pos e] at hT
        simp at hT
        exact .inl ⟨hT.1.symm, hT.2.symm⟩
      · rw [if_neg e] at hT
        refine .inr ⟨fun e2 => hne i hi (by unfold occ; rw [hT]) (by unfold key; rw [hT]; exact e2), i, hi, hT⟩
  · unfold key occ at *
    by_cases e : i = (home k + t) % n
    · rw [show put1 T ((home k + t) % n) (k, id, true) i = (k, id, true) from if_pos e]; exact hid
    · rw [show put1 T ((home k + t) % n) (k, id, true) i = T i from if_neg e] at ho ⊢; exact h.kb i hi ho

theorem IW.renum (h : IW n home T R c) {k : Rc} {old id : Nat} (hk : R k old) (hid : id ≤ 4294967295) {R' : Rc → Nat → Prop} (hR' : ∀ k' id', R' k' id' ↔ (k' = k ∧ id' = id) ∨ (k' ≠ k ∧ R k' id')) : IW n home (put1 T (probe T n k n (home k)) (k, id, true)) R' c := by
  obtain ⟨hp, hT⟩ := h.find_in hk
  generalize probe T n k n (home k) = p at *
  have ho : occ T p = true := by unfold occ; rw [hT]
  have hkey : key T p = k := by unfold key; rw [hT]
  have h0 := h.lp.renum hp ho id
  rw [hkey] at h0
  refine ⟨h0, ?_, fun k' id' => ?_, fun i hi ho => ?_⟩
  · have h1 := cnt_put1 T p (k, id, true) n
    rw [ho] at h1
    simp [hp] at h1
    rw [h1, h.c]
  · rw [hR', h.r]
    constructor
    · rintro (⟨rfl, rfl⟩ | ⟨hkk, i, hi, hTi⟩)
      · exact ⟨_, hp, by unfold put1; rw [if_pos rfl]⟩
      · refine ⟨i, hi, ?_⟩
        unfold put1
        rw [if_neg]
        · exact hTi
        · intro e; subst e; rw [hTi] at hT; simp at hT; exact hkk hT.1
    · rintro ⟨i, hi, hTi⟩
      unfold put1 at hTi
      by_cases e : i = p
      · rw [if_pos e] at hTi
        simp at hTi
        exact .inl ⟨hTi.1.symm, hTi.2.symm⟩
      · rw [if_neg e] at hTi
        refine .inr ⟨fun e2 => e (h.lp.uniq i p hi hp (by unfold occ; rw [hTi]) ho (by unfold key; rw [hTi, hT]; exact e2)), i, hi, hTi⟩
  · by_cases e : i = p
    · have h3 := h.kb p hp (by unfold occ; rw [hT])
      rw [show put1 T p (k, id, true) i = (k, id, true) from if_pos e]
      exact hid
    · unfold key occ at *
      rw [show put1 T p (k, id, true) i = T i from if_neg e] at ho ⊢; exact h.kb i hi ho

theorem IW.empty (hh : ∀ k, home k < n) : IW n home (fun _ => (rc0, 0, false)) (fun _ _ => False) 0 := by
  have h0 : ∀ n, cnt (fun _ => (rc0, 0, false)) n = 0 := by
    intro n; induction n with
    | zero => rfl
    | succ n ih => unfold cnt; rw [ih]; simp [occ]
  refine ⟨⟨hh, fun i _ ho => by simp [occ] at ho, fun i j _ _ ho => by simp [occ] at ho⟩, h0 n, fun k id => by simp, fun i _ ho => by simp [occ] at ho⟩

theorem IW.congr (h : IW n home T R c) {R' : Rc → Nat → Prop} (e : ∀ k id, R' k id ↔ R k id) : IW n home T R' c :=
  ⟨h.lp, h.c, fun k id => (e k id).trans (h.r k id), h.kb⟩

theorem IW.stops (h : IW n home T R c) (hn : c < n) (k : Rc) : stops T k (probe T n k n (home k)) := by
  by_cases hk : ∃ id, R k id
  · obtain ⟨id, hid⟩ := hk
    have := (h.find_in hid).2
    exact .inr (by unfold key; rw [this])
  · exact .inl (h.find_out hn (fun id hid => hk ⟨id, hid⟩)).2.1

end
end Go.Proofs.YtcoljkigphnjfaaGreatDoor
set_option linter.unusedVariables false
set_option linter.unusedSimpArgs false
namespace Go.Proofs.YtcoljkigphnjfaaGreatDoor
open Go.RowKit

theorem eqIn_ed (d : Nat) (a b : Ed) (w : World) : (Op.equalIn (d + 2) 62 (edv a) (edv b)).run Tryz.prog w = .ok (decide (a = b)) w := by
  obtain ⟨at_, aa⟩ := a
  obtain ⟨bt, ba⟩ := b
  have u5 := Tryz.underlying5
  have u60 := Tryz.underlying60
  have a5 := Tryz.isAgg5
  have a60 := Tryz.isAgg60
  have z5 := Tryz.sizeOf5
  have z60 := Tryz.sizeOf60
  have hS : Tryz.prog.underlying 62 = some (.struct (Tryz.prog.fieldsOf 62)) := by kernel_rfl
  unfold edv
  rw [run_equalIn_agg w (d + 1) 62 _ _ hS (by kernel_rfl)]
  simp only [Program.fieldsOf, Tryz.underlying62]
  go_simp
  by_cases h1 : at_ = bt <;> by_cases h2 : aa = ba <;> simp [h1, h2, Int.natCast_inj]

set_option maxHeartbeats 1000000 in
theorem eqIn_rc (d : Nat) (a b : Rc) (w : World) : (Op.equalIn (d + 3) 108 (rcv a) (rcv b)).run Tryz.prog w = .ok (decide (a = b)) w := by
  obtain ⟨af, at_, ab, al, ah⟩ := a
  obtain ⟨bf, bt, bb, bl, bh⟩ := b
  have u5 := Tryz.underlying5
  have a5 := Tryz.isAgg5
  have z5 := Tryz.sizeOf5
  have u48 := Tryz.underlying48
  have a48 := Tryz.isAgg48
  have z48 := Tryz.sizeOf48
  have a62 := Tryz.isAgg62
  have z62 := Tryz.sizeOf62
  have e1 := fun w => eqIn_ed d al bl w
  have e2 := fun w => eqIn_ed d ah bh w
  have hS : Tryz.prog.underlying 108 = some (.struct (Tryz.prog.fieldsOf 108)) := by kernel_rfl
  unfold rcv
  unfold edv at e1 e2
  obtain ⟨alt, ala⟩ := al
  obtain ⟨blt, bla⟩ := bl
  obtain ⟨aht, aha⟩ := ah
  obtain ⟨bht, bha⟩ := bh
  simp only at e1 e2 ⊢
  generalize hd1 : decide ((⟨alt, ala⟩ : Ed) = ⟨blt, bla⟩) = d1 at *
  generalize hd2 : decide ((⟨aht, aha⟩ : Ed) = ⟨bht, bha⟩) = d2 at *
  have hd : decide ((⟨af, at_, ab, ⟨alt, ala⟩, ⟨aht, aha⟩⟩ : Rc) = ⟨bf, bt, bb, ⟨blt, bla⟩, ⟨bht, bha⟩⟩) = (decide (af = bf) && (decide (at_ = bt) && (decide (ab = bb) && (d1 && d2)))) := by
    rw [← hd1, ← hd2]
    simp [Bool.and_assoc]
  rw [hd]
  clear hd hd1 hd2
  rw [run_equalIn_agg w (d + 2) 108 _ _ hS (by kernel_rfl)]
  simp only [Program.fieldsOf, Tryz.underlying108]
  go_simp
  by_cases h1 : af = bf <;> by_cases h2 : at_ = bt <;> by_cases h3 : ab = bb <;> cases d1 <;> cases d2 <;> simp [h1, h2, h3, Int.natCast_inj]
theorem eqIn_key (d : Nat) (a b : Rc) (w : World) : (Op.equalIn (d + 4) 112 (rcv a) (rcv b)).run Tryz.prog w = .ok (decide (a = b)) w := by
  have e1 := fun w => eqIn_rc d a b w
  have a62 := Tryz.isAgg108
  have z62 := Tryz.sizeOf108
  have hS : Tryz.prog.underlying 112 = some (.struct (Tryz.prog.fieldsOf 112)) := by kernel_rfl
  generalize decide (a = b) = q at *
  unfold rcv at *
  rw [run_equalIn_agg w (d + 3) 112 _ _ hS (by kernel_rfl)]
  simp only [Program.fieldsOf, Tryz.underlying112]
  go_simp
  cases q <;> simp
end Go.Proofs.YtcoljkigphnjfaaGreatDoor
set_option linter.unusedVariables false
set_option linter.unusedSimpArgs false
namespace Go.Proofs.YtcoljkigphnjfaaGreatDoor

/-- The value of digits. -/
def vl (b : Nat) : List Nat → Nat
  | [] => 0
  | x :: l => x + b * vl b l
theorem vl_append (b : Nat) (l l' : List Nat) : vl b (l ++ l') = vl b l + b ^ l.length * vl b l' := by
  induction l with
  | nil => simp [vl]
  | cons x l ih => simp only [List.cons_append, vl, ih, List.length_cons, Nat.pow_succ, Nat.mul_add]; rw [← Nat.mul_assoc, Nat.mul_comm b (b ^ l.length)]; omega
theorem vl_snoc (b : Nat) (l : List Nat) (x : Nat) : vl b (l ++ [x]) = vl b l + b ^ l.length * x := by rw [vl_append]; simp [vl]
theorem vl_lt {b : Nat} {l : List Nat} (h : ∀ x ∈ l, x < b) : vl b l < b ^ l.length := by
  induction l with
  | nil => simp [vl]
  | cons x l ih =>
    have h1 := ih (fun y hy => h y (by simp [hy]))
    have h2 := h x (by simp)
    have h3 : b * (vl b l + 1) ≤ b * b ^ l.length := Nat.mul_le_mul_left b h1
    rw [Nat.mul_add] at h3
    simp only [vl, List.length_cons, Nat.pow_succ]
    rw [Nat.mul_comm (b ^ l.length) b]
    omega
theorem vl_zero (b n : Nat) : vl b (List.replicate n 0) = 0 := by
  induction n with
  | zero => rfl
  | succ n ih => simp [List.replicate_succ, vl, ih]
theorem vl_zeros (b : Nat) (l : List Nat) (n : Nat) : vl b (l ++ List.replicate n 0) = vl b l := by rw [vl_append, vl_zero]; simp
theorem vl_take_succ (b : Nat) (l : List Nat) {i : Nat} (h : i < l.length) : vl b (l.take (i + 1)) = vl b (l.take i) + b ^ i * l[i] := by
  rw [List.take_succ_eq_append_getElem h, vl_snoc, List.length_take, Nat.min_eq_left (by omega)]
theorem vl_drop (b : Nat) (l : List Nat) {i : Nat} (h : i < l.length) : vl b (l.drop i) = l[i] + b * vl b (l.drop (i + 1)) := by
  rw [List.drop_eq_getElem_cons h]; rfl

/-- Digits of n: each below b, no 0 at the end. -/
structure Can (b : Nat) (l : List Nat) (n : Nat) : Prop where
  lt : ∀ x ∈ l, x < b
  val : vl b l = n
  last : ∀ x, l.getLast? = some x → x ≠ 0

theorem Can.nil (b : Nat) : Can b [] 0 := ⟨by simp, rfl, by simp⟩
theorem Can.upper {b : Nat} {l : List Nat} {n : Nat} (h : Can b l n) : n < b ^ l.length := by rw [← h.val]; exact vl_lt h.lt
theorem Can.lower {b : Nat} {l : List Nat} {n : Nat} (h : Can b l n) (hl : l ≠ []) : b ^ (l.length - 1) ≤ n := by
  rcases List.eq_nil_or_concat l with rfl | ⟨p, x, rfl⟩
  · exact absurd rfl hl
  · rw [List.concat_eq_append] at *
    have hx := h.last x (by simp)
    rw [← h.val, vl_snoc, List.length_append]
    have h1 : b ^ p.length * 1 ≤ b ^ p.length * x := Nat.mul_le_mul_left _ (by omega)
    simp
    omega
theorem Can.pos {b : Nat} {l : List Nat} {n : Nat} (hb : 0 < b) (h : Can b l n) (hl : l ≠ []) : 0 < n :=
  Nat.lt_of_lt_of_le (Nat.pow_pos hb) (h.lower hl)
theorem Can.zero {b : Nat} {l : List Nat} (hb : 0 < b) (h : Can b l 0) : l = [] := by
  by_cases hl : l = []
  · exact hl
  · have := h.pos hb hl; omega
theorem Can.nil_val {b : Nat} {n : Nat} (h : Can b [] n) : n = 0 := h.val.symm
theorem Can.fits {b : Nat} {l : List Nat} {n : Nat} (hb : 1 < b) (h : Can b l n) (k : Nat) : l.length ≤ k ↔ n < b ^ k := by
  constructor
  · intro q
    exact Nat.lt_of_lt_of_le h.upper (Nat.pow_le_pow_right (by omega) q)
  · intro q
    rcases Nat.lt_or_ge k l.length with q2 | q2
    · have hl : l ≠ [] := by intro e; rw [e] at q2; simp at q2
      have h1 := h.lower hl
      have h2 : b ^ k ≤ b ^ (l.length - 1) := Nat.pow_le_pow_right (by omega) (by omega)
      omega
    · exact q2
theorem Can.tail {b x : Nat} {l : List Nat} {n : Nat} (h : Can b (x :: l) n) : Can b l (vl b l) :=
  ⟨fun y hy => h.lt y (by simp [hy]), rfl, fun y hy => h.last y (by
    cases l with
    | nil => simp at hy
    | cons z t => rw [List.getLast?_cons_cons]; exact hy)⟩
theorem Can.uniq {b : Nat} (hb : 1 < b) : ∀ {l l' : List Nat} {n : Nat}, Can b l n → Can b l' n → l = l' := by
  intro l
  induction l with
  | nil =>
    intro l' n h h'
    obtain rfl := h.nil_val
    exact (h'.zero (by omega)).symm
  | cons x l ih =>
    intro l' n h h'
    cases l' with
    | nil =>
      obtain rfl := h'.nil_val
      exact h.zero (by omega)
    | cons y t =>
      have e : x + b * vl b l = y + b * vl b t := h.val.trans h'.val.symm
      have hx := h.lt x (by simp)
      have hy := h'.lt y (by simp)
      have e1 : x = y := by
        have := congrArg (· % b) e
        simpa [Nat.add_mul_mod_self_left, Nat.mod_eq_of_lt hx, Nat.mod_eq_of_lt hy] using this
      subst e1
      have e2 : vl b l = vl b t := Nat.eq_of_mul_eq_mul_left (show 0 < b by omega) (by omega)
      have h2 := h'.tail
      rw [← e2] at h2
      rw [ih h.tail h2]

/-- What Norm leaves. -/
theorem Can.norm {b : Nat} {l : List Nat} (h : ∀ x ∈ l, x < b) {n : Nat} (hn : n ≤ l.length) (hv : vl b (l.take n) = vl b l) (hz : n = 0 ∨ ∃ h : n - 1 < l.length, l[n - 1] ≠ 0) : Can b (l.take n) (vl b l) := by
  refine ⟨fun x hx => h x (List.mem_of_mem_take hx), hv, fun x hx => ?_⟩
  rcases hz with rfl | ⟨h1, h2⟩
  · simp at hx
  · by_cases h0 : n = 0
    · subst h0; simp at hx
    · rw [List.getLast?_eq_getElem?, List.length_take, Nat.min_eq_left hn, List.getElem?_take, if_pos (by omega), List.getElem?_eq_getElem h1] at hx
      simp at hx
      rw [← hx]; exact h2
theorem norm_step {b : Nat} {l : List Nat} {n : Nat} (hn : n < l.length) (hv : vl b (l.take (n + 1)) = vl b l) (h0 : l[n] = 0) : vl b (l.take n) = vl b l := by
  rw [← hv, vl_take_succ b l hn, h0]; simp

/-- Which is greater: seen at the highest place where they part. -/
theorem vl_part {b : Nat} {p q t : List Nat} {x y : Nat} (hp : ∀ z ∈ p, z < b) (hl : p.length = q.length) (h : x < y) : vl b (p ++ x :: t) < vl b (q ++ y :: t) := by
  have h1 := vl_lt hp
  rw [vl_append, vl_append, ← hl]
  simp only [vl]
  have h2 : b ^ p.length * (x + 1 + b * vl b t) ≤ b ^ p.length * (y + b * vl b t) := Nat.mul_le_mul_left _ (by omega)
  rw [show x + 1 + b * vl b t = x + b * vl b t + 1 by omega, Nat.mul_add] at h2
  omega
theorem part_at {b : Nat} {l l' : List Nat} (h : ∀ z ∈ l, z < b) (hl : l.length = l'.length) {i : Nat} (hi : i < l.length) (hd : l.drop (i + 1) = l'.drop (i + 1)) (hx : l[i] < l'[i]'(by omega)) : vl b l < vl b l' := by
  have e1 : l = l.take i ++ l[i] :: l.drop (i + 1) := by rw [List.getElem_cons_drop, List.take_append_drop]
  have e2 : l' = l'.take i ++ l'[i]'(by omega) :: l'.drop (i + 1) := by rw [List.getElem_cons_drop, List.take_append_drop]
  have := vl_part (b := b) (p := l.take i) (q := l'.take i) (t := l.drop (i + 1)) (fun z hz => h z (List.mem_of_mem_take hz)) (by simp; omega) hx
  rw [e1, e2, ← hd]
  exact this
theorem Can.shorter {b : Nat} {l l' : List Nat} {n n' : Nat} (hb : 1 < b) (h : Can b l n) (h' : Can b l' n') (hl : l.length < l'.length) : n < n' := by
  have h1 := h.upper
  have h2 := h'.lower (by intro e; rw [e] at hl; simp at hl)
  have h3 : b ^ l.length ≤ b ^ (l'.length - 1) := Nat.pow_le_pow_right (by omega) (by omega)
  omega
end Go.Proofs.YtcoljkigphnjfaaGreatDoor

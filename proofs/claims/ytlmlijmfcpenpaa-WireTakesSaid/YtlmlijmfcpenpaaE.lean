/- The reader: its object; num, Num, Byte, Err, Left, End. -/
import Derived.Test.YtlmlijmfcpenpaaD
set_option linter.unusedVariables false
set_option linter.unusedSimpArgs false
namespace Go.Proofs.Ytlmlijmfcpenpaa
open Go.RowKit

/-- The reader at block p: the bytes l are left, its error is e; the bytes lie in blocks of F. -/
def Rdr (w : World) (p : Nat) (l : List UInt8) (e : Nat) (F : List Nat) : Prop := ∃ v, Blk w p #[v, .int .u8 e] 52 ∧ Rd w v l F ∧ p ∉ F

theorem Rdr.keep {w w' : World} {p e : Nat} {l : List UInt8} {F : List Nat} (h : Rdr w p l e F) (k : Keep (p :: F) w w') : Rdr w' p l e F := by
  obtain ⟨v, hb, hr, hp⟩ := h
  exact ⟨v, hb.keep k (by simp), hr.keep (fun x hx => k x (by simp [hx])), hp⟩
theorem Rdr.mod {w w' : World} {p e : Nat} {l : List UInt8} {F : List Nat} (h : Rdr w p l e F) (m : Mod [] w w') : Rdr w' p l e F := by
  obtain ⟨v, hb, hr, hp⟩ := h
  exact ⟨v, hb.mod m (by simp), hr.mod m (by simp), hp⟩
theorem Rdr.err {w : World} {p e : Nat} {l : List UInt8} {F : List Nat} (h : Rdr w p l e F) (x : Nat) : Rdr (w.setCell ⟨p, 1, none⟩ (.int .u8 x)) p l x F := by
  obtain ⟨v, hb, hr, hp⟩ := h
  exact ⟨v, by simpa using hb.set 1 (.int .u8 x), hr.mod (S := [p]) ((Mod.refl _ _).setCell _ _ (by simp)) (by simp; intro k hk e; subst e; exact hp hk), hp⟩
theorem Rdr.lt {w : World} {p e : Nat} {l : List UInt8} {F : List Nat} (h : Rdr w p l e F) : p < w.heap.size := by
  obtain ⟨v, hb, _⟩ := h; exact hb.lt

theorem Rdr.cut {w : World} {p e : Nat} {l : List UInt8} {F : List Nat} {A A' : Option Addr} {len cap s len' cap' : Nat} (hb : Blk w p #[.slice A len cap, .int .u8 e] 52) (hr : Rd w (.slice A len cap) l F) (hp : p ∉ F)
    (hs : s ≤ len) (hA : s < len → A' = A.map (·.add s)) (hl : len' = len - s) (hc : cap' = cap - s) : Rdr (w.setCell ⟨p, 0, none⟩ (.slice A' len' cap')) p (l.drop s) e F := by
  subst hl hc
  exact ⟨_, by simpa using hb.set 0 _, (hr.drop s hs A' hA).mod (S := [p]) ((Mod.refl _ _).setCell _ _ (by simp)) (by simp; intro k hk e; subst e; exact hp hk), hp⟩

theorem newreader_c {w : World} {v : Value} {l : List UInt8} {F : List Nat} (h : Rd w v l F) :
    Calls Try.prog 13 #[v] w fun e w' => e = .returned (.pointer (some ⟨w.heap.size, 0, none⟩)) ∧ w' = w.alloc (.cells #[v, .int .u8 0] 52) := by
  obtain ⟨A, cap, rfl, hc⟩ := h.shape
  clear h hc
  generalize l.length = n
  go_enter Try.func13, Try.ntmps13
  go_wp2
  go_ret
  exact ⟨rfl, rfl⟩

theorem num_nil (m : Int) (w : World) : Calls Try.prog 23 #[.pointer none, .int .u64 m] w fun e w' => e = .returned (.tuple #[.int .u64 0, .int .i64 0]) ∧ w = w' := by
  go_enter Try.func23, Try.ntmps23
  go_wp2
  go_ret2
  exact ⟨rfl, rfl⟩

theorem num_bad {w : World} {p e : Nat} {l : List UInt8} {F : List Nat} (h : Rdr w p l e F) (he : e ≠ 0) (m : Int) :
    Calls Try.prog 23 #[.pointer (some ⟨p, 0, none⟩), .int .u64 m] w fun e w' => e = .returned (.tuple #[.int .u64 0, .int .i64 0]) ∧ w = w' := by
  obtain ⟨v, hb, hr, hp⟩ := h
  have c1 := hb.cell 1
  simp at c1
  have he' : ((e : Int) != 0) = true := by rw [bne_iff_ne]; omega
  clear hb hr he
  go_enter Try.func23, Try.ntmps23
  go_wp2
  go_ret2
  exact ⟨rfl, rfl⟩

set_option maxHeartbeats 1000000 in
theorem num_err {w : World} {p : Nat} {l : List UInt8} {F : List Nat} (h : Rdr w p l 0 F) (hl : l.length ≤ 100000) (x : Nat) (hx : scan 0 0 l = (0, 0, x)) (hx0 : x ≠ 0) (m : Int) :
    Calls Try.prog 23 #[.pointer (some ⟨p, 0, none⟩), .int .u64 m] w fun e w' => e = .returned (.tuple #[.int .u64 0, .int .i64 0]) ∧ w' = w.setCell ⟨p, 1, none⟩ (.int .u8 x) := by
  obtain ⟨v, hb, hr, hp⟩ := h
  have c0 := hb.cell 0
  have c1 := hb.cell 1
  have f1 := hb.froz 1
  simp at c0 c1
  have hc := number_c hr hl
  rw [hx] at hc
  have HC := Lib.hid hc
  have he' : ((x : Int) != 0) = true := by rw [bne_iff_ne]; omega
  clear hb hr hx hx0 hc
  go_enter Try.func23, Try.ntmps23
  go_wp2_with (go_at_call 24; refine HC.out.mono ?_; rintro e w' ⟨rfl, rfl⟩)
  go_ret2
  exact ⟨rfl, rfl⟩

set_option maxHeartbeats 1000000 in
theorem num_large {w : World} {p : Nat} {l : List UInt8} {F : List Nat} (h : Rdr w p l 0 F) (hl : l.length ≤ 100000) (n s m : Nat) (hx : scan 0 0 l = (n, s, 0)) (hm : m < n) :
    Calls Try.prog 23 #[.pointer (some ⟨p, 0, none⟩), .int .u64 m] w fun e w' => e = .returned (.tuple #[.int .u64 0, .int .i64 0]) ∧ w' = w.setCell ⟨p, 1, none⟩ (.int .u8 (12 : Nat)) := by
  obtain ⟨v, hb, hr, hp⟩ := h
  have c0 := hb.cell 0
  have c1 := hb.cell 1
  have f1 := hb.froz 1
  simp at c0 c1
  have hc := number_c hr hl
  rw [hx] at hc
  have HC := Lib.hid hc
  have he' : (m : Int) < (n : Int) := by omega
  clear hb hr hx hc hm
  go_enter Try.func23, Try.ntmps23
  go_wp2_with (go_at_call 24; refine HC.out.mono ?_; rintro e w' ⟨rfl, rfl⟩)
  go_ret2
  exact ⟨rfl, rfl⟩

set_option maxHeartbeats 1000000 in
theorem num_ok {w : World} {p : Nat} {l : List UInt8} {F : List Nat} (h : Rdr w p l 0 F) (hl : l.length ≤ 100000) (n s m : Nat) (hx : scan 0 0 l = (n, s, 0)) (hm : n ≤ m) :
    Calls Try.prog 23 #[.pointer (some ⟨p, 0, none⟩), .int .u64 m] w fun e w' => e = .returned (.tuple #[.int .u64 n, .int .i64 s]) ∧ w = w' := by
  obtain ⟨v, hb, hr, hp⟩ := h
  have c0 := hb.cell 0
  have c1 := hb.cell 1
  simp at c0 c1
  have hc := number_c hr hl
  rw [hx] at hc
  have HC := Lib.hid hc
  have he' : (n : Int) ≤ (m : Int) := by omega
  clear hb hr hx hc hm
  go_enter Try.func23, Try.ntmps23
  go_wp2_with (go_at_call 24; refine HC.out.mono ?_; rintro e w' ⟨rfl, rfl⟩)
  go_ret2
  exact ⟨rfl, rfl⟩

/-- What Num tells, plain: the number, what is left, the error. -/
def numStep (l : List UInt8) (e most : Nat) : Nat × List UInt8 × Nat :=
  if e ≠ 0 then (0, l, e) else if (scan 0 0 l).2.2 ≠ 0 then (0, l, (scan 0 0 l).2.2) else if most < (scan 0 0 l).1 then (0, l, 12) else ((scan 0 0 l).1, l.drop (scan 0 0 l).2.1, 0)

theorem Num_nil (m : Int) (w : World) : Calls Try.prog 15 #[.pointer none, .int .u64 m] w fun e w' => e = .returned (.int .u64 0) ∧ w = w' := by
  go_enter Try.func15, Try.ntmps15
  go_wp2_with (go_at_call 23; refine (num_nil _ _).mono ?_; rintro e w' ⟨rfl, rfl⟩)
  go_ret
  exact ⟨rfl, rfl⟩

set_option maxHeartbeats 1000000 in
theorem Num_no {w : World} {p : Nat} (m : Int) (w1 : World) (H : Hid (Calls Try.prog 23 #[.pointer (some ⟨p, 0, none⟩), .int .u64 m] w fun e w' => e = .returned (.tuple #[.int .u64 0, .int .i64 0]) ∧ w' = w1)) :
    Calls Try.prog 15 #[.pointer (some ⟨p, 0, none⟩), .int .u64 m] w fun e w' => e = .returned (.int .u64 0) ∧ w' = w1 := by
  go_enter Try.func15, Try.ntmps15
  go_wp2_with fail
  refine H.out.mono ?_
  rintro e w' ⟨rfl, rfl⟩
  go_wp2
  go_ret
  exact ⟨rfl, rfl⟩

set_option maxHeartbeats 1000000 in
theorem Num_yes {w : World} {p : Nat} {l : List UInt8} {F : List Nat} (h : Rdr w p l 0 F) (hl : l.length ≤ 100000) (n s m : Nat) (hx : scan 0 0 l = (n, s, 0)) (hm : n ≤ m) (h0 : 0 < s) (h1 : s ≤ l.length) :
    Calls Try.prog 15 #[.pointer (some ⟨p, 0, none⟩), .int .u64 m] w fun e w' => e = .returned (.int .u64 n) ∧ Rdr w' p (l.drop s) 0 F ∧ Mod [p] w w' := by
  have HN := Lib.hid (num_ok h hl n s m hx hm)
  obtain ⟨v, hb, hr, hp⟩ := h
  obtain ⟨A, cap, rfl, hc⟩ := hr.shape
  have c0 := hb.cell 0
  have f0 := hb.froz 0
  simp at c0
  have HB := Lib.hid hb
  have HR := Lib.hid hr
  clear hb hr hx
  generalize hlen : l.length = len at *
  have HL := Lib.hid hlen
  clear hlen
  go_enter Try.func15, Try.ntmps15
  go_wp2_with fail
  refine HN.out.mono ?_
  rintro e w' ⟨rfl, rfl⟩
  go_wp2
  · go_ret
    exact ⟨rfl, Rdr.cut HB.out HR.out hp h1 (fun _ => by omega) rfl (by omega), (Mod.refl _ _).setCell _ _ (by simp)⟩
  · go_ret
    exact ⟨rfl, Rdr.cut HB.out HR.out hp h1 (fun _ => rfl) rfl rfl, (Mod.refl _ _).setCell _ _ (by simp)⟩

/-- Num, whatever is asked. -/
theorem Num_c {w : World} {p e : Nat} {l : List UInt8} {F : List Nat} (h : Rdr w p l e F) (hl : l.length ≤ 100000) (m : Nat) :
    Calls Try.prog 15 #[.pointer (some ⟨p, 0, none⟩), .int .u64 m] w fun e' w' => e' = .returned (.int .u64 (numStep l e m).1) ∧ Rdr w' p (numStep l e m).2.1 (numStep l e m).2.2 F ∧ Mod [p] w w' := by
  unfold numStep
  by_cases he : e = 0
  · subst he
    rw [if_neg (by simp)]
    rcases scan_ok (i := 0) (acc := 0) (l := l) (by simp) (by omega) with ⟨a, b, c, d, _⟩ | hx
    · obtain ⟨n, s, x, hx⟩ : ∃ n s x, scan 0 0 l = (n, s, x) := ⟨_, _, _, rfl⟩
      rw [hx] at a b c d
      simp only at a b c d
      subst a
      rw [hx]
      simp only [ne_eq, not_true, if_false]
      by_cases hm : m < n
      · rw [if_pos hm]
        exact (Num_no _ _ (num_large h hl n s m hx hm)).mono fun e' w' ⟨q, r⟩ => ⟨q, by rw [r]; exact h.err 12, by rw [r]; exact (Mod.refl _ _).setCell _ _ (by simp)⟩
      · rw [if_neg hm]
        exact Num_yes h hl n s m hx (by omega) b (by omega)
    · obtain ⟨x, hx, hx0⟩ : ∃ x, scan 0 0 l = (0, 0, x) ∧ x ≠ 0 := by
        rcases hx with hx | hx
        · exact ⟨7, hx, by omega⟩
        · exact ⟨11, hx, by omega⟩
      rw [hx]
      simp only [ne_eq, hx0, not_false_iff, if_true]
      exact (Num_no _ _ (num_err h hl x hx hx0 _)).mono fun e' w' ⟨q, r⟩ => ⟨q, by rw [r]; exact h.err x, by rw [r]; exact (Mod.refl _ _).setCell _ _ (by simp)⟩
  · rw [if_pos he]
    exact (Num_no _ _ ((num_bad h he _).mono fun e' w' ⟨q, r⟩ => ⟨q, r.symm⟩)).mono fun e' w' ⟨q, r⟩ => ⟨q, by rw [r]; exact h, by rw [r]; exact Mod.refl _ _⟩

theorem Byte_nil (w : World) : Calls Try.prog 17 #[.pointer none] w fun e w' => e = .returned (.int .u8 0) ∧ w = w' := by
  go_enter Try.func17, Try.ntmps17
  go_wp2
  go_ret
  exact ⟨rfl, rfl⟩
theorem Byte_bad {w : World} {p e : Nat} {l : List UInt8} {F : List Nat} (h : Rdr w p l e F) (he : e ≠ 0) :
    Calls Try.prog 17 #[.pointer (some ⟨p, 0, none⟩)] w fun e' w' => e' = .returned (.int .u8 0) ∧ w = w' := by
  obtain ⟨v, hb, hr, hp⟩ := h
  have c1 := hb.cell 1
  simp at c1
  have he' : ((e : Int) != 0) = true := by rw [bne_iff_ne]; omega
  clear hb hr he
  go_enter Try.func17, Try.ntmps17
  go_wp2
  go_ret
  exact ⟨rfl, rfl⟩
theorem Byte_end {w : World} {p : Nat} {F : List Nat} (h : Rdr w p [] 0 F) :
    Calls Try.prog 17 #[.pointer (some ⟨p, 0, none⟩)] w fun e' w' => e' = .returned (.int .u8 0) ∧ w' = w.setCell ⟨p, 1, none⟩ (.int .u8 (11 : Nat)) := by
  obtain ⟨v, hb, hr, hp⟩ := h
  obtain ⟨A, cap, rfl, hc⟩ := hr.shape
  have c0 := hb.cell 0
  have c1 := hb.cell 1
  have f1 := hb.froz 1
  simp at c0 c1
  clear hb hr
  go_enter Try.func17, Try.ntmps17
  go_wp2
  go_ret
  exact ⟨rfl, rfl⟩
set_option maxHeartbeats 1000000 in
theorem Byte_one {w : World} {p : Nat} {c : UInt8} {l : List UInt8} {F : List Nat} (h : Rdr w p (c :: l) 0 F) (hl : l.length ≤ 100000) :
    Calls Try.prog 17 #[.pointer (some ⟨p, 0, none⟩)] w fun e' w' => e' = .returned (.int .u8 c.toNat) ∧ Rdr w' p l 0 F ∧ Mod [p] w w' := by
  obtain ⟨v, hb, hr, hp⟩ := h
  obtain ⟨A, cap, rfl, hc⟩ := hr.shape
  obtain ⟨b, off, rfl, d⟩ := hr.at 0 (by simp)
  simp at d
  have c0 := hb.cell 0
  have c1 := hb.cell 1
  have f0 := hb.froz 0
  simp at c0 c1
  have HB := Lib.hid hb
  have HR := Lib.hid hr
  clear hb hr
  have hlen : (c :: l).length = l.length + 1 := by simp
  have hpos : 0 < (c :: l).length := by simp
  have hl' : (c :: l).length ≤ 100001 := by simp; omega
  generalize (c :: l).length = len at *
  have HL := Lib.hid hlen
  have hb8 := c.toNat_lt
  clear hlen
  go_enter Try.func17, Try.ntmps17
  go_wp2
  · go_ret
    exact ⟨rfl, Rdr.cut (s := 1) HB.out HR.out hp (by omega) (fun _ => by omega) (by have := HL.out; omega) (by omega), (Mod.refl _ _).setCell _ _ (by simp)⟩
  · go_ret
    exact ⟨rfl, Rdr.cut (s := 1) HB.out HR.out hp (by omega) (fun _ => rfl) (by have := HL.out; omega) (by omega), (Mod.refl _ _).setCell _ _ (by simp)⟩

theorem Err_nil (w : World) : Calls Try.prog 19 #[.pointer none] w fun e w' => e = .returned (.int .u8 2) ∧ w = w' := by
  go_enter Try.func19, Try.ntmps19
  go_wp2
  go_ret
  exact ⟨rfl, rfl⟩
theorem Err_c {w : World} {p e : Nat} {l : List UInt8} {F : List Nat} (h : Rdr w p l e F) :
    Calls Try.prog 19 #[.pointer (some ⟨p, 0, none⟩)] w fun e' w' => e' = .returned (.int .u8 e) ∧ w = w' := by
  obtain ⟨v, hb, hr, hp⟩ := h
  have c1 := hb.cell 1
  simp at c1
  clear hb hr
  go_enter Try.func19, Try.ntmps19
  go_wp2
  go_ret
  exact ⟨rfl, rfl⟩
theorem Left_nil (w : World) : Calls Try.prog 20 #[.pointer none] w fun e w' => e = .returned (.int .i64 0) ∧ w = w' := by
  go_enter Try.func20, Try.ntmps20
  go_wp2
  go_ret
  exact ⟨rfl, rfl⟩
theorem Left_c {w : World} {p e : Nat} {l : List UInt8} {F : List Nat} (h : Rdr w p l e F) :
    Calls Try.prog 20 #[.pointer (some ⟨p, 0, none⟩)] w fun e' w' => e' = .returned (.int .i64 l.length) ∧ w = w' := by
  obtain ⟨v, hb, hr, hp⟩ := h
  obtain ⟨A, cap, rfl, hc⟩ := hr.shape
  have c0 := hb.cell 0
  simp at c0
  clear hb hr
  generalize l.length = n at *
  go_enter Try.func20, Try.ntmps20
  go_wp2
  go_ret
  exact ⟨rfl, rfl⟩
theorem End_nil (w : World) : Calls Try.prog 21 #[.pointer none] w fun e w' => e = .returned (.int .u8 2) ∧ w = w' := by
  go_enter Try.func21, Try.ntmps21
  go_wp2_with (go_at_call 19; refine (Err_nil _).mono ?_; rintro e w' ⟨rfl, rfl⟩)
  go_ret
  exact ⟨rfl, rfl⟩
def endOf (l : List UInt8) (e : Nat) : Nat := if e ≠ 0 then e else if l = [] then 0 else 7
theorem End_c {w : World} {p e : Nat} {l : List UInt8} {F : List Nat} (h : Rdr w p l e F) :
    Calls Try.prog 21 #[.pointer (some ⟨p, 0, none⟩)] w fun e' w' => e' = .returned (.int .u8 (endOf l e)) ∧ w = w' := by
  have HE := Lib.hid (Err_c h)
  obtain ⟨v, hb, hr, hp⟩ := h
  obtain ⟨A, cap, rfl, hc⟩ := hr.shape
  have c0 := hb.cell 0
  simp at c0
  clear hb hr hc
  unfold endOf
  by_cases he : e = 0
  · subst he
    by_cases hl : l = []
    · subst hl
      rw [if_neg (by simp), if_pos rfl]
      go_enter Try.func21, Try.ntmps21
      go_wp2_with (go_at_call 19; refine HE.out.mono ?_; rintro e w' ⟨rfl, rfl⟩)
      go_ret
      exact ⟨rfl, rfl⟩
    · have hp : 0 < l.length := List.length_pos_iff.2 hl
      rw [if_neg (by simp), if_neg hl]
      generalize l.length = n at *
      clear hl
      go_enter Try.func21, Try.ntmps21
      go_wp2_with (go_at_call 19; refine HE.out.mono ?_; rintro e w' ⟨rfl, rfl⟩)
      go_ret
      exact ⟨rfl, rfl⟩
  · have he' : ((e : Int) != 0) = true := by rw [bne_iff_ne]; omega
    rw [if_pos he]
    generalize l.length = n at *
    clear he
    go_enter Try.func21, Try.ntmps21
    go_wp2_with (go_at_call 19; refine HE.out.mono ?_; rintro e w' ⟨rfl, rfl⟩)
    go_ret
    exact ⟨rfl, rfl⟩
end Go.Proofs.Ytlmlijmfcpenpaa

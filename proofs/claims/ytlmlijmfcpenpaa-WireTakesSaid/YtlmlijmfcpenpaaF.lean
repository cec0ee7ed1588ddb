/- The reader's Text; the chapter's example (alive). -/
import Derived.Test.YtlmlijmfcpenpaaE
set_option linter.unusedVariables false
set_option linter.unusedSimpArgs false
namespace Go.Proofs.Ytlmlijmfcpenpaa
open Go.RowKit

theorem conv_rd {w : World} {A : Option Addr} {n cap : Nat} {l : List UInt8} {F : List Nat} (h : Rd w (.slice A n cap) l F) : (convert 22 9 (.slice A n cap)).run Try.prog w = .ok (.string ⟨l.toArray⟩) w := by
  obtain ⟨hn, hc⟩ := h.len
  subst hn
  cases A with
  | none =>
    have h0 : l.length = 0 := by
      rcases Nat.eq_zero_or_pos l.length with e | e
      · exact e
      · obtain ⟨a, e, _⟩ := h.src e; simp at e
    rw [run_convert_bytes_string w 22 9 5 none _ _ Try.underlying22 Try.underlying5 Try.underlying9, List.eq_nil_of_length_eq_zero h0]
    simp [Conv.bytesToString, Sem.run_pure]
    rfl
  | some a =>
    refine run_convert_bytes_back w 22 9 5 a cap l Try.underlying22 Try.underlying5 Try.underlying9 (fun j hj => ?_)
    obtain ⟨a', e, hh⟩ := h.src (by omega)
    simp at e; subst e
    exact hh j _ (bv_get l j l[j] (List.getElem?_eq_getElem hj))

theorem Rd.recap {w : World} {A : Option Addr} {n cap c : Nat} {l : List UInt8} {F : List Nat} (h : Rd w (.slice A n cap) l F) (hc : n ≤ c) : Rd w (.slice A n c) l F := by
  obtain ⟨A', cap', e, h1, h2⟩ := h
  simp at e
  obtain ⟨rfl, rfl, rfl⟩ := e
  exact ⟨A, c, rfl, hc, h2⟩
theorem add_twice (a : Addr) (i j : Nat) : (a.add i).add j = a.add (i + j) := by
  unfold Addr.add
  by_cases hi : i = 0 <;> by_cases hj : j = 0 <;> simp [hi, hj, Nat.add_assoc]

theorem wrap0 : IntKind.u64.wrap 0 = 0 := IntWalk.u64_in 0 ⟨by omega, by omega⟩

theorem Text_nil (m : Int) (w : World) : Calls Try.prog 18 #[.pointer none, .int .i64 m] w fun e w' => e = .returned (.string ByteArray.empty) ∧ w = w' := by
  go_enter Try.func18, Try.ntmps18
  go_wp2_with (go_at_call 23; refine (num_nil _ _).mono ?_; rintro e w' ⟨rfl, rfl⟩)
  all_goals
    go_ret
    exact ⟨rfl, rfl⟩

set_option maxHeartbeats 1000000 in
theorem Text_no {w : World} {p m : Nat} (hm : m ≤ 9223372036854775807) (k : Int) (hk : (k < 0 ∧ m = 0) ∨ k = (m : Int)) (w1 : World) (H : Hid (Calls Try.prog 23 #[.pointer (some ⟨p, 0, none⟩), .int .u64 m] w fun e w' => e = .returned (.tuple #[.int .u64 0, .int .i64 0]) ∧ w' = w1)) :
    Calls Try.prog 18 #[.pointer (some ⟨p, 0, none⟩), .int .i64 k] w fun e w' => e = .returned (.string ByteArray.empty) ∧ w' = w1 := by
  rcases hk with ⟨hk, rfl⟩ | rfl
  · have hwr := wrap0
    go_enter Try.func18, Try.ntmps18
    go_wp2_with fail
    refine Calls.mono (R := fun e w' => e = .returned (.tuple #[.int .u64 0, .int .i64 0]) ∧ w' = w1) (by exact H.out) ?_
    rintro e w' ⟨rfl, rfl⟩
    go_wp2
    go_ret
    exact ⟨rfl, rfl⟩
  · have hwr : IntKind.u64.wrap (m : Int) = (m : Int) := IntWalk.u64_in _ ⟨by omega, by omega⟩
    have HM := Lib.hid hm
    have h0 : (0 : Int) ≤ m := by omega
    clear hm
    go_enter Try.func18, Try.ntmps18
    go_wp2_with fail
    refine H.out.mono ?_
    rintro e w' ⟨rfl, rfl⟩
    go_wp2
    go_ret
    exact ⟨rfl, rfl⟩

/-- The number is more than is left. -/
theorem Rdr.after {w : World} {p : Nat} {l : List UInt8} {F : List Nat} {A A' : Option Addr} {len cap s n len' cap' : Nat} (hb : Blk w p #[.slice A len cap, .int .u8 (0 : Nat)] 52) (hr : Rd w (.slice A len cap) l F) (hp : p ∉ F)
    (hs : s + n ≤ len) (hA : s + n < len → A' = A.map (·.add (s + n))) (hl : len' = len - s - n) (hc : cap' = cap - s - n) : Rdr (w.setCell ⟨p, 0, none⟩ (.slice A' len' cap')) p (l.drop (s + n)) 0 F := by
  exact Rdr.cut hb hr hp hs hA (by omega) (by omega)

set_option maxRecDepth 100000 in
set_option maxHeartbeats 4000000 in
theorem Text_more {w : World} {p : Nat} {l : List UInt8} {F : List Nat} (h : Rdr w p l 0 F) (hl : l.length ≤ 100000) (n s m : Nat) (hx : scan 0 0 l = (n, s, 0)) (hm : n ≤ m) (h0 : 0 < s) (h1 : s ≤ l.length) (h2 : l.length - s < n)
    (hm1 : m ≤ 9223372036854775807) :
    Calls Try.prog 18 #[.pointer (some ⟨p, 0, none⟩), .int .i64 m] w fun e w' => e = .returned (.string ByteArray.empty) ∧ w' = w.setCell ⟨p, 1, none⟩ (.int .u8 (11 : Nat)) := by
  have HN := Lib.hid (num_ok h hl n s m hx hm)
  obtain ⟨v, hb, hr, hp⟩ := h
  obtain ⟨A, cap, rfl, hc⟩ := hr.shape
  have c0 := hb.cell 0
  have f1 := hb.froz 1
  have c1 := hb.cell 1
  simp at c0 c1
  clear hb hr hx
  generalize l.length = len at *
  have hwr : IntKind.u64.wrap (m : Int) = (m : Int) := IntWalk.u64_in _ ⟨by omega, by omega⟩
  have hwr2 : IntKind.u64.wrap ((len : Int) - s) = (len : Int) - s := IntWalk.u64_in _ ⟨by omega, by omega⟩
  have HM := Lib.hid hm1
  have h0' : (0 : Int) ≤ m := by omega
  have h2' : ((len : Int) - s) < (n : Int) := by omega
  clear hm1 hm h2
  by_cases hcs : cap = s
  · subst hcs
    go_enter Try.func18, Try.ntmps18
    go_wp2_with fail
    refine HN.out.mono ?_
    rintro e w' ⟨rfl, rfl⟩
    go_wp2
    go_ret
    exact ⟨rfl, rfl⟩
  · go_enter Try.func18, Try.ntmps18
    go_wp2_with fail
    refine HN.out.mono ?_
    rintro e w' ⟨rfl, rfl⟩
    go_wp2
    go_ret
    exact ⟨rfl, rfl⟩

set_option maxRecDepth 100000 in
set_option maxHeartbeats 4000000 in
theorem Text_yes {w : World} {p : Nat} {l : List UInt8} {F : List Nat} (h : Rdr w p l 0 F) (hl : l.length ≤ 100000) (n s m : Nat) (hx : scan 0 0 l = (n, s, 0)) (hm : n ≤ m) (h0 : 0 < s) (h1 : s ≤ l.length) (h2 : n ≤ l.length - s)
    (hm1 : m ≤ 9223372036854775807) :
    Calls Try.prog 18 #[.pointer (some ⟨p, 0, none⟩), .int .i64 m] w fun e w' => e = .returned (.string ⟨((l.drop s).take n).toArray⟩) ∧ Rdr w' p (l.drop (s + n)) 0 F ∧ Mod [p] w w' := by
  have HN := Lib.hid (num_ok h hl n s m hx hm)
  obtain ⟨v, hb, hr, hp⟩ := h
  obtain ⟨A, cap, rfl, hc⟩ := hr.shape
  have c0 := hb.cell 0
  have f0 := hb.froz 0
  simp at c0
  have HB := Lib.hid hb
  have HR := Lib.hid hr
  clear hb hr hx
  generalize hlen : l.length = len at *
  have HL := Lib.hid hlen
  clear hlen
  have hwr : IntKind.u64.wrap (m : Int) = (m : Int) := IntWalk.u64_in _ ⟨by omega, by omega⟩
  have hwr2 : IntKind.u64.wrap ((len : Int) - s) = (len : Int) - s := IntWalk.u64_in _ ⟨by omega, by omega⟩
  have HM := Lib.hid hm1
  have h0' : (0 : Int) ≤ m := by omega
  have h2' : (n : Int) ≤ ((len : Int) - s) := by omega
  clear hm1 hm
  by_cases hcs : cap = s
  · obtain rfl : n = 0 := by omega
    have hcv : Hid (∀ W : World, (convert 22 9 (.slice A 0 0)).run Try.prog W = .ok (.string ⟨((l.drop s).take 0).toArray⟩) W) := fun W => conv_rd (l := []) (F := []) (A := A) (n := 0) (cap := 0) ⟨A, 0, rfl, by simp, fun h => absurd h (by simp)⟩
    generalize (⟨((l.drop s).take 0).toArray⟩ : ByteArray) = txt at *
    have hcv' := hcv.out
    subst hcs
    go_enter Try.func18, Try.ntmps18
    go_wp2_with fail
    refine HN.out.mono ?_
    rintro e w' ⟨rfl, rfl⟩
    go_wp2
    go_ret
    refine ⟨rfl, ?_, (Mod.refl _ _).setCell _ _ (by simp)⟩
    refine Rdr.cut HB.out HR.out hp ?_ (fun _ => ?_) ?_ ?_
    all_goals omega
  · have hcv : Hid (∀ (v : Value) (c : Nat), n ≤ c → (convert 22 9 (.slice (Option.map ((fun x => x) ∘ fun x => x.add s) A) n c)).run Try.prog (w.setCell ⟨p, 0, none⟩ v) = .ok (.string ⟨((l.drop s).take n).toArray⟩) (w.setCell ⟨p, 0, none⟩ v)) := fun v c hc => by
      refine conv_rd (F := F) (Rd.recap (Rd.take (n := len - s) ((HR.out.mod (S := [p]) ((Mod.refl _ _).setCell _ _ (by simp)) (by simp; intro k hk e; subst e; exact hp hk)).drop s h1 _ (fun _ => rfl)) n (by omega)) hc)
    generalize (⟨((l.drop s).take n).toArray⟩ : ByteArray) = txt at *
    have hcv1 := fun v => hcv.out v n (Nat.le_refl _)
    have hcv2 := fun v => hcv.out v (cap - s) (by omega)
    go_enter Try.func18, Try.ntmps18
    go_wp2_with fail
    refine HN.out.mono ?_
    rintro e w' ⟨rfl, rfl⟩
    go_wp2
    · go_ret
      refine ⟨rfl, ?_, (Mod.refl _ _).setCell _ _ (by simp)⟩
      refine Rdr.after HB.out HR.out hp ?_ (fun _ => ?_) ?_ ?_
      all_goals omega
    · go_ret
      refine ⟨rfl, ?_, (Mod.refl _ _).setCell _ _ (by simp)⟩
      refine Rdr.after HB.out HR.out hp ?_ (fun _ => ?_) ?_ ?_
      · omega
      · cases A <;> simp [add_twice]
      · omega
      · omega

set_option maxRecDepth 100000 in
set_option maxHeartbeats 4000000 in
theorem Text_neg {w : World} {p : Nat} {l : List UInt8} {F : List Nat} (h : Rdr w p l 0 F) (hl : l.length ≤ 100000) (s : Nat) (hx : scan 0 0 l = (0, s, 0)) (h0 : 0 < s) (h1 : s ≤ l.length) (k : Int) (hk : k < 0) :
    Calls Try.prog 18 #[.pointer (some ⟨p, 0, none⟩), .int .i64 k] w fun e w' => e = .returned (.string ⟨((l.drop s).take 0).toArray⟩) ∧ Rdr w' p (l.drop (s + 0)) 0 F ∧ Mod [p] w w' := by
  have HN := Lib.hid (num_ok h hl 0 s 0 hx (Nat.le_refl _))
  obtain ⟨v, hb, hr, hp⟩ := h
  obtain ⟨A, cap, rfl, hc⟩ := hr.shape
  have c0 := hb.cell 0
  have f0 := hb.froz 0
  simp at c0
  have HB := Lib.hid hb
  have HR := Lib.hid hr
  clear hb hr hx
  generalize hlen : l.length = len at *
  have HL := Lib.hid hlen
  clear hlen
  have hwr := wrap0
  have hwr2 : IntKind.u64.wrap ((len : Int) - s) = (len : Int) - s := IntWalk.u64_in _ ⟨by omega, by omega⟩
  by_cases hcs : cap = s
  · have hcv : Hid (∀ W : World, (convert 22 9 (.slice A 0 0)).run Try.prog W = .ok (.string ⟨((l.drop s).take 0).toArray⟩) W) := fun W => conv_rd (l := []) (F := []) (A := A) (n := 0) (cap := 0) ⟨A, 0, rfl, by simp, fun h => absurd h (by simp)⟩
    generalize (⟨((l.drop s).take 0).toArray⟩ : ByteArray) = txt at *
    have hcv' := hcv.out
    subst hcs
    go_enter Try.func18, Try.ntmps18
    go_wp2_with fail
    refine Calls.mono (R := fun e w' => e = .returned (.tuple #[.int .u64 0, .int .i64 cap]) ∧ w = w') (by exact HN.out) ?_
    rintro e w' ⟨rfl, rfl⟩
    go_wp2
    go_ret
    refine ⟨rfl, ?_, (Mod.refl _ _).setCell _ _ (by simp)⟩
    refine Rdr.cut HB.out HR.out hp ?_ (fun _ => ?_) ?_ ?_
    all_goals omega
  · have hcv : Hid (∀ (v : Value) (c : Nat), 0 ≤ c → (convert 22 9 (.slice (Option.map ((fun x => x) ∘ fun x => x.add s) A) 0 c)).run Try.prog (w.setCell ⟨p, 0, none⟩ v) = .ok (.string ⟨((l.drop s).take 0).toArray⟩) (w.setCell ⟨p, 0, none⟩ v)) := fun v c hc => by
      refine conv_rd (F := F) (Rd.recap (Rd.take (n := len - s) ((HR.out.mod (S := [p]) ((Mod.refl _ _).setCell _ _ (by simp)) (by simp; intro k hk e; subst e; exact hp hk)).drop s h1 _ (fun _ => rfl)) 0 (by omega)) hc)
    generalize (⟨((l.drop s).take 0).toArray⟩ : ByteArray) = txt at *
    have hcv1 := fun v => hcv.out v 0 (Nat.le_refl _)
    have hcv2 := fun v => hcv.out v (cap - s) (by omega)
    go_enter Try.func18, Try.ntmps18
    go_wp2_with fail
    refine Calls.mono (R := fun e w' => e = .returned (.tuple #[.int .u64 0, .int .i64 s]) ∧ w = w') (by exact HN.out) ?_
    rintro e w' ⟨rfl, rfl⟩
    go_wp2
    go_ret
    refine ⟨rfl, ?_, (Mod.refl _ _).setCell _ _ (by simp)⟩
    refine Rdr.cut HB.out HR.out hp ?_ (fun _ => ?_) ?_ ?_
    · omega
    · rfl
    · omega
    · omega

/-- What Text tells, plain. -/
def textStep (l : List UInt8) (e most : Nat) : List UInt8 × List UInt8 × Nat :=
  if e ≠ 0 then ([], l, e) else if (scan 0 0 l).2.2 ≠ 0 then ([], l, (scan 0 0 l).2.2) else if most < (scan 0 0 l).1 then ([], l, 12)
  else if l.length - (scan 0 0 l).2.1 < (scan 0 0 l).1 then ([], l, 11)
  else ((l.drop (scan 0 0 l).2.1).take (scan 0 0 l).1, l.drop ((scan 0 0 l).2.1 + (scan 0 0 l).1), 0)

theorem Text_c {w : World} {p e : Nat} {l : List UInt8} {F : List Nat} (h : Rdr w p l e F) (hl : l.length ≤ 100000) (k : Int) (m : Nat) (hm : m ≤ 9223372036854775807) (hk : (k < 0 ∧ m = 0) ∨ k = (m : Int)) :
    Calls Try.prog 18 #[.pointer (some ⟨p, 0, none⟩), .int .i64 k] w fun e' w' => e' = .returned (.string ⟨(textStep l e m).1.toArray⟩) ∧ Rdr w' p (textStep l e m).2.1 (textStep l e m).2.2 F ∧ Mod [p] w w' := by
  unfold textStep
  by_cases he : e = 0
  · subst he
    rw [if_neg (by simp)]
    rcases scan_ok (i := 0) (acc := 0) (l := l) (by simp) (by omega) with ⟨a, b, c, d, _⟩ | hx
    · obtain ⟨n, s, x, hx⟩ : ∃ n s x, scan 0 0 l = (n, s, x) := ⟨_, _, _, rfl⟩
      rw [hx] at a b c d
      simp only at a b c d
      subst a
      rw [hx]
      simp only [ne_eq, not_true, if_false]
      by_cases hmn : m < n
      · rw [if_pos hmn]
        exact (Text_no hm k hk _ (num_large h hl n s m hx hmn)).mono fun e' w' ⟨q, r⟩ => ⟨q, by rw [r]; exact h.err 12, by rw [r]; exact (Mod.refl _ _).setCell _ _ (by simp)⟩
      · rw [if_neg hmn]
        rcases hk with ⟨hk, rfl⟩ | rfl
        · obtain rfl : n = 0 := by omega
          rw [if_neg (by omega)]
          exact Text_neg h hl s hx (by omega) (by omega) k hk
        · by_cases hn : l.length - s < n
          · rw [if_pos hn]
            exact (Text_more h hl n s m hx (by omega) b (by omega) hn hm).mono fun e' w' ⟨q, r⟩ => ⟨q, by rw [r]; exact h.err 11, by rw [r]; exact (Mod.refl _ _).setCell _ _ (by simp)⟩
          · rw [if_neg hn]
            exact Text_yes h hl n s m hx (by omega) b (by omega) (by omega) hm
    · obtain ⟨x, hx, hx0⟩ : ∃ x, scan 0 0 l = (0, 0, x) ∧ x ≠ 0 := by
        rcases hx with hx | hx
        · exact ⟨7, hx, by omega⟩
        · exact ⟨11, hx, by omega⟩
      rw [hx]
      simp only [ne_eq, hx0, not_false_iff, if_true]
      exact (Text_no hm k hk _ (num_err h hl x hx hx0 _)).mono fun e' w' ⟨q, r⟩ => ⟨q, by rw [r]; exact h.err x, by rw [r]; exact (Mod.refl _ _).setCell _ _ (by simp)⟩
  · rw [if_pos he]
    exact (Text_no hm k hk _ ((num_bad h he _).mono fun e' w' ⟨q, r⟩ => ⟨q, r.symm⟩)).mono fun e' w' ⟨q, r⟩ => ⟨q, by rw [r]; exact h, by rw [r]; exact Mod.refl _ _⟩
end Go.Proofs.Ytlmlijmfcpenpaa

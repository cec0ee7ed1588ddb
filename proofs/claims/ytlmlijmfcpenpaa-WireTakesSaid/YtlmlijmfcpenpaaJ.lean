/- The law WireTakes. -/
import Derived.Test.YtlmlijmfcpenpaaH
import Derived.Test.YtlmlijmfcpenpaaI
set_option linter.unusedVariables false
set_option linter.unusedSimpArgs false
namespace Go.Proofs.Ytlmlijmfcpenpaa
open Go.RowKit

theorem first_c (e c : Nat) (w : World) : Calls Try.prog 16 #[.int .i64 e, .int .i64 c] w fun e' w' => e' = .returned (.int .i64 (if e = 0 then c else e : Nat)) ∧ w = w' := by
  by_cases h : e = 0
  · subst h
    rw [if_pos rfl]
    go_enter Try.func16, Try.ntmps16
    go_wp2
    go_ret
    exact ⟨rfl, rfl⟩
  · have hb : ((e : Int) == 0) = false := by rw [beq_eq_false_iff_ne]; omega
    rw [if_neg h]
    clear h
    go_enter Try.func16, Try.ntmps16
    go_wp2
    go_ret
    exact ⟨rfl, rfl⟩

theorem wrap_neg {n : Nat} (h : ¬ n ≤ 9223372036854775807) (h2 : n < 18446744073709551616) : wrap64 (n : Int) < 0 := by
  unfold wrap64; omega

theorem mo_split {mo : Nat} (h : Hid (mo < 18446744073709551616)) :
    (Hid (wrap64 (mo : Int) = (mo : Int)) ∧ Hid (IntKind.u64.wrap (mo : Int) = (mo : Int)) ∧ Hid (mo ≤ 9223372036854775807)) ∨ Hid (wrap64 (mo : Int) < 0) := by
  have h' := h.out
  by_cases hm : mo ≤ 9223372036854775807
  · exact .inl ⟨IntWalk.wrap64_in _ ⟨by omega, by omega⟩, IntWalk.u64_in _ ⟨by omega, by omega⟩, hm⟩
  · exact .inr (Lib.hid (wrap_neg hm h'))
theorem wrap_le {n m : Nat} (h : Hid (m ≤ 9223372036854775807)) (hn : n ≤ m) : Hid (wrap64 (n : Int) = (n : Int)) := by
  have h' := h.out
  show _ = _
  exact IntWalk.wrap64_in _ ⟨by omega, by omega⟩
theorem zero_le63 : Hid (0 ≤ 9223372036854775807) := Nat.zero_le _

theorem Recs.at2 {w : World} {a : Option Addr} {len cap : Nat} {k0 k1 : IntKind} {z : Nat → Nat → Int} (h : Recs w a len cap [k0, k1] z) (i : Nat) (hi : i < len) :
    ∃ b off, a = some ⟨b, off, none⟩ ∧ b < w.heap.size ∧ (w.cell? ⟨b, off + i * 2, none⟩ = some (.int k0 (z i 0)) ∧ w.cell? ⟨b, off + i * 2 + 1, none⟩ = some (.int k1 (z i 1))) ∧
      (Lit.int k0 (z i 0)).wf = true ∧ (Lit.int k1 (z i 1)).wf = true := by
  obtain ⟨b, off, ha, hb, hc⟩ := h.2 i hi
  have h0 := hc 0 k0 rfl
  have h1 := hc 1 k1 rfl
  exact ⟨b, off, ha, hb, ⟨h0.1, h1.1⟩, h0.2, h1.2⟩

/-- The reader at p has the bytes of l from a on, and the error e. -/
structure TSt (w wr : World) (p : Nat) (l : List UInt8) (F : List Nat) (a e : Nat) : Prop where
  rdr : Rdr wr p (l.drop a) e F
  mod : Mod [] w wr
  new : w.heap.size ≤ p
  len : l.length ≤ 1000
  ale : a ≤ l.length

section
variable {w wr : World} {p : Nat} {l : List UInt8} {F : List Nat} {a e : Nat}
theorem TSt.short (h : TSt w wr p l F a e) : (l.drop a).length ≤ 100000 := by rw [List.length_drop]; have := h.len; omega
theorem TSt.step (h : TSt w wr p l F a e) {w' : World} {a' e' : Nat} (hr : Rdr w' p (l.drop a') e' F) (hm : Mod [p] wr w') (ha : a' ≤ l.length) : TSt w w' p l F a' e' :=
  ⟨hr, h.mod.trans hm (by have := h.new; simp; omega), h.new, h.len, ha⟩
theorem TSt.num (h : TSt w wr p l F a e) (m x a' e' : Nat) (ha : a' ≤ l.length) (hx : numStep (l.drop a) e m = (x, l.drop a', e')) :
    Calls Try.prog 15 #[.pointer (some ⟨p, 0, none⟩), .int .u64 m] wr fun r w' => r = .returned (.int .u64 x) ∧ TSt w w' p l F a' e' := by
  have := Num_c h.rdr h.short m
  rw [hx] at this
  exact this.mono fun r w' ⟨q, b, c⟩ => ⟨q, h.step b c ha⟩
theorem TSt.text (h : TSt w wr p l F a e) (k : Int) (m : Nat) (hm : m ≤ 9223372036854775807) (hk : (k < 0 ∧ m = 0) ∨ k = (m : Int)) (t : List UInt8) (a' e' : Nat) (ha : a' ≤ l.length) (hx : textStep (l.drop a) e m = (t, l.drop a', e')) :
    Calls Try.prog 18 #[.pointer (some ⟨p, 0, none⟩), .int .i64 k] wr fun r w' => r = .returned (.string ⟨t.toArray⟩) ∧ TSt w w' p l F a' e' := by
  have := Text_c h.rdr h.short k m hm hk
  rw [hx] at this
  exact this.mono fun r w' ⟨q, b, c⟩ => ⟨q, h.step b c ha⟩
theorem TSt.byte_bad (h : TSt w wr p l F a e) (he : e ≠ 0) : Calls Try.prog 17 #[.pointer (some ⟨p, 0, none⟩)] wr fun r w' => r = .returned (.int .u8 0) ∧ TSt w w' p l F a e :=
  (Byte_bad h.rdr he).mono fun r w' ⟨q, b⟩ => ⟨q, b ▸ h⟩
theorem TSt.byte_end (h : TSt w wr p l F a 0) (ha : l.length ≤ a) : Calls Try.prog 17 #[.pointer (some ⟨p, 0, none⟩)] wr fun r w' => r = .returned (.int .u8 0) ∧ TSt w w' p l F a 11 := by
  have hr := h.rdr
  have e : l.drop a = [] := List.drop_eq_nil_of_le ha
  rw [e] at hr
  refine (Byte_end hr).mono fun r w' ⟨q, b⟩ => ⟨q, h.step ?_ (by rw [b]; exact (Mod.refl _ _).setCell _ _ (by simp)) h.ale⟩
  rw [b, e]; exact hr.err 11
theorem TSt.byte_one (h : TSt w wr p l F a e) (he : e = 0) (ha : a < l.length) : Calls Try.prog 17 #[.pointer (some ⟨p, 0, none⟩)] wr fun r w' => r = .returned (.int .u8 l[a].toNat) ∧ TSt w w' p l F (a + 1) e := by
  subst he
  have hr := h.rdr
  rw [List.drop_eq_getElem_cons ha] at hr
  exact (Byte_one hr (by rw [List.length_drop]; have := h.len; omega)).mono fun r w' ⟨q, b, c⟩ => ⟨q, h.step b c (by omega)⟩
theorem TSt.err (h : TSt w wr p l F a e) : Calls Try.prog 19 #[.pointer (some ⟨p, 0, none⟩)] wr fun r w' => r = .returned (.int .u8 e) ∧ wr = w' := Err_c h.rdr
theorem TSt.left (h : TSt w wr p l F a e) (x : Int) (hx : x = (l.length : Int) - a) : Calls Try.prog 20 #[.pointer (some ⟨p, 0, none⟩)] wr fun r w' => r = .returned (.int .i64 x) ∧ wr = w' := by
  refine (Left_c h.rdr).mono fun r w' ⟨q, b⟩ => ⟨?_, b⟩
  rw [q, hx, List.length_drop]
  have := h.ale
  congr 2; omega
end

theorem takeM_scan (l : List UInt8) (m : Nat) : takeM l m = if (scan 0 0 l).2.2 ≠ 0 then (0, 0, (scan 0 0 l).2.2) else if m < (scan 0 0 l).1 then (0, 0, 12) else scan 0 0 l := by
  unfold takeM; rw [scan_take1]
theorem takeM_facts (l : List UInt8) (m : Nat) : ((takeM l m).2.2 = 0 ∧ (takeM l m).1 ≤ m ∧ 0 < (takeM l m).2.1 ∧ (takeM l m).2.1 ≤ l.length) ∨ (∃ c, takeM l m = (0, 0, c) ∧ c ≠ 0 ∧ c ≤ 12) := by
  rw [takeM_scan]
  rcases scan_ok (i := 0) (acc := 0) (l := l) (by simp) (by omega) with ⟨a, b, c, d, _⟩ | h
  · rw [if_neg (by simp [a])]
    by_cases hm : m < (scan 0 0 l).1
    · rw [if_pos hm]; exact .inr ⟨12, rfl, by omega, by omega⟩
    · rw [if_neg hm]; exact .inl ⟨a, by omega, b, by omega⟩
  · right
    rcases h with h | h
    · rw [h]; exact ⟨7, rfl, by omega, by omega⟩
    · rw [h]; exact ⟨11, rfl, by omega, by omega⟩
theorem numStep_bad {l : List UInt8} {e m : Nat} (he : e ≠ 0) : numStep l e m = (0, l, e) := by unfold numStep; rw [if_pos he]
theorem numStep_err {l : List UInt8} {m c : Nat} (h : takeM l m = (0, 0, c)) (hc : c ≠ 0) : numStep l 0 m = (0, l, c) := by
  rw [takeM_scan] at h
  unfold numStep
  rw [if_neg (by simp)]
  by_cases h1 : (scan 0 0 l).2.2 ≠ 0
  · rw [if_pos h1] at h ⊢
    simp at h; rw [h]
  · rw [if_neg h1] at h ⊢
    by_cases h2 : m < (scan 0 0 l).1
    · rw [if_pos h2] at h ⊢
      simp at h; rw [← h]
    · rw [if_neg h2] at h
      rw [h] at h1; exact absurd hc (by simpa using h1)
theorem numStep_ok {l : List UInt8} {m n s : Nat} (h : takeM l m = (n, s, 0)) : numStep l 0 m = (n, l.drop s, 0) := by
  rw [takeM_scan] at h
  unfold numStep
  rw [if_neg (by simp)]
  by_cases h1 : (scan 0 0 l).2.2 ≠ 0
  · rw [if_pos h1] at h
    simp at h; exact absurd h.2.2 h1
  · rw [if_neg h1] at h ⊢
    by_cases h2 : m < (scan 0 0 l).1
    · rw [if_pos h2] at h; simp at h
    · rw [if_neg h2] at h ⊢
      rw [h]
theorem textStep_bad {l : List UInt8} {e m : Nat} (he : e ≠ 0) : textStep l e m = ([], l, e) := by unfold textStep; rw [if_pos he]
theorem textStep_err {l : List UInt8} {m c : Nat} (h : takeM l m = (0, 0, c)) (hc : c ≠ 0) : textStep l 0 m = ([], l, c) := by
  rw [takeM_scan] at h
  unfold textStep
  rw [if_neg (by simp)]
  by_cases h1 : (scan 0 0 l).2.2 ≠ 0
  · rw [if_pos h1] at h ⊢
    simp at h; rw [h]
  · rw [if_neg h1] at h ⊢
    by_cases h2 : m < (scan 0 0 l).1
    · rw [if_pos h2] at h ⊢
      simp at h; rw [← h]
    · rw [if_neg h2] at h
      rw [h] at h1; exact absurd hc (by simpa using h1)
theorem textStep_ok {l : List UInt8} {m n s : Nat} (h : takeM l m = (n, s, 0)) : textStep l 0 m = if l.length - s < n then ([], l, 11) else ((l.drop s).take n, l.drop (s + n), 0) := by
  rw [takeM_scan] at h
  unfold textStep
  rw [if_neg (by simp)]
  by_cases h1 : (scan 0 0 l).2.2 ≠ 0
  · rw [if_pos h1] at h
    simp at h; exact absurd h.2.2 h1
  · rw [if_neg h1] at h ⊢
    by_cases h2 : m < (scan 0 0 l).1
    · rw [if_pos h2] at h; simp at h
    · rw [if_neg h2] at h ⊢
      rw [h]
end Go.Proofs.Ytlmlijmfcpenpaa

/- The operations on numbers that are not too great, each in one line: 'Num w v n': the value v reads as n; 'CNum': without words 0 at its end. -/
import Derived.Test.YtkldjllnnbablaaDoorSH
set_option linter.unusedVariables false
set_option linter.unusedSimpArgs false
namespace Go.Proofs.YtkldjllnnbablaaDoor
open Go.RowKit Go.Shelf

def Num (w : World) (v : Value) (n : Nat) : Prop := ∃ l F, Nv w v l F ∧ vl B64 l = n ∧ l.length ≤ 80
def CNum (w : World) (v : Value) (n : Nat) : Prop := ∃ l F, Nv w v l F ∧ Can B64 l n ∧ l.length ≤ 64
theorem CNum.num {w : World} {v : Value} {n : Nat} (h : CNum w v n) : Num w v n := by
  obtain ⟨l, F, h1, h2, h3⟩ := h; exact ⟨l, F, h1, h2.val, by omega⟩
theorem Num.mod {w w' : World} {v : Value} {n : Nat} (h : Num w v n) (m : Mod [] w w') : Num w' v n := by
  obtain ⟨l, F, h1, h2⟩ := h; exact ⟨l, F, h1.mod m (by simp), h2⟩
theorem CNum.mod {w w' : World} {v : Value} {n : Nat} (h : CNum w v n) (m : Mod [] w w') : CNum w' v n := by
  obtain ⟨l, F, h1, h2⟩ := h; exact ⟨l, F, h1.mod m (by simp), h2⟩
theorem CNum.of_new {w w' : World} {v : Value} {n : Nat} (h : NNew w n w' v) (hn : n < lim) : CNum w' v n := by
  obtain ⟨l, F, hc, hv, -⟩ := h.nv
  exact ⟨l, F, hv, hc, hc.fits64.2 hn⟩
/-- What is told of a number that is not too great. -/
theorem Told.yes {w w' : World} {q : Bool} {n : Nat} {e : Ending} (h : Told w q n e w') (hq : q = true) (hn : n < lim) : ∃ v', e = .returned (.tuple #[v', .bool true]) ∧ CNum w' v' n ∧ Mod [] w w' := by
  rcases h with ⟨_, v', he, hv⟩ | ⟨h, _⟩
  · exact ⟨v', he, .of_new hv hn, hv.mod⟩
  · rw [hq] at h; simp at h
theorem Told.no {w w' : World} {q : Bool} {n : Nat} {e : Ending} (h : Told w q n e w') (hq : q = false) : e = .returned (.tuple #[.slice none 0 0, .bool false]) ∧ Mod [] w w' := by
  rcases h with ⟨h, _⟩ | ⟨_, he, hm⟩
  · rw [hq] at h; simp at h
  · exact ⟨he, hm⟩

section
variable {w : World} {v1 v2 : Value} {a b : Nat}
theorem num_add (h1 : Num w v1 a) (h2 : Num w v2 b) (h : a + b < lim) : Calls Tryd.prog 24 #[v1, v2] w fun e w' => ∃ v', e = .returned (.tuple #[v', .bool true]) ∧ CNum w' v' (a + b) ∧ Mod [] w w' := by
  obtain ⟨l, F, n1, rfl, q1⟩ := h1
  obtain ⟨l2, F2, n2, rfl, q2⟩ := h2
  exact (add_c n1 n2 (by omega) (by omega)).mono fun e w' ht => ht.yes (decide_eq_true h) h
theorem num_mul (h1 : Num w v1 a) (h2 : Num w v2 b) (ha : a < lim) (hb : b < lim) (h : a * b < lim) : Calls Tryd.prog 28 #[v1, v2] w fun e w' => ∃ v', e = .returned (.tuple #[v', .bool true]) ∧ CNum w' v' (a * b) ∧ Mod [] w w' := by
  obtain ⟨l, F, n1, rfl, q1⟩ := h1
  obtain ⟨l2, F2, n2, rfl, q2⟩ := h2
  exact (mul_c n1 n2 (by omega) (by omega)).mono fun e w' ht => ht.yes (by rw [decide_eq_true ha, decide_eq_true hb, decide_eq_true h]; rfl) h
theorem num_sub (h1 : Num w v1 a) (h2 : Num w v2 b) (ha : a < lim) (h : b ≤ a) : Calls Tryd.prog 25 #[v1, v2] w fun e w' => ∃ v', e = .returned (.tuple #[v', .bool true]) ∧ CNum w' v' (a - b) ∧ Mod [] w w' := by
  obtain ⟨l, F, n1, rfl, q1⟩ := h1
  obtain ⟨l2, F2, n2, rfl, q2⟩ := h2
  exact (sub_c n1 n2 (by omega) (by omega)).mono fun e w' ht => ht.yes (by rw [decide_eq_true ha, decide_eq_true h]; rfl) (by omega)
theorem num_same (h1 : Num w v1 a) (h2 : Num w v2 b) (h : a = b) : Calls Tryd.prog 19 #[v1, v2] w fun e w' => e = .returned (.int .i64 0) ∧ Mod [] w w' := by
  obtain ⟨l, F, n1, rfl, q1⟩ := h1
  obtain ⟨l2, F2, n2, rfl, q2⟩ := h2
  refine (cmp_c n1 n2 (by omega) (by omega)).mono fun e w' ht => ⟨?_, ht.2⟩
  rw [ht.1, h, cmpN, if_neg (Nat.lt_irrefl _), if_neg (Nat.lt_irrefl _)]
theorem num_div (h1 : Num w v1 a) (ha : a < lim) (m : Nat) (hm : 0 < m) (hmB : m < B64) : Calls Tryd.prog 12 #[v1, .int .u64 m] w fun e w' => ∃ v', e = .returned (.tuple #[v', .int .u64 ((a % m : Nat) : Int), .bool true]) ∧ CNum w' v' (a / m) ∧ Mod [] w w' := by
  obtain ⟨l, F, n1, rfl, q1⟩ := h1
  refine (div_c n1 (by omega) m hmB).mono fun e w' ht => ?_
  rcases ht with ⟨_, _, v', he, hv⟩ | ⟨h, _⟩
  · exact ⟨v', he, .of_new hv (Nat.lt_of_le_of_lt (Nat.div_le_self _ _) ha), hv.mod⟩
  · omega
theorem num_of (n : Nat) (hn : n < B64) : Calls Tryd.prog 23 #[.int .u64 n] w fun e w' => ∃ v', e = .returned v' ∧ CNum w' v' n ∧ Mod [] w w' :=
  (of_c n hn w).mono fun e w' ⟨v', he, hv⟩ => ⟨v', he, .of_new hv (lim_of (m := 1) (by rw [Nat.pow_one]; exact hn) (by omega)), hv.mod⟩
theorem num_sameWords (h1 : CNum w v1 a) (h2 : CNum w v2 b) (h : a = b) : Calls Tryd.prog 20 #[v1, v2] w fun e w' => e = .returned (.bool true) ∧ Mod [] w w' := by
  obtain ⟨l, F, n1, c1, q1⟩ := h1
  obtain ⟨l2, F2, n2, c2, q2⟩ := h2
  subst h
  obtain rfl := Can.uniq one_lt_B c1 c2
  refine (sameWords_c n1 n2 (by omega) (by omega)).mono fun e w' ht => ⟨?_, ht.2⟩
  rw [ht.1, decide_eq_true rfl]
end

/-- What is written is digits, and reads as the number. -/
theorem textOf_read {d : List Nat} {n : Nat} (h : Can 10 d n) : writ (textOf d) = true ∧ rdv (textOf d) = n ∧ (∀ m, d.length ≤ m + 1 → (textOf d).length ≤ m + 1) := by
  unfold textOf
  by_cases h0 : d = []
  · subst h0
    obtain rfl := h.nil_val
    rw [if_pos rfl]
    exact ⟨writ_lone.1, writ_lone.2, fun m _ => by simp⟩
  · rw [if_neg h0]
    have hu : ∀ x ∈ d, (UInt8.ofNat (48 + x)).toNat = 48 + x := fun x hx => u8_digit (h.lt x hx)
    have hdg : dg (d.reverse.map fun x => UInt8.ofNat (48 + x)) = d.reverse := by
      unfold dg
      rw [List.map_map]
      conv => rhs; rw [← List.map_id d.reverse]
      apply List.map_congr_left
      intro x hx
      simp only [Function.comp_apply, id_eq]
      rw [hu x (by simpa using hx)]; omega
    have hall : ∀ c ∈ (d.reverse.map fun x => UInt8.ofNat (48 + x)), isDig c = true := by
      intro c hc
      obtain ⟨x, hx, rfl⟩ := List.mem_map.1 hc
      rw [isDig_iff, hu x (by simpa using hx)]
      have := h.lt x (by simpa using hx)
      omega
    refine ⟨writ_yes hall ?_ ?_, ?_, fun m hm => by simpa using hm⟩
    · rw [List.length_map, List.length_reverse]; exact List.length_pos_iff.2 h0
    · intro hh
      rw [List.head?_map, List.head?_reverse] at hh
      obtain ⟨x, hx, hx2⟩ := Option.map_eq_some_iff.1 hh
      have hm := List.mem_of_getLast? hx
      have h1 := h.last x hx
      have h2 := hu x hm
      rw [hx2] at h2
      have : (48 : UInt8).toNat = 48 := rfl
      omega
    · unfold rdv
      rw [hdg, List.reverse_reverse]
      exact h.val

theorem num_text {w : World} {v1 : Value} {a : Nat} (h1 : Num w v1 a) (ha : a < lim) : Calls Tryd.prog 31 #[v1] w fun e w' => ∃ d, Can 10 d a ∧ e = .returned (.tuple #[.string ⟨(textOf d).toArray⟩, .bool true]) ∧ Mod [] w w' := by
  obtain ⟨l, F, n1, rfl, q1⟩ := h1
  refine (text_c n1 (by omega)).mono fun e w' ht => ?_
  rcases ht with ⟨hm, ⟨_, d, hd, he⟩ | ⟨h, _⟩⟩
  · exact ⟨d, hd, he, hm⟩
  · exact absurd ha h
/-- The text of a number that is not too great. -/
theorem num_parse {w : World} {d : List Nat} {a : Nat} (hd : Can 10 d a) (ha : a < lim) (hl : d.length ≤ 1234) : Calls Tryd.prog 32 #[.string ⟨(textOf d).toArray⟩] w fun e w' => ∃ v', e = .returned (.tuple #[v', .bool true]) ∧ CNum w' v' a ∧ Mod [] w w' := by
  obtain ⟨t1, t2, t3⟩ := textOf_read hd
  have h3 := t3 1233 hl
  have e1 : (⟨(textOf d).toArray⟩ : ByteArray).data.toList = textOf d := rfl
  have e2 : (⟨(textOf d).toArray⟩ : ByteArray).size = (textOf d).length := rfl
  refine (parse_c ⟨(textOf d).toArray⟩ (by omega) w).mono fun e w' ht => ?_
  rw [e1, e2, t1, t2] at ht
  exact ht.yes (by rw [decide_eq_true (show (textOf d).length ≤ 1234 by omega), decide_eq_true ha]; rfl) ha
end Go.Proofs.YtkldjllnnbablaaDoor

/- The document's list: contract of the reference's Get. -/
import Derived.Test.YtkbpcilcpaomfaaC
set_option linter.unusedVariables false
set_option linter.unusedSimpArgs false
namespace Go.Proofs.Ytkbpcilcpaomfaa
open Go.RowKit

/-- The last entry at a place. -/
def lastAt (L : List (Nat × Int)) (n q : Nat) : Option (Nat × Int) := L.reverse.find? (fun x => x.1 % n == q)

theorem lastAt_snoc (L : List (Nat × Int)) (n q k : Nat) (v : Int) : lastAt (L ++ [(k, v)]) n q = if k % n = q then some (k, v) else lastAt L n q := by
  unfold lastAt
  rw [List.reverse_append]
  simp only [List.reverse_cons, List.reverse_nil, List.nil_append, List.singleton_append, List.find?_cons]
  by_cases h : k % n = q
  · simp [h]
  · have hb : (k % n == q) = false := by simp [h]
    simp only [hb, h, if_false]

/-- What the reference's Get tells. -/
def rget (L : List (Nat × Int)) (k n : Nat) : Int × Bool :=
  match lastAt L n (k % n) with
  | some (K, V) => if K = k then (V, true) else (0, false)
  | none => (0, false)

theorem lastAt_take_succ (L : List (Nat × Int)) (n q r : Nat) (h : r < L.length) : lastAt (L.take (r + 1)) n q = if (L[r]).1 % n = q then some (L[r]) else lastAt (L.take r) n q := by
  rw [List.take_succ_eq_append_getElem h]
  exact lastAt_snoc (L.take r) n q (L[r]).1 (L[r]).2

def flat (L : List (Nat × Int)) : List Value := L.flatMap fun x => [.int .u32 x.1, .int .i64 x.2]

theorem flat_length (L : List (Nat × Int)) : (flat L).length = L.length * 2 := by
  induction L with
  | nil => rfl
  | cons a L ih => simp [flat] at *; omega

theorem flat_get (L : List (Nat × Int)) (r : Nat) (h : r < L.length) : (flat L)[r * 2]? = some (.int .u32 (L[r]).1) ∧ (flat L)[r * 2 + 1]? = some (.int .i64 (L[r]).2) := by
  induction L generalizing r with
  | nil => simp at h
  | cons a L ih =>
    cases r with
    | zero => simp [flat]
    | succ r =>
      have h' : r < L.length := by simpa using h
      have e1 : (r + 1) * 2 = r * 2 + 1 + 1 := by omega
      have e2 : (r + 1) * 2 + 1 = r * 2 + 1 + 1 + 1 := by omega
      rw [e1]
      simpa [flat] using ih r h'

theorem flat_snoc (L : List (Nat × Int)) (k : Nat) (v : Int) : flat (L ++ [(k, v)]) = flat L ++ [.int .u32 k, .int .i64 v] := by simp [flat]

theorem owned_cells {w : World} {base : Nat} {s : Value} {L : List (Nat × Int)} (h : w.ownsRow base 40 2 s L.length (flat L)) (r : Nat) (hr : r < L.length) :
    ∃ g cap, s = .slice (some ⟨g, 0, none⟩) L.length cap ∧ w.cell? ⟨g, r * 2, none⟩ = some (.int .u32 (L[r]).1) ∧ w.cell? ⟨g, r * 2 + 1, none⟩ = some (.int .i64 (L[r]).2) := by
  have h' := h
  rcases h.2 with ⟨_, h0⟩ | ⟨g, cap, cur, hv, _⟩
  · omega
  · subst hv
    refine ⟨g, cap, rfl, ?_, ?_⟩
    · rw [h'.cellAt _ (by omega)]; exact (flat_get L r hr).1
    · rw [h'.cellAt _ (by omega)]; exact (flat_get L r hr).2

theorem owned_slice {w : World} {base : Nat} {s : Value} {L : List (Nat × Int)} (h : w.ownsRow base 40 2 s L.length (flat L)) : ∃ a cap, s = .slice a L.length cap := by
  rcases h.2 with ⟨h0, h1⟩ | ⟨g, cap, cur, hv, _⟩
  · exact ⟨none, 0, by rw [h0, h1]⟩
  · exact ⟨_, _, hv⟩

set_option maxHeartbeats 1600000 in
theorem get_ref (base : Nat) (s : Value) (L : List (Nat × Int)) (k n : Nat) (hn1 : 1 ≤ n) (hn2 : n ≤ 1048576) (hk : k ≤ 4294967295) (hL : L.length ≤ 1000) (w : World)
    (hown : w.ownsRow base 40 2 s L.length (flat L)) :
    Calls Try.prog 11 #[s, .int .u32 k, .int .u32 n] w fun e w' => e = .returned (.tuple #[.int .i64 (rget L k n).1, .bool (rget L k n).2]) ∧ ∃ d, w' = w.drewN d := by
  have HO := Lib.hid hown
  obtain ⟨a, cap, rfl⟩ := owned_slice hown
  clear hown
  obtain ⟨R, hR⟩ : ∃ R, R = rget L k n := ⟨_, rfl⟩
  rw [← hR]
  have HRR := Lib.hid hR
  clear hR
  obtain ⟨len, hlen⟩ : ∃ len, len = L.length := ⟨_, rfl⟩
  have HLen := Lib.hid hlen
  rw [← hlen] at hL ⊢
  clear hlen
  go_enter Try.func11, Try.ntmps11
  go_wp2
  go_loopw [8] (fun i wr => ∃ r d : Nat, i = .int .i64 ((r : Int) - 1) ∧ r ≤ len ∧ wr = w.drewN d ∧ lastAt (L.take r) n (k % n) = lastAt L n (k % n)) (fun i _ => (intOf i + 1).toNat)
  case atStart => exact ⟨len, 0, rfl, Nat.le_refl _, rfl, by rw [HLen.out, List.take_length]⟩
  case round =>
    obtain ⟨r, d, rfl, hr, rfl, hla⟩ := hrel
    have HLA := Lib.hid hla
    clear hla
    cases r with
    | zero =>
      go_wp2
      go_ret2
      refine ⟨?_, _, rfl⟩
      have : R = (0, false) := by rw [HRR.out]; unfold rget; rw [← HLA.out]; simp [lastAt]
      rw [this]; rfl
    | succ r =>
      have hrl : r < L.length := by rw [← HLen.out]; omega
      obtain ⟨g, cap', hs, c0, c1⟩ := owned_cells HO.out r hrl
      rw [← HLen.out] at hs
      simp only [Value.slice.injEq] at hs
      obtain ⟨rfl, -, rfl⟩ := hs
      have hla := HLA.out
      rw [lastAt_take_succ _ _ _ _ hrl] at hla
      have HLB := Lib.hid hla
      obtain ⟨K, hK⟩ : ∃ K, K = (L[r]).1 := ⟨_, rfl⟩
      obtain ⟨V, hV⟩ : ∃ V, V = (L[r]).2 := ⟨_, rfl⟩
      have e1 : ((r + 1 : Nat) : Int) - 1 = (r : Int) := by omega
      rw [e1]
      rw [← hK] at c0
      rw [← hV] at c1
      have HK := Lib.hid hK
      have HV := Lib.hid hV
      clear hla hK hV HLA e1
      by_cases hm : K % n = k % n
      · have hb : ((K : Int) % (n : Int) == (k : Int) % (n : Int)) = true := by rw [beq_iff_eq]; omega
        have hla : lastAt L n (k % n) = some (K, V) := by rw [← HLB.out, if_pos (by rw [← HK.out]; exact hm), HK.out, HV.out]
        by_cases hkk : K = k
        · have hR : R = (V, true) := by rw [HRR.out]; unfold rget; rw [hla]; simp [hkk]
          have HR2 := Lib.hid hR
          have HKK := Lib.hid hkk
          have hbk : ((K : Int) == (k : Int)) = true := by rw [beq_iff_eq]; omega
          clear hR hkk hla hm
          go_wp2
          go_quiet (fail)
          go_wp2
          go_ret2
          exact ⟨by rw [HR2.out]; rfl, _, rfl⟩
        · have hR : R = (0, false) := by rw [HRR.out]; unfold rget; rw [hla]; simp [hkk]
          have HR2 := Lib.hid hR
          have hbk : ((K : Int) == (k : Int)) = false := by rw [beq_eq_false_iff_ne]; omega
          clear hR hkk hla hm
          go_wp2
          go_quiet (fail)
          go_wp2
          go_ret2
          exact ⟨by rw [HR2.out]; rfl, _, rfl⟩
      · have hb : ((K : Int) % (n : Int) == (k : Int) % (n : Int)) = false := by rw [beq_eq_false_iff_ne]; omega
        have hla : lastAt (L.take r) n (k % n) = lastAt L n (k % n) := by rw [← HLB.out, if_neg (by rw [← HK.out]; exact hm)]
        have HLC := Lib.hid hla
        clear hla hm
        go_wp2
        go_quiet (fail)
        go_wp2
        go_roundw
        case rel => exact ⟨r, _, by go_num, by omega, rfl, HLC.out⟩
        case measure => simp [intOf]
end Go.Proofs.Ytkbpcilcpaomfaa

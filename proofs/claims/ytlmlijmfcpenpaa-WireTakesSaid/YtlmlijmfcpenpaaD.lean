/- Contracts: number; the reader's methods. -/
import Derived.Test.YtlmlijmfcpenpaaC
set_option linter.unusedVariables false
set_option linter.unusedSimpArgs false
namespace Go.Proofs.Ytlmlijmfcpenpaa
open Go.RowKit

/-- Where number's loop stands. -/
def NumI (l : List UInt8) (i acc : Nat) : Prop := scan 0 0 l = scan i acc (l.drop i) ∧ acc < 128 ^ i ∧ i ≤ 10
theorem NumI.start (l : List UInt8) : NumI l 0 0 := ⟨by simp, by simp, by omega⟩
theorem NumI.cases {l : List UInt8} {i acc : Nat} {c : UInt8} (h : NumI l i acc) (hc : l[i]? = some c) :
    ((i = 10 ∨ (i = 9 ∧ 1 < c.toNat)) → scan 0 0 l = (0, 0, 7)) ∧ (¬ (i = 10 ∨ (i = 9 ∧ 1 < c.toNat)) → (c.toNat = 0 ∧ 0 < i → scan 0 0 l = (0, 0, 7)) ∧
      (¬ (c.toNat = 0 ∧ 0 < i) → (c.toNat < 128 → scan 0 0 l = (acc + c.toNat % 128 * 128 ^ i, i + 1, 0)) ∧ (¬ c.toNat < 128 → NumI l (i + 1) (acc + c.toNat % 128 * 128 ^ i)) ∧ acc + c.toNat % 128 * 128 ^ i < 18446744073709551616)) := by
  obtain ⟨h1, h2, h3⟩ := h
  obtain ⟨hl, hc'⟩ := List.getElem?_eq_some_iff.1 hc
  rw [List.drop_eq_getElem_cons hl, hc', scan] at h1
  refine ⟨fun a => by rw [h1, if_pos a], fun a => ⟨fun b => by rw [h1, if_neg a, if_pos b], fun b => ?_⟩⟩
  rw [if_neg a, if_neg b] at h1
  exact ⟨fun d => by rw [h1, if_pos d], fun d => ⟨by rw [h1, if_neg d], acc_step h2, by omega⟩, acc_word h2 (by omega) (by omega)⟩
theorem NumI.fin {l : List UInt8} {i acc : Nat} (h : NumI l i acc) (hl : l.length ≤ i) : scan 0 0 l = (0, 0, 11) := by
  rw [h.1, List.drop_eq_nil_of_le hl]; rfl

theorem and127 : ∀ a, a < 256 → a &&& 127 = a % 128 := of_decide_eq_true (by kernel_rfl)
theorem and127_int (c : UInt8) : bits BinOp.and IntKind.u8 (c.toNat : Int) 127 = ((c.toNat % 128 : Nat) : Int) := by
  have hc := c.toNat_lt
  have h := u8_and_nat c.toNat 127 (by omega) (by omega)
  rw [and127 _ (by omega)] at h
  exact h

theorem shl_or (acc k : Nat) (c : UInt8) (ha : acc < 128 ^ k) (hq : acc + c.toNat % 128 * 128 ^ k < 18446744073709551616) :
    bits BinOp.or IntKind.u64 (acc : Int) (IntKind.u64.wrap ((c.toNat : Int) % 128 * 2 ^ (7 * k))) = ((acc + c.toNat % 128 * 128 ^ k : Nat) : Int) := by
  have e1 : (128 : Nat) ^ k = 2 ^ (7 * k) := by rw [Nat.pow_mul]
  rw [e1] at ha hq ⊢
  have e2 : ((c.toNat : Int) % 128 * 2 ^ (7 * k)) = ((c.toNat % 128 * 2 ^ (7 * k) : Nat) : Int) := by push_cast; rfl
  rw [e2, IntWalk.u64_in _ ⟨by omega, by omega⟩, u64_or_nat _ _ (by omega) (by omega)]
  have h := Nat.two_pow_add_eq_or_of_lt (i := 7 * k) (b := acc) ha (c.toNat % 128)
  rw [Nat.or_comm, Nat.mul_comm (c.toNat % 128), ← h, Nat.add_comm]
theorem wp_num {n s e n' s' e' : Nat} {x : Nat × Nat × Nat} (h : x = (n, s, e)) (h1 : n = n') (h2 : s = s') (h3 : e = e') :
    Ending.returned (.tuple #[.int .u64 (n' : Int), .int .i64 (s' : Int), .int .u8 (e' : Int)]) = Ending.returned (.tuple #[.int .u64 (x.1 : Int), .int .i64 (x.2.1 : Int), .int .u8 (x.2.2 : Int)]) := by
  subst h h1 h2 h3; rfl

set_option maxRecDepth 100000 in
set_option maxHeartbeats 2000000 in
theorem number_c {w : World} {v : Value} {l : List UInt8} {F : List Nat} (h : Rd w v l F) (hl : l.length ≤ 100000) :
    Calls Try.prog 24 #[v] w fun e w' => e = .returned (.tuple #[.int .u64 (scan 0 0 l).1, .int .i64 (scan 0 0 l).2.1, .int .u8 (scan 0 0 l).2.2]) ∧ w = w' := by
  obtain ⟨A, cap, rfl, hc⟩ := h.shape
  have H := Lib.hid h
  clear h
  generalize hn : l.length = n at *
  have HN := Lib.hid hn
  clear hn
  go_enter Try.func24, Try.ntmps24
  go_wp2
  go_loop [5, 10] (fun a i => ∃ acc k : Nat, a = .int .u64 acc ∧ i = .int .i64 k ∧ k ≤ n ∧ NumI l k acc) (fun _ i => n - (intOf i).toNat)
  case atStart => exact ⟨0, 0, rfl, rfl, Nat.zero_le _, NumI.start l⟩
  case round =>
    obtain ⟨acc, k, rfl, rfl, hk, hI⟩ := hrel
    have HI := Lib.hid hI
    have hk10 := hI.2.2
    clear hI
    by_cases hlt : k < n
    · obtain ⟨b, off, rfl, d⟩ := H.out.at k (by rw [HN.out]; exact hlt)
      have g : Hid (l[k]? = some (l[k]'(by rw [HN.out]; exact hlt))) := List.getElem?_eq_getElem _
      generalize (l[k]'(by rw [HN.out]; exact hlt)) = c at *
      have hc8 := c.toNat_lt
      obtain ⟨q1, q2⟩ := HI.out.cases g.out
      have Q1 := Lib.hid q1
      have Q2 := Lib.hid q2
      clear q1 q2
      have ha := and127_int c
      by_cases t1 : k = 10
      · have E := Lib.hid (Q1.out (.inl t1))
        have hb : ((k : Int) == 10) = true := by rw [beq_iff_eq]; omega
        clear t1 ha
        go_wp2
        go_ret3
        exact ⟨wp_num E.out rfl rfl rfl, rfl⟩
      · have hb : ((k : Int) == 10) = false := by rw [beq_eq_false_iff_ne]; omega
        by_cases t9 : k = 9
        · have hb9 : ((k : Int) == 9) = true := by rw [beq_iff_eq]; omega
          by_cases t2 : 1 < c.toNat
          · have E := Lib.hid (Q1.out (.inr ⟨t9, t2⟩))
            clear t1 t9 ha
            go_wp2
            go_ret3
            exact ⟨wp_num E.out rfl rfl rfl, rfl⟩
          · obtain ⟨q2, q3⟩ := Q2.out (by omega)
            have Q3 := Lib.hid q3
            by_cases t0 : c.toNat = 0
            · have E := Lib.hid (q2 ⟨t0, by omega⟩)
              have hb0 : ((c.toNat : Int) == 0) = true := by rw [beq_iff_eq]; omega
              have hkp : (0 : Int) < k := by omega
              clear t1 t9 ha q2 q3 t0
              go_wp2
              go_ret3
              exact ⟨wp_num E.out rfl rfl rfl, rfl⟩
            · have hb0 : ((c.toNat : Int) == 0) = false := by rw [beq_eq_false_iff_ne]; omega
              obtain ⟨q4, q5, q6⟩ := q3 (by omega)
              have E := Lib.hid (q4 (by omega))
              have hs := shl_or acc k c HI.out.2.1 q6
              obtain ⟨m, hm⟩ : ∃ m, m = acc + c.toNat % 128 * 128 ^ k := ⟨_, rfl⟩
              rw [← hm] at hs
              have HM := Lib.hid hm
              clear t1 t9 q2 q3 t0 q4 q5 q6 hm
              go_wp2
              go_ret3
              exact ⟨wp_num E.out HM.out.symm rfl rfl, rfl⟩
        · have hb9 : ((k : Int) == 9) = false := by rw [beq_eq_false_iff_ne]; omega
          obtain ⟨q2, q3⟩ := Q2.out (by omega)
          by_cases t0 : c.toNat = 0
          · have hb0 : ((c.toNat : Int) == 0) = true := by rw [beq_iff_eq]; omega
            by_cases tk : 0 < k
            · have E := Lib.hid (q2 ⟨t0, tk⟩)
              clear t1 t9 ha q2 q3 t0
              go_wp2
              go_ret3
              exact ⟨wp_num E.out rfl rfl rfl, rfl⟩
            · obtain ⟨q4, q5, q6⟩ := q3 (by omega)
              have E := Lib.hid (q4 (by omega))
              have hs := shl_or acc k c HI.out.2.1 q6
              obtain ⟨m, hm⟩ : ∃ m, m = acc + c.toNat % 128 * 128 ^ k := ⟨_, rfl⟩
              rw [← hm] at hs
              have HM := Lib.hid hm
              have hlt128 : (c.toNat : Int) < 128 := by omega
              clear t1 t9 q2 q3 t0 q4 q5 q6 hm
              go_wp2
              go_ret3
              exact ⟨wp_num E.out HM.out.symm rfl rfl, rfl⟩
          · have hb0 : ((c.toNat : Int) == 0) = false := by rw [beq_eq_false_iff_ne]; omega
            obtain ⟨q4, q5, q6⟩ := q3 (by omega)
            have hs := shl_or acc k c HI.out.2.1 q6
            obtain ⟨m, hm⟩ : ∃ m, m = acc + c.toNat % 128 * 128 ^ k := ⟨_, rfl⟩
            rw [← hm] at hs q5
            have HM := Lib.hid hm
            by_cases t8 : c.toNat < 128
            · have E := Lib.hid (q4 t8)
              clear t1 t9 q2 q3 t0 q4 q5 q6 hm
              go_wp2
              go_ret3
              exact ⟨wp_num E.out HM.out.symm rfl rfl, rfl⟩
            · have Q5 := Lib.hid (q5 t8)
              clear t1 t9 q2 q3 t0 q4 q5 q6 hm
              go_wp2
              go_round
              case rel => exact ⟨m, k + 1, rfl, by go_num, by omega, Q5.out⟩
              case measure => simp [intOf]; omega
    · obtain rfl : k = n := by omega
      have E := Lib.hid (HI.out.fin (by rw [HN.out]; omega))
      go_wp2
      go_ret3
      exact ⟨wp_num E.out rfl rfl rfl, rfl⟩
end Go.Proofs.Ytlmlijmfcpenpaa

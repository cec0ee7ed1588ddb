/- Contracts of the wire's functions that make bytes: Clone, Put, PutText, Size; the references' Bytes, Text, Same. -/
import Derived.Test.YtlmlijmfcpenpaaA
import Derived.Laws.BitsAllLaws
set_option linter.unusedVariables false
set_option linter.unusedSimpArgs false
namespace Go.Proofs.Ytlmlijmfcpenpaa
open Go.RowKit

theorem Try.info5 : (Try.prog.info? 5).map (fun i => (i.zero, i.size, i.bytes)) = some (some (.int .u8 0), 1, 1) := by kernel_rfl

/-- v' is a new slice of the bytes l; nothing that lay has turned. -/
def NewB (w : World) (l : List UInt8) (w' : World) (v' : Value) : Prop := ∃ F', Sl w' 5 1 v' l.length (bv l) F' ∧ Mod [] w w' ∧ ∀ k ∈ F', w.heap.size ≤ k

theorem NewB.rd {w w' : World} {l : List UInt8} {v' : Value} (h : NewB w l w' v') : ∃ F, Rd w' v' l F ∧ ∀ k ∈ F, w.heap.size ≤ k := by
  obtain ⟨F, hs, _, hf⟩ := h; exact ⟨F, Rd.of_sl hs rfl, hf⟩
theorem NewB.mod {w w' : World} {l : List UInt8} {v' : Value} (h : NewB w l w' v') : Mod [] w w' := by
  obtain ⟨F, _, hm, _⟩ := h; exact hm
theorem NewB.shape {w w' : World} {l : List UInt8} {v' : Value} (h : NewB w l w' v') : ∃ A cap, v' = .slice A l.length cap := by
  obtain ⟨F, hs, _, _⟩ := h; obtain ⟨A, cap, e, _⟩ := hs.shape; exact ⟨A, cap, e⟩
theorem NewB.after {w0 w w' : World} {l : List UInt8} {v' : Value} (h : NewB w l w' v') (m : Mod [] w0 w) : NewB w0 l w' v' := by
  obtain ⟨F, hs, hm, hf⟩ := h; exact ⟨F, hs, m.trans hm (by simp), fun k hk => Nat.le_trans m.size (hf k hk)⟩

set_option maxHeartbeats 1000000 in
theorem clone_c {w : World} {v : Value} {l : List UInt8} {F : List Nat} (h : Rd w v l F) (hl : l.length ≤ 100000) :
    Calls Try.prog 22 #[v] w fun e w' => ∃ v', e = .returned v' ∧ NewB w l w' v' := by
  obtain ⟨A, cap, rfl, hc⟩ := h.shape
  obtain ⟨i0, hi, hz0, hz1, hz2⟩ := info_parts Try.info5
  have H := Lib.hid h
  clear h
  generalize hn : l.length = n at *
  have HN := Lib.hid hn
  clear hn
  have heq := fun (w : World) (a : Option Addr) (n c : Nat) => Go.Lib.run_eql_slice_nil (P := Try.prog) w 22 5 a n c 0 0 Try.underlying22
  cases A with
  | none =>
    have h0 : Hid (l = []) := by
      have h1 := H.out.src
      rcases Nat.eq_zero_or_pos n with e | e
      · exact List.eq_nil_of_length_eq_zero (by rw [HN.out, e])
      · obtain ⟨a, e, _⟩ := h1 e; simp at e
    go_enter Try.func22, Try.ntmps22
    go_wp2_with fail
    go_ret
    refine ⟨_, rfl, [], ?_, Mod.refl _ _, by simp⟩
    rw [h0.out]; exact Sl.nil _ _ _
  | some a =>
    go_enter Try.func22, Try.ntmps22
    go_wp2_with (at_builtin; refine wpList_append_slz _ rfl _ _ 22 rfl 5 i0 (.int .u8 0) 1 1 Try.underlying22 hi hz0 hz1 hz2 rfl (by decide) _ 0 [] [w.heap.size] rfl (Sl.lit w 5 1 0 #[] (by unfold maxLen; omega) rfl) (some a) n cap (bv l) rfl (by rw [bv_length, HN.out]; omega) (fun h0 => by obtain ⟨a', e, hh⟩ := (H.out.mod (S := []) (w' := w.alloc (.cells #[] 5)) (by (repeat (first | exact Mod.refl _ _ | apply Mod.drew | apply Mod.drewN | apply Mod.alloc | refine Mod.setCell ?_ _ _ (by first | simp | (simp; omega))))) (by simp)).src h0; exact ⟨a', e, hh⟩) (bv_one _) (by unfold maxLen; omega) (by omega) ?_; intro v' w1 F' hs1 hm1 hf1)
    go_ret
    refine ⟨_, rfl, F', by simpa [HN.out] using hs1, Mod.trans (S' := [w.heap.size]) ((Mod.refl [] _).alloc _) hm1 (by intro i hi hm; simp at hm; omega), fun k hk => ?_⟩
    rcases hf1 k hk with h1 | h1
    · simp at h1; omega
    · simp at h1; omega

theorem NewB.mk1 {w wr w0 w1 : World} {l : List UInt8} {m x : Nat} {F F' : List Nat} {c : UInt8} {v' : Value} (ML : l.length = m) (M : Mod [] w wr) (G : ∀ k ∈ F, w.heap.size ≤ k) (hc : c.toNat = x) (M0 : Mod [] wr w0)
    (hs : Sl w1 5 1 v' (m + 1) (bv l ++ [.int .u8 (x : Int)]) F') (hm : Mod F w0 w1) (hf : ∀ k ∈ F', k ∈ F ∨ w0.heap.size ≤ k) : NewB w (l ++ [c]) w1 v' := by
  refine ⟨F', ?_, (M.trans M0 (by simp)).trans hm (fun i hi hm => by have := G i hm; omega), fun k hk => ?_⟩
  · rw [bv_append, List.length_append, ML]
    simpa [bv, hc] using hs
  · rcases hf k hk with h | h
    · exact G k h
    · have := M.size; have := M0.size; omega
theorem or128 : ∀ a, a < 256 → a ||| 128 = a % 128 + 128 := of_decide_eq_true (by kernel_rfl)
theorem or128_int (k : Nat) : bits BinOp.or IntKind.u8 ((k : Int) % 256) 128 = ((k % 128 + 128 : Nat) : Int) := by
  have h := u8_or_nat (k % 256) 128 (by omega) (by omega)
  rw [or128 _ (by omega)] at h
  have e : k % 256 % 128 = k % 128 := by omega
  rw [e] at h
  exact h

/-- Where Put's loop stands: n's bytes are done and those of k. -/
def PutI (n : Nat) (done : List UInt8) (k : Nat) : Prop := ∃ f, enc 10 n = done ++ enc (f + 1) k ∧ k < 128 ^ (f + 1) ∧ done.length + f ≤ 9
theorem PutI.start {n : Nat} (hn : n < 18446744073709551616) : PutI n [] n := ⟨9, rfl, Nat.lt_trans hn (by decide), by simp⟩
theorem PutI.fin {n k : Nat} {done : List UInt8} (h : PutI n done k) (hk : k < 128) : enc 10 n = done ++ [UInt8.ofNat k] ∧ done.length ≤ 9 := by
  obtain ⟨f, h1, h2, h3⟩ := h
  rw [enc_small hk] at h1; exact ⟨h1, by omega⟩
theorem PutI.next {n k : Nat} {done : List UInt8} (h : PutI n done k) (hk : ¬ k < 128) : PutI n (done ++ [UInt8.ofNat (k % 128 + 128)]) (k / 128) := by
  obtain ⟨f, h1, h2, h3⟩ := h
  rw [enc_big hk] at h1
  cases f with
  | zero => simp at h2; omega
  | succ f =>
    refine ⟨f, by rw [h1]; simp, ?_, by simp; omega⟩
    rw [pow_succ'] at h2
    exact Nat.div_lt_of_lt_mul (by rw [Nat.mul_comm]; exact h2)
theorem PutI.len {n k : Nat} {done : List UInt8} (h : PutI n done k) : done.length ≤ 9 := by
  obtain ⟨f, h1, h2, h3⟩ := h; omega
theorem PutI.le {n k : Nat} {done : List UInt8} (h : PutI n done k) : k < 1180591620717411303424 := by
  obtain ⟨f, h1, h2, h3⟩ := h
  have h4 : 128 ^ (f + 1) ≤ 128 ^ 10 := pow_le (by omega)
  have e10 : (128 : Nat) ^ 10 = 1180591620717411303424 := by decide
  omega

set_option maxRecDepth 100000 in
set_option maxHeartbeats 2000000 in
theorem put_c {w : World} {v : Value} {l : List UInt8} {F : List Nat} (h : Rd w v l F) (hl : l.length ≤ 50000) (n : Nat) (hn : n < 18446744073709551616) :
    Calls Try.prog 10 #[v, .int .u64 n] w fun e w' => ∃ v', e = .returned v' ∧ NewB w (l ++ enc 10 n) w' v' := by
  obtain ⟨i0, hi, hz0, hz1, hz2⟩ := info_parts Try.info5
  have HC := Lib.hid (clone_c h (by omega))
  have HP := Lib.hid (PutI.start hn)
  have HW := Lib.hid hn
  clear h hn
  go_enter Try.func10, Try.ntmps10
  go_wp2_with fail
  refine HC.out.mono ?_
  rintro e w1 ⟨v1, rfl, N1⟩
  have Q1 := Lib.hid N1
  clear N1 HC
  go_wp2_with fail
  go_loopw [0, 1] (fun b m wr => ∃ (done : List UInt8) (k : Nat), m = .int .u64 k ∧ k < 18446744073709551616 ∧ NewB w (l ++ done) wr b ∧ PutI n done k) (fun _ m _ => (intOf m).toNat)
  case atStart => exact ⟨[], n, rfl, HW.out, by simpa using Q1.out, HP.out⟩
  case round =>
    obtain ⟨done, k, rfl, hk, hN, hP⟩ := hrel
    obtain ⟨A, cap, rfl⟩ := hN.shape
    have N2 := Lib.hid hN
    have P2 := Lib.hid hP
    have hd := hP.len
    have W2 := Lib.hid hk
    obtain ⟨F2, hs2, hm2, hf2⟩ := hN
    have S2 := Lib.hid hs2
    have M2 := Lib.hid hm2
    have G2 := Lib.hid hf2
    have hL : (l ++ done).length ≤ 50009 := by rw [List.length_append]; omega
    clear hP hk hs2 hm2 hf2
    generalize hml : (l ++ done).length = m at *
    have ML := Lib.hid hml
    clear hml
    by_cases hs : k < 128
    · go_wp2_with (at_builtin; refine wpList_append_sl _ rfl _ _ 22 rfl 5 i0 (.int .u8 0) 1 1 Try.underlying22 hi hz0 hz1 hz2 rfl (by decide) _ m (bv (l ++ done)) F2 rfl (Sl.mod S2.out (S := []) (by (repeat (first | exact Mod.refl _ _ | apply Mod.drew | apply Mod.drewN | apply Mod.alloc | refine Mod.setCell ?_ _ _ (by first | simp | (simp; omega))))) (by simp)) ⟨wr.heap.size, 0, none⟩ 1 1 [.int .u8 k] (by decide) rfl rfl (by intro j u hu; exact list_new_at _ _ _ _ (by simp) j u hu) (by intro u hu; simp at hu; rcases hu with rfl; rfl) (by unfold maxLen; omega) (by omega) ?_; intro v' w1 F' hs1 hm1 hf1)
      go_ret
      obtain ⟨q1, q2⟩ := P2.out.fin hs
      refine ⟨_, rfl, ?_⟩
      rw [q1, ← List.append_assoc]
      exact NewB.mk1 ML.out M2.out G2.out (byte_nat (by omega)) (by (repeat (first | exact Mod.refl _ _ | apply Mod.drew | apply Mod.drewN | apply Mod.alloc | refine Mod.setCell ?_ _ _ (by first | simp | (simp; omega))))) hs1 hm1 hf1
    · go_wp2_with (at_builtin; refine wpList_append_sl _ rfl _ _ 22 rfl 5 i0 (.int .u8 0) 1 1 Try.underlying22 hi hz0 hz1 hz2 rfl (by decide) _ m (bv (l ++ done)) F2 rfl (Sl.mod S2.out (S := []) (by (repeat (first | exact Mod.refl _ _ | apply Mod.drew | apply Mod.drewN | apply Mod.alloc | refine Mod.setCell ?_ _ _ (by first | simp | (simp; omega))))) (by simp)) ⟨wr.heap.size, 0, none⟩ 1 1 [_] (by decide) rfl rfl (by intro j u hu; exact list_new_at _ _ _ _ (by simp) j u hu) (by intro u hu; simp at hu; rcases hu with rfl; rfl) (by unfold maxLen; omega) (by omega) ?_; intro v' w1 F' hs1 hm1 hf1)
      have W3 := W2.out
      rw [or128_int] at hs1 hm1 hf1
      go_roundw
      case rel =>
        refine ⟨_, k / 128, rfl, ?_, ?_, P2.out.next hs⟩
        · exact Nat.lt_of_le_of_lt (Nat.div_le_self _ _) W3
        · rw [← List.append_assoc]
          exact NewB.mk1 ML.out M2.out G2.out (byte_nat (by omega)) (by (repeat (first | exact Mod.refl _ _ | apply Mod.drew | apply Mod.drewN | apply Mod.alloc | refine Mod.setCell ?_ _ _ (by first | simp | (simp; omega))))) hs1 hm1 hf1
      case measure => simp [intOf]; omega

theorem NewB.lit (w : World) (c : UInt8) (x : Nat) (hc : c.toNat = x) : Sl (w.alloc (.cells #[.int .u8 (x : Int)] 5)) 5 1 (.slice (some ⟨w.heap.size, 0, none⟩) 1 1) 1 (bv [c]) [w.heap.size] := by
  have := Sl.lit w 5 1 1 #[.int .u8 (x : Int)] (by unfold maxLen; omega) rfl
  simpa [bv, hc] using this

set_option maxRecDepth 100000 in
set_option maxHeartbeats 2000000 in
theorem bytes_f (f : Nat) : ∀ (n : Nat) (w : World), n < 128 ^ (f + 1) → n < 18446744073709551616 → f ≤ 9 → Calls Try.prog 7 #[.int .u64 n] w fun e w' => ∃ v', e = .returned v' ∧ NewB w (enc (f + 1) n) w' v' := by
  induction f with
  | zero =>
    intro n w h1 h2 _
    have h1' : n < 128 := by simpa using h1
    have H2 := Lib.hid h2
    clear h1 h2
    go_enter Try.func7, Try.ntmps7
    go_wp2_with fail
    go_ret
    refine ⟨_, rfl, [w.heap.size], ?_, (Mod.refl _ _).alloc _, ?_⟩
    · rw [enc_small h1']; exact NewB.lit w _ n (byte_nat (by omega))
    · simp
  | succ f ih =>
    intro n w h1 h2 h3
    by_cases h1' : n < 128
    · have H2 := Lib.hid h2
      clear h1 h2 ih
      go_enter Try.func7, Try.ntmps7
      go_wp2_with fail
      go_ret
      refine ⟨_, rfl, [w.heap.size], ?_, (Mod.refl _ _).alloc _, ?_⟩
      · rw [enc_small h1']; exact NewB.lit w _ n (byte_nat (by omega))
      · simp
    · have IH := Lib.hid (fun w => ih (n / 128) w (by rw [pow_succ'] at h1; exact Nat.div_lt_of_lt_mul (by rw [Nat.mul_comm]; exact h1)) (Nat.lt_of_le_of_lt (Nat.div_le_self _ _) h2) (by omega))
      have H2 := Lib.hid h2
      obtain ⟨i0, hi, hz0, hz1, hz2⟩ := info_parts Try.info5
      have hel := enc_length (f + 1) (n / 128)
      have hwr : IntKind.u64.wrap ((n : Int) / 128) = (n : Int) / 128 := IntWalk.u64_in _ ⟨by omega, by omega⟩
      clear h1 h2 ih
      go_enter Try.func7, Try.ntmps7
      go_wp2_with fail
      have ih2 : ∀ w : World, Calls Try.prog 7 #[.int .u64 ((n : Int) / 128)] w fun e w' => ∃ v', e = .returned v' ∧ NewB w (enc (f + 1) (n / 128)) w' v' := IH.out
      ((with_reducible refine (ih2 _).mono ?_))
      clear ih2
      rintro e w1 ⟨v1, rfl, N1⟩
      obtain ⟨A, cap, rfl⟩ := N1.shape
      obtain ⟨F1, R1, G1⟩ := N1.rd
      have RR := Lib.hid R1
      have MM := Lib.hid N1.mod
      have S0 := Lib.hid ((NewB.lit w (UInt8.ofNat (n % 128 + 128)) _ (byte_nat (by omega))).mod N1.mod (by simp))
      clear N1 R1 G1
      generalize hel' : (enc (f + 1) (n / 128)).length = m at *
      have EL := Lib.hid hel'
      clear hel'
      go_wp2_with (at_builtin; refine wpList_append_slz _ rfl _ _ 22 rfl 5 i0 (.int .u8 0) 1 1 Try.underlying22 hi hz0 hz1 hz2 rfl (by decide) _ 1 (bv [UInt8.ofNat (n % 128 + 128)]) [w.heap.size] rfl S0.out A m cap (bv (enc (f + 1) (n / 128))) rfl (by rw [bv_length, EL.out]; omega) RR.out.src (bv_one _) (by unfold maxLen; omega) (by omega) ?_; intro v' w2 F' hs1 hm1 hf1)
      go_ret
      refine ⟨_, rfl, F', ?_, ?_, fun k hk => ?_⟩
      · rw [enc_big h1', List.length_cons, EL.out]
        have e : bv (UInt8.ofNat (n % 128 + 128) :: enc (f + 1) (n / 128)) = bv [UInt8.ofNat (n % 128 + 128)] ++ bv (enc (f + 1) (n / 128)) := bv_append [_] _
        rw [e, Nat.add_comm m 1]; exact hs1
      · exact Mod.trans (S' := [w.heap.size]) (((Mod.refl [] _).alloc _).trans MM.out (by simp)) hm1 (by intro i hi hm; simp at hm; omega)
      · rcases hf1 k hk with h1 | h1
        · simp at h1; omega
        · have := MM.out.size; simp at this; omega
end Go.Proofs.Ytlmlijmfcpenpaa

/- The chapter's example (alive); the law WirePuts. -/
import Derived.Test.YtlmlijmfcpenpaaF
set_option linter.unusedVariables false
set_option linter.unusedSimpArgs false
namespace Go.Proofs.Ytlmlijmfcpenpaa
open Go.RowKit

theorem enc300 : enc 10 300 = [172, 2] := by decide
theorem scan300 : scan 0 0 [172, 2] = (300, 2, 0) := by decide

theorem Rd.lit2 (w : World) : Rd (w.alloc (.cells #[.int .u8 172, .int .u8 2] 5)) (.slice (some ⟨w.heap.size, 0, none⟩) 2 2) [172, 2] [w.heap.size] :=
  Rd.of_sl (Sl.lit w 5 1 2 #[.int .u8 172, .int .u8 2] (by unfold maxLen; omega) rfl) rfl

set_option maxRecDepth 100000 in
set_option maxHeartbeats 2000000 in
theorem alive_c (w : World) : Calls Try.prog 6 #[] w fun e w' => e = .returned (.bool true) ∧ Mod [] w w' := by
  have R0 := Lib.hid (Rd.lit2 w)
  go_enter Try.func6, Try.ntmps6
  go_wp2_with fail
  refine (newreader_c R0.out).mono ?_
  rintro e w1 ⟨rfl, hw1⟩
  have Q1 : Hid (Rdr w1 (w.heap.size + 1) [172, 2] 0 [w.heap.size]) := by
    rw [hw1]; exact ⟨_, Blk.new' _ _ _ _ (by simp), R0.out.mod (S := []) (by (repeat (first | exact Mod.refl _ _ | apply Mod.drew | apply Mod.drewN | apply Mod.alloc | refine Mod.setCell ?_ _ _ (by first | simp | (simp; omega))))) (by simp), by simp⟩
  have M1 : Hid (Mod [] w w1) := by rw [hw1]; exact ((Mod.refl _ _).alloc _).alloc _
  clear hw1
  go_wp2_with fail
  refine (put_c (Rd.nil _) (by simp) 300 (by omega)).mono ?_
  rintro e w2 ⟨v2, rfl, N2⟩
  rw [List.nil_append, enc300] at N2
  obtain ⟨A2, cap2, rfl⟩ := N2.shape
  obtain ⟨F2, r2, -⟩ := N2.rd
  have M2 : Hid (Mod [] w1 w2) := N2.mod
  have R2 := Lib.hid r2
  have Q2 := Lib.hid (Q1.out.mod M2.out)
  clear r2 N2 Q1
  go_wp2_with fail
  refine (same_c (R2.out.mod (S := []) (by (repeat (first | exact Mod.refl _ _ | apply Mod.drew | apply Mod.drewN | apply Mod.alloc | refine Mod.setCell ?_ _ _ (by first | simp | (simp; omega))))) (by simp)) (Rd.lit2 w2) (by simp) (by simp)).mono ?_
  rintro e w3 ⟨rfl, m3⟩
  have M3 : Hid (Mod [] w2 w3) := Mod.trans (S' := []) (by (repeat (first | exact Mod.refl _ _ | apply Mod.drew | apply Mod.drewN | apply Mod.alloc | refine Mod.setCell ?_ _ _ (by first | simp | (simp; omega))))) m3 (fun _ _ h => h)
  have Q3 := Lib.hid (Q2.out.mod M3.out)
  clear m3 R2 Q2
  go_wp2_with fail
  refine (Num_c Q3.out (by simp) 1000).mono ?_
  rintro e w4 ⟨rfl, q4, m4⟩
  have e4 : numStep [172, 2] 0 1000 = (300, [], 0) := by decide
  rw [e4] at q4
  rw [e4]
  have Q4 : Hid (Rdr w4 (w.heap.size + 1) [] 0 [w.heap.size]) := q4
  have M4 := Lib.hid m4
  clear q4 m4 e4
  go_wp2_with fail
  refine (End_c Q4.out).mono ?_
  rintro e w5 ⟨rfl, rfl⟩
  rw [show endOf [] 0 = 0 from rfl]
  go_wp2
  go_ret
  exact ⟨rfl, (((M1.out.trans M2.out (by simp)).trans M3.out (by simp)).trans M4.out (by simp; omega))⟩

/-- Behind an empty literal. -/
theorem NewB.of_empty {w w1 : World} {l : List UInt8} {n : Nat} {v' : Value} {F' : List Nat} (hs1 : Sl w1 5 1 v' (0 + n) ([] ++ bv l) F') (hn : l.length = n) (hm1 : Mod [w.heap.size] (w.alloc (.cells #[] 5)) w1)
    (hf1 : ∀ k ∈ F', k ∈ [w.heap.size] ∨ (w.alloc (.cells #[] 5)).heap.size ≤ k) : NewB w l w1 v' := by
  refine ⟨F', by rw [hn]; simpa using hs1, Mod.trans (S' := [w.heap.size]) ((Mod.refl [] _).alloc _) hm1 (by intro i hi hm; simp at hm; omega), fun k hk => ?_⟩
  rcases hf1 k hk with h1 | h1
  · simp at h1; omega
  · simp at h1; omega
/-- Behind new bytes. -/
theorem NewB.app {w w1 w2 : World} {l l2 : List UInt8} {n m : Nat} {v' : Value} {F F' : List Nat} (hm : Mod [] w w1) (hf : ∀ k ∈ F, w.heap.size ≤ k) (hn : l.length = n) (hm2 : l2.length = m)
    (hs : Sl w2 5 1 v' (n + m) (bv l ++ bv l2) F') (hm1 : Mod F w1 w2) (hf1 : ∀ k ∈ F', k ∈ F ∨ w1.heap.size ≤ k) : NewB w (l ++ l2) w2 v' := by
  refine ⟨F', ?_, hm.trans hm1 (fun i hi hx => by have := hf i hx; omega), fun k hk => ?_⟩
  · rw [bv_append, List.length_append, hn, hm2]; exact hs
  · rcases hf1 k hk with h | h
    · exact hf k h
    · have := hm.size; omega

theorem NewB.later {w w1 w2 : World} {l : List UInt8} {v : Value} (h : NewB w l w1 v) (m : Mod [] w1 w2) : NewB w l w2 v := by
  obtain ⟨F, hs, hm, hf⟩ := h; exact ⟨F, hs.mod m (by simp), hm.trans m (by simp), hf⟩

theorem app_empty {ops : Array Oper} {rest : List Oper} {o : Oper} {a : Act} {Q : Exit → Act → World → Prop} (w : World) (hgd : o.guard = none) (s x : Operand)
    (ho : o.op = .call { callee := .builtin .append, args := #[s, x], argTypes := #[22, 22] }) (hs : a.eval s = .slice (some ⟨w.heap.size, 0, none⟩) 0 0)
    {A : Option Addr} {n cap : Nat} {l : List UInt8} {F : List Nat} (hx : a.eval x = .slice A n cap) (H : Rd w (.slice A n cap) l F) (hn : l.length = n) (hlen : n ≤ 100000)
    (h : ∀ v' w', NewB w l w' v' → wpList Try.prog ops Q rest (a.put o.dst v') w') : wpList Try.prog ops Q (o :: rest) a (w.alloc (.cells #[] 5)) := by
  obtain ⟨i0, hi, hz0, hz1, hz2⟩ := info_parts Try.info5
  refine wpList_append_slz _ hgd s x 22 ho 5 i0 (.int .u8 0) 1 1 Try.underlying22 hi hz0 hz1 hz2 rfl (by decide) _ 0 [] [w.heap.size] hs (Sl.lit w 5 1 0 #[] (by unfold maxLen; omega) rfl) A n cap (bv l) hx (by rw [bv_length]; omega) (H.mod (S := []) (by (repeat (first | exact Mod.refl _ _ | apply Mod.drew | apply Mod.drewN | apply Mod.alloc | refine Mod.setCell ?_ _ _ (by first | simp | (simp; omega))))) (by simp)).src (bv_one _) (by unfold maxLen; omega) (by omega) ?_
  intro v' w1 F' hs1 hm1 hf1
  exact h v' w1 (NewB.of_empty hs1 hn hm1 hf1)

theorem app_more {ops : Array Oper} {rest : List Oper} {o : Oper} {a : Act} {Q : Exit → Act → World → Prop} {w0 w : World} (hgd : o.guard = none) (s x : Operand)
    (ho : o.op = .call { callee := .builtin .append, args := #[s, x], argTypes := #[22, 22] }) {v : Value} {l1 : List UInt8} (N : NewB w0 l1 w v) (hs : a.eval s = v)
    {A : Option Addr} {n cap : Nat} {l : List UInt8} {F : List Nat} (hx : a.eval x = .slice A n cap) (H : Rd w (.slice A n cap) l F) (hn : l.length = n) (hlen : n ≤ 100000) (hlen1 : l1.length ≤ 100000)
    (h : ∀ v' w', NewB w0 (l1 ++ l) w' v' → wpList Try.prog ops Q rest (a.put o.dst v') w') : wpList Try.prog ops Q (o :: rest) a w := by
  obtain ⟨i0, hi, hz0, hz1, hz2⟩ := info_parts Try.info5
  obtain ⟨F1, hs1, hm1, hf1⟩ := N
  refine wpList_append_slz _ hgd s x 22 ho 5 i0 (.int .u8 0) 1 1 Try.underlying22 hi hz0 hz1 hz2 rfl (by decide) _ _ _ F1 hs hs1 A n cap (bv l) hx (by rw [bv_length]; omega) H.src (bv_one _) (by unfold maxLen; omega) (by omega) ?_
  intro v' w1 F' hs2 hm2 hf2
  exact h v' w1 (NewB.app hm1 hf1 rfl hn hs2 hm2 hf2)

set_option maxRecDepth 100000 in
set_option maxHeartbeats 4000000 in
theorem wirePuts_main (w : World) (a0 : Option Addr) (len cap : Nat) (l : List UInt8) (F0 : List Nat) (h : Rd w (.slice a0 len cap) l F0) (hl : l.length = len) (hlen : len ≤ 200) (n : Nat) (hn : n < 18446744073709551616) (s : ByteArray) (hs : s.size ≤ 300) :
    Calls Try.prog 3 #[.slice a0 len cap, .int .u64 n, .string s] w fun e w' => e = .returned (.bool true) ∧ Mod [] w w' := by
  have H := Lib.hid h
  have HL := Lib.hid hl
  have HN := Lib.hid hn
  have hle := enc_length 10 n
  have hle2 := enc_length 10 s.size
  have HS := Lib.hid hs
  clear h hl hn
  go_enter Try.func3, Try.ntmps3
  go_wp2_with fail
  refine (alive_c w).mono ?_
  rintro e w1 ⟨rfl, m1⟩
  have M1 := Lib.hid m1
  have H1 := Lib.hid (H.out.mod m1 (by simp))
  clear m1
  go_wp2_with (first
    | (at_builtin; refine app_empty w1 rfl _ _ rfl rfl rfl H1.out HL.out (by omega) ?_; intro v2 w2 n2; have N2 := Lib.hid n2; clear n2)
    | (at_builtin; refine app_empty w2 rfl _ _ rfl rfl rfl (H1.out.mod N2.out.mod (by simp)) HL.out (by omega) ?_; intro v3 w3 n3; have N3 := Lib.hid n3; clear n3)
    | (go_at_call 7; refine (bytes_c n HN.out _).mono ?_; rintro e w4 ⟨v4, rfl, n4⟩; obtain ⟨A4, cap4, rfl⟩ := n4.shape; have N4 := Lib.hid n4; clear n4)
    | (at_builtin; refine app_more rfl _ _ rfl (N3.out.later N4.out.mod) rfl rfl N4.out.rd.choose_spec.1 rfl (by omega) (by rw [HL.out]; omega) ?_; intro v5 w5 n5; have N5 := Lib.hid n5; clear n5)
    | (at_builtin; refine app_empty w5 rfl _ _ rfl rfl rfl (((H1.out.mod N2.out.mod (by simp)).mod N5.out.mod (by simp))) HL.out (by omega) ?_; intro v6 w6 n6; have N6 := Lib.hid n6; clear n6)
    | (go_at_call 8; refine (text_c s (by omega) _).mono ?_; rintro e w7 ⟨v7, rfl, n7⟩; obtain ⟨A7, cap7, rfl⟩ := n7.shape; have L7 : (enc 10 s.size ++ s.data.toList).length ≤ 310 := (by rw [List.length_append]; have := HS.out; show _ + s.size ≤ _; omega); generalize hq : (enc 10 s.size ++ s.data.toList).length = m7 at *; have Q7 := Lib.hid hq; have N7 := Lib.hid n7; clear n7 hq)
    | (at_builtin; refine app_more rfl _ _ rfl (N6.out.later N7.out.mod) rfl rfl N7.out.rd.choose_spec.1 Q7.out (by omega) (by rw [HL.out]; omega) ?_; intro v8 w8 n8; have N8 := Lib.hid n8; clear n8))
  have MM8 : Hid (Mod [] w1 w8) := (N2.out.mod.trans N5.out.mod (by simp)).trans N8.out.mod (by simp)
  have HX : Hid (Rd w8 (.slice a0 len cap) l F0) := H1.out.mod MM8.out (by simp)
  have V2 := Lib.hid ((N2.out.later N5.out.mod).later N8.out.mod)
  have V5 := Lib.hid (N5.out.later N8.out.mod)
  clear N2 N3 N4 N5 N6 N7
  refine (put_c HX.out (by rw [HL.out]; omega) n HN.out).mono ?_
  rintro e w9 ⟨v9, rfl, n9⟩
  have N9 := Lib.hid n9
  clear n9
  go_wp2_with fail
  refine (same_c N9.out.rd.choose_spec.1 (V5.out.later N9.out.mod).rd.choose_spec.1 (by rw [List.length_append, HL.out]; omega) (by rw [List.length_append, HL.out]; omega)).mono ?_
  rintro e w10 ⟨rfl, m10⟩
  have M10 : Hid (Mod [] w8 w10) := N9.out.mod.trans m10 (by simp)
  rw [decide_eq_true rfl]
  clear m10
  go_wp2_with fail
  refine (puttext_c (HX.out.mod M10.out (by simp)) (by rw [HL.out]; omega) s (by have := HS.out; omega)).mono ?_
  rintro e w11 ⟨v11, rfl, n11⟩
  have N11 := Lib.hid n11
  clear n11
  have hs11 : Hid ((l ++ (enc 10 s.size ++ s.data.toList)).length ≤ 100000) := by
    show _ ≤ _
    rw [List.length_append, HL.out, Q7.out]; omega
  go_wp2_with fail
  refine (same_c N11.out.rd.choose_spec.1 (N8.out.later (M10.out.trans N11.out.mod (by simp))).rd.choose_spec.1 (by rw [List.append_assoc]; exact hs11.out) hs11.out).mono ?_
  rintro e w12 ⟨rfl, m12⟩
  have M12 : Hid (Mod [] w8 w12) := (M10.out.trans N11.out.mod (by simp)).trans m12 (by simp)
  rw [decide_eq_true (List.append_assoc _ _ _)]
  clear m12 hs11
  go_wp2_with fail
  refine (size_c n HN.out _).mono ?_
  rintro e w13 ⟨rfl, rfl⟩
  go_wp2_with fail
  refine (bytes_c n HN.out _).mono ?_
  rintro e w14 ⟨v14, rfl, n14⟩
  obtain ⟨A14, cap14, rfl⟩ := n14.shape
  have M14 : Hid (Mod [] w8 w14) := M12.out.trans n14.mod (by simp)
  have hbe : (((enc 10 n).length : Int) == ((enc 10 n).length : Int)) = true := by simp
  clear n14
  go_wp2_with fail
  refine (same_c (HX.out.mod M14.out (by simp)) (V2.out.later M14.out).rd.choose_spec.1 (by rw [HL.out]; omega) (by rw [HL.out]; omega)).mono ?_
  rintro e w15 ⟨rfl, m15⟩
  rw [decide_eq_true rfl]
  have M15 : Hid (Mod [] w w15) := ((M1.out.trans MM8.out (by simp)).trans M14.out (by simp)).trans m15 (by simp)
  clear m15
  go_wp2
  go_ret
  exact ⟨rfl, M15.out⟩
end Go.Proofs.Ytlmlijmfcpenpaa

/- The law WireBack. -/
import Derived.Test.YtlmlijmfcpenpaaH
set_option linter.unusedVariables false
set_option linter.unusedSimpArgs false
namespace Go.Proofs.Ytlmlijmfcpenpaa
open Go.RowKit

/-- The bytes of numbers, one behind the other. -/
def encs (ns : List Nat) : List UInt8 := ns.flatMap (enc 10)
theorem encs_snoc (ns : List Nat) (n : Nat) : encs (ns ++ [n]) = encs ns ++ enc 10 n := by simp [encs]
theorem encs_length (ns : List Nat) : (encs ns).length ≤ 10 * ns.length := by
  induction ns with
  | nil => simp [encs]
  | cons n ns ih =>
    have := enc_length 10 n
    have e : encs (n :: ns) = enc 10 n ++ encs ns := rfl
    rw [e, List.length_append, List.length_cons]; omega

theorem numStep_put {n : Nat} (hn : n < 18446744073709551616) (t : List UInt8) {m : Nat} (hm : n ≤ m) : numStep (enc 10 n ++ t) 0 m = (n, t, 0) := by
  unfold numStep
  rw [if_neg (by simp), scan_put hn t]
  simp only [ne_eq, not_true, if_false]
  rw [if_neg (by omega), List.drop_left]
theorem textStep_put {s : ByteArray} (hs : s.size ≤ 300) {m : Nat} (hm : s.size ≤ m) : textStep (enc 10 s.size ++ s.data.toList) 0 m = (s.data.toList, [], 0) := by
  have hl : s.data.toList.length = s.size := rfl
  unfold textStep
  rw [if_neg (by simp), scan_put (by omega) _]
  simp only [ne_eq, not_true, if_false]
  rw [if_neg (by omega), if_neg (by rw [List.length_append, hl]; omega), List.drop_left, List.take_of_length_le (by rw [hl]; omega)]
  congr 1
  rw [List.drop_eq_nil_of_le (by rw [List.length_append, hl]; omega)]

theorem str_eta (s : ByteArray) : (⟨s.data.toList.toArray⟩ : ByteArray) = s := by cases s; simp

theorem IntRow.nats {w : World} {a : Option Addr} {len cap : Nat} {z : Nat → Int} (h : IntRow .u64 w a len cap z) : ∃ zn : Nat → Nat, ∀ i, i < len → z i = (zn i : Int) ∧ zn i < 18446744073709551616 := by
  refine ⟨fun i => (z i).toNat, fun i hi => ?_⟩
  obtain ⟨b, off, _, _, _, hwf⟩ := h.2 i hi
  obtain ⟨n, hn, hl⟩ := bounds_u64' hwf
  show z i = (((z i).toNat : Nat) : Int) ∧ (z i).toNat < _
  rw [hn]; exact ⟨by simp, by simpa using hl⟩

/-- The first k numbers. -/
def firsts (zn : Nat → Nat) (k : Nat) : List Nat := (List.range k).map zn
theorem firsts_succ (zn : Nat → Nat) (k : Nat) : firsts zn (k + 1) = firsts zn k ++ [zn k] := by simp [firsts, List.range_succ]
theorem firsts_length (zn : Nat → Nat) (k : Nat) : (firsts zn k).length = k := by simp [firsts]
/-- What is left behind the first k. -/
def rest (zn : Nat → Nat) (len k : Nat) (t : List UInt8) : List UInt8 := encs ((List.range (len - k)).map fun i => zn (k + i)) ++ t
theorem rest_all (zn : Nat → Nat) (len : Nat) (t : List UInt8) : rest zn len 0 t = encs (firsts zn len) ++ t := by simp [rest, firsts]
theorem rest_end (zn : Nat → Nat) (len : Nat) (t : List UInt8) : rest zn len len t = t := by simp [rest, encs]
theorem rest_step (zn : Nat → Nat) {len k : Nat} (h : k < len) (t : List UInt8) : rest zn len k t = enc 10 (zn k) ++ rest zn len (k + 1) t := by
  unfold rest
  have e : len - k = (len - (k + 1)) + 1 := by omega
  rw [e, List.range_succ_eq_map]
  simp only [List.map_cons, List.map_map, Nat.add_zero]
  rw [show encs (zn k :: List.map ((fun i => zn (k + i)) ∘ Nat.succ) (List.range (len - (k + 1)))) = enc 10 (zn k) ++ encs (List.map ((fun i => zn (k + i)) ∘ Nat.succ) (List.range (len - (k + 1)))) from rfl, List.append_assoc]
  congr 3
  apply List.map_congr_left
  intro i _
  simp [Nat.add_assoc, Nat.add_comm 1]

set_option maxRecDepth 100000 in
set_option maxHeartbeats 8000000 in
theorem wireBack_main (w : World) (a0 : Option Addr) (len cap : Nat) (z : Nat → Int) (h : IntRow .u64 w a0 len cap z) (hlen : len ≤ 50) (s : ByteArray) (hs : s.size ≤ 300) (x y : Nat) (hx : x < 18446744073709551616) (hy : y < 18446744073709551616) :
    Calls Try.prog 5 #[.slice a0 len cap, .string s, .int .u64 x, .int .u64 y] w fun e w' => e = .returned (.bool true) ∧ Mod [] w w' := by
  obtain ⟨zn, hzn⟩ := h.nats
  have HZ := Lib.hid h.2
  have HN := Lib.hid hzn
  have HS := Lib.hid hs
  have HX := Lib.hid hx
  have HY := Lib.hid hy
  clear h hzn hx hy
  go_enter Try.func5, Try.ntmps5
  go_wp2_with fail
  refine (alive_c w).mono ?_
  rintro e w1 ⟨rfl, m1⟩
  have M1 := Lib.hid m1
  clear m1
  go_wp2_with fail
  go_loopw [9, 10] (fun v i wr => ∃ k : Nat, i = .int .i64 k ∧ k ≤ len ∧ NewB w (encs (firsts zn k)) wr v) (fun _ i _ => len - (intOf i).toNat)
  case atStart => exact ⟨0, rfl, Nat.zero_le _, [], by simpa [encs, firsts, bv] using Sl.nil w1 5 1, M1.out, by simp⟩
  case round =>
    obtain ⟨k, rfl, hk, nb⟩ := hrel
    obtain ⟨A, cp, rfl⟩ := nb.shape
    have NB := Lib.hid nb
    have hel : (encs (firsts zn k)).length ≤ 500 := by have := encs_length (firsts zn k); rw [firsts_length] at this; omega
    clear nb
    by_cases hlt : k < len
    · obtain ⟨b0, off, rfl, hb0, c0, f0⟩ := HZ.out k hlt
      rw [(HN.out k hlt).1] at c0
      rw [← NB.out.mod.cell (a := ⟨b0, _, none⟩) hb0 (by simp)] at c0
      have hz2 := Lib.hid (HN.out k hlt).2
      have hen := enc_length 10 (zn k)
      have hsn : Hid (encs (firsts zn (k + 1)) = encs (firsts zn k) ++ enc 10 (zn k)) := by show _ = _; rw [firsts_succ, encs_snoc]
      clear f0
      have PC := Lib.hid (put_c NB.out.rd.choose_spec.1 (by omega) (zn k) hz2.out)
      generalize (encs (firsts zn k)).length = m at *
      generalize zn k = q at *
      go_wp2_with fail
      refine PC.out.mono ?_
      rintro r w2 ⟨v2, rfl, n2⟩
      have N2 := Lib.hid n2
      clear n2 PC
      go_wp2_with fail
      have hr : NewB w (encs (firsts zn (k + 1))) w2 v2 := by rw [hsn.out]; exact N2.out.after NB.out.mod
      go_roundw
      case rel => exact ⟨k + 1, by go_num, by omega, hr⟩
      case measure => simp [intOf]; omega
    · obtain rfl : k = len := by omega
      clear hlt
      have PT := Lib.hid (puttext_c NB.out.rd.choose_spec.1 (by omega) s (by have := HS.out; omega))
      generalize (encs (firsts zn k)).length = m at *
      go_wp2_with fail
      refine PT.out.mono ?_
      rintro r w2 ⟨v2, rfl, n2⟩
      have N2 : Hid (NewB w (rest zn k 0 (enc 10 s.size ++ s.data.toList)) w2 v2) := by
        show NewB _ _ _ _
        rw [rest_all, ← List.append_assoc]; exact n2.after NB.out.mod
      clear n2 PT NB
      obtain ⟨F2, r2, f2⟩ := N2.out.rd
      have R2 := Lib.hid r2
      have HF2 := Lib.hid r2.lt
      clear r2
      go_wp2_with fail
      refine (newreader_c R2.out).mono ?_
      rintro r w3 ⟨rfl, hw3⟩
      obtain ⟨F3, r3, f3⟩ := HF2.out
      have S3 : Hid (Rdr w3 w2.heap.size (rest zn k 0 (enc 10 s.size ++ s.data.toList)) 0 F3 ∧ Mod [] w w3 ∧ w.heap.size ≤ w2.heap.size) := by
        refine ⟨?_, ?_, N2.out.mod.size⟩
        · rw [hw3]; exact ⟨_, Blk.new _ _ _, r3.mod (S := []) (by (repeat (first | exact Mod.refl _ _ | apply Mod.drew | apply Mod.drewN | apply Mod.alloc | refine Mod.setCell ?_ _ _ (by first | simp | (simp; omega))))) (by simp), fun hm => by have := (f3 _ hm).1; omega⟩
        · rw [hw3]; exact N2.out.mod.alloc _
      clear hw3 r3 f3 HF2 R2 N2
      generalize w2.heap.size = p at *
      go_wp2_with fail
      go_loopw [12] (fun i wr => ∃ q : Nat, i = .int .i64 q ∧ q ≤ k ∧ Rdr wr p (rest zn k q (enc 10 s.size ++ s.data.toList)) 0 F3 ∧ Mod [] w wr ∧ w.heap.size ≤ p) (fun i _ => k - (intOf i).toNat)
      case atStart => exact ⟨0, rfl, Nat.zero_le _, S3.out⟩
      case round =>
        clear S3
        obtain ⟨q, rfl, hq, hr, hm, hp⟩ := hrel
        have RR := Lib.hid hr
        have MM := Lib.hid hm
        clear hr hm
        have hrl : Hid ((rest zn k q (enc 10 s.size ++ s.data.toList)).length ≤ 100000) := by
          show _ ≤ _
          unfold rest
          have h1 := encs_length ((List.range (k - q)).map fun i => zn (q + i))
          have h2 := enc_length 10 s.size
          have h3 : s.data.toList.length = s.size := rfl
          have h4 := HS.out
          rw [List.length_append, List.length_append, h3]
          simp at h1
          omega
        by_cases hqk : q < k
        · obtain ⟨b0, off, rfl, hb0, c0, f0⟩ := HZ.out q hqk
          rw [(HN.out q hqk).1] at c0
          have hz2 := Lib.hid (HN.out q hqk).2
          have C0 := Lib.hid c0
          rw [← MM.out.cell (a := ⟨b0, _, none⟩) hb0 (by simp)] at c0
          have NS : Hid (numStep (rest zn k q (enc 10 s.size ++ s.data.toList)) 0 18446744073709551615 = (zn q, rest zn k (q + 1) (enc 10 s.size ++ s.data.toList), 0)) := by
            show _ = _
            rw [rest_step zn hqk]; exact numStep_put hz2.out _ (by have := hz2.out; omega)
          have NC : Hid (∀ W : World, Rdr W p (rest zn k q (enc 10 s.size ++ s.data.toList)) 0 F3 → Calls Try.prog 15 #[.pointer (some ⟨p, 0, none⟩), .int .u64 18446744073709551615] W fun r w' => r = .returned (.int .u64 (zn q)) ∧ Rdr w' p (rest zn k (q + 1) (enc 10 s.size ++ s.data.toList)) 0 F3 ∧ Mod [p] W w') := by
            intro W hW
            have := Num_c hW hrl.out 18446744073709551615
            rw [NS.out] at this; exact this
          clear f0 NS
          have hb0' : b0 < wr.heap.size := Nat.lt_of_lt_of_le hb0 MM.out.size
          have hbp : b0 ≠ p := by omega
          generalize zn q = v at *
          have hvv : ((v : Int) != (v : Int)) = false := by simp
          go_wp2_with fail
          go_region_with (go_at_call 15; refine (NC.out _ (by exact RR.out)).mono ?_; rintro r w4 ⟨rfl, r4, m4⟩; have d4 := (m4.cell (a := ⟨b0, off + q, none⟩) (by exact hb0') (by simp; exact hbp)).trans (show World.cell? _ _ = _ by exact c0); have R4 := Lib.hid r4; have M4 := Lib.hid m4; clear r4 m4)
          all_goals
            go_wp2
            go_roundw
            case rel => exact ⟨q + 1, by go_num, by omega, R4.out, (MM.out.drew).trans M4.out (by simp; omega), hp⟩
            case measure => simp [intOf]; omega
        · obtain rfl : q = k := by omega
          clear hqk
          have RE : Hid (Rdr wr p (enc 10 s.size ++ s.data.toList) 0 F3) := by have := RR.out; rw [rest_end] at this; exact this
          have TC : Hid (∀ W : World, Rdr W p (enc 10 s.size ++ s.data.toList) 0 F3 → Calls Try.prog 18 #[.pointer (some ⟨p, 0, none⟩), .int .i64 1000] W fun r w' => r = .returned (.string s) ∧ Rdr w' p [] 0 F3 ∧ Mod [p] W w') := by
            intro W hW
            have hlz : (enc 10 s.size ++ s.data.toList).length ≤ 100000 := by
              have h2 := enc_length 10 s.size
              have h3 : s.data.toList.length = s.size := rfl
              have h4 := HS.out
              rw [List.length_append, h3]; omega
            have := Text_c hW hlz 1000 1000 (by omega) (.inr rfl)
            rw [textStep_put HS.out (by have := HS.out; omega), str_eta] at this
            exact this
          clear RR hrl
          have hx1 := enc_length 10 x
          have hy1 := enc_length 10 y
          go_wp2_with fail
          refine (put_c (Rd.nil _) (by simp) x HX.out).mono ?_
          rintro r w4 ⟨v4, rfl, n4⟩
          rw [List.nil_append] at n4
          obtain ⟨A4, c4, rfl⟩ := n4.shape
          have N4 := Lib.hid n4
          have hwy : wr.heap.size ≤ w4.heap.size := n4.mod.size
          clear n4
          go_wp2_with fail
          refine (put_c (Rd.nil _) (by simp) y HY.out).mono ?_
          rintro r w5 ⟨v5, rfl, n5⟩
          rw [List.nil_append] at n5
          obtain ⟨A5, c5, rfl⟩ := n5.shape
          have N5 := Lib.hid n5
          clear n5
          have M5 : Hid (Mod [] w w5) := (MM.out.trans N4.out.mod (by simp)).trans N5.out.mod (by simp)
          have X5 : Hid (NewB wr (enc 10 x) w5 (.slice A4 (enc 10 x).length c4)) := N4.out.later N5.out.mod
          have R5 : Hid (Rdr w5 p (enc 10 s.size ++ s.data.toList) 0 F3) := (RE.out.mod N4.out.mod).mod N5.out.mod
          have hpl : p < wr.heap.size := RE.out.lt
          clear RE MM N4
          obtain ⟨Fx, rx, fx⟩ := X5.out.rd
          obtain ⟨Fy, ry, fy⟩ := N5.out.rd
          have hc5 : (enc 10 y).length ≤ c5 := ry.len.2
          have RX := Lib.hid rx
          have RY := Lib.hid ry
          have GX : Hid (∀ j ∈ Fx, j ≠ p) := fun j hj => by have := fx j hj; omega
          have GY : Hid (∀ j ∈ Fy, j ≠ p) := fun j hj => by have := fy j hj; omega
          clear rx ry fx fy X5 N5
          have hteq : (s.toList == s.toList) = true := by simp
          have hfree : Hid (x ≠ y → enc 10 x ≠ (enc 10 y).take (enc 10 x).length) := fun h e => h (enc_free HX.out HY.out e)
          have hlx : Hid ((enc 10 x).length = (enc 10 x).length) := rfl
          generalize hlen1 : (enc 10 x).length = n1 at *
          generalize hlen2 : (enc 10 y).length = n2 at *
          have L1 := Lib.hid hlen1
          have L2 := Lib.hid hlen2
          clear hlen1 hlen2 hlx
          have tail : ∀ W : World, Mod [p] w5 W → Mod [] w W := fun W m => M5.out.trans m (by simp; omega)
          have TL := Lib.hid tail
          clear tail
          by_cases hxy : x = y
          · have bxy : ((x : Int) != (y : Int)) = false := by rw [bne_eq_false_iff_eq]; omega
            clear hxy
            go_wp2_with fail
            refine (TC.out _ R5.out).mono ?_
            rintro r w6 ⟨rfl, r6, m6⟩
            have R6 := Lib.hid r6
            have M6 := Lib.hid m6
            clear r6 m6
            go_wp2_with fail
            refine (End_c R6.out).mono ?_
            rintro r w7 ⟨rfl, rfl⟩
            rw [show endOf [] 0 = 0 from rfl]
            go_wp2_with (first | (go_at_call 15; refine (Num_nil _ _).mono ?_; rintro r w9 ⟨rfl, rfl⟩) | (go_at_call 17; refine (Byte_nil _).mono ?_; rintro r w9 ⟨rfl, rfl⟩) | (go_at_call 18; refine (Text_nil _ _).mono ?_; rintro r w9 ⟨rfl, rfl⟩) | (go_at_call 20; refine (Left_nil _).mono ?_; rintro r w9 ⟨rfl, rfl⟩) | (go_at_call 19; refine (Err_nil _).mono ?_; rintro r w9 ⟨rfl, rfl⟩) | (go_at_call 21; refine (End_nil _).mono ?_; rintro r w9 ⟨rfl, rfl⟩))
            go_ret
            exact ⟨rfl, TL.out _ M6.out⟩
          · have bxy : ((x : Int) != (y : Int)) = true := by rw [bne_iff_ne]; omega
            have HXY := Lib.hid hxy
            clear hxy
            by_cases hle : n1 ≤ n2
            · go_wp2_with fail
              refine (TC.out _ R5.out).mono ?_
              rintro r w6 ⟨rfl, r6, m6⟩
              have R6 := Lib.hid r6
              have M6 := Lib.hid m6
              clear r6 m6
              go_wp2_with fail
              refine (End_c R6.out).mono ?_
              rintro r w7 ⟨rfl, rfl⟩
              rw [show endOf [] 0 = 0 from rfl]
              have SC : Hid (Calls Try.prog 9 #[.slice A4 n1 c4, .slice A5 n1 c5] w6 fun e' w' => e' = .returned (.bool false) ∧ Mod [] w6 w') := by
                have := same_c (RX.out.mod M6.out (by simp; exact fun j hj => GX.out j hj)) ((RY.out.mod M6.out (by simp; exact fun j hj => GY.out j hj)).take n1 hle) (by rw [L1.out]; omega) (by rw [List.length_take]; omega)
                rw [decide_eq_false (hfree.out HXY.out)] at this
                exact this
              go_wp2_with fail
              refine SC.out.mono ?_
              rintro r w8 ⟨rfl, m8⟩
              have M8 : Hid (Mod [p] w5 w8) := M6.out.trans m8 (by simp)
              clear m8
              go_wp2_with (first | (go_at_call 15; refine (Num_nil _ _).mono ?_; rintro r w9 ⟨rfl, rfl⟩) | (go_at_call 17; refine (Byte_nil _).mono ?_; rintro r w9 ⟨rfl, rfl⟩) | (go_at_call 18; refine (Text_nil _ _).mono ?_; rintro r w9 ⟨rfl, rfl⟩) | (go_at_call 20; refine (Left_nil _).mono ?_; rintro r w9 ⟨rfl, rfl⟩) | (go_at_call 19; refine (Err_nil _).mono ?_; rintro r w9 ⟨rfl, rfl⟩) | (go_at_call 21; refine (End_nil _).mono ?_; rintro r w9 ⟨rfl, rfl⟩))
              go_ret
              exact ⟨rfl, TL.out _ M8.out⟩
            · go_wp2_with fail
              refine (TC.out _ R5.out).mono ?_
              rintro r w6 ⟨rfl, r6, m6⟩
              have R6 := Lib.hid r6
              have M6 := Lib.hid m6
              clear r6 m6
              go_wp2_with fail
              refine (End_c R6.out).mono ?_
              rintro r w7 ⟨rfl, rfl⟩
              rw [show endOf [] 0 = 0 from rfl]
              go_wp2_with (first | (go_at_call 15; refine (Num_nil _ _).mono ?_; rintro r w9 ⟨rfl, rfl⟩) | (go_at_call 17; refine (Byte_nil _).mono ?_; rintro r w9 ⟨rfl, rfl⟩) | (go_at_call 18; refine (Text_nil _ _).mono ?_; rintro r w9 ⟨rfl, rfl⟩) | (go_at_call 20; refine (Left_nil _).mono ?_; rintro r w9 ⟨rfl, rfl⟩) | (go_at_call 19; refine (Err_nil _).mono ?_; rintro r w9 ⟨rfl, rfl⟩) | (go_at_call 21; refine (End_nil _).mono ?_; rintro r w9 ⟨rfl, rfl⟩))
              go_ret
              exact ⟨rfl, TL.out _ M6.out⟩

set_option maxHeartbeats 1000000 in
theorem wireBack_long (w : World) (a0 : Option Addr) (len cap : Nat) (s : ByteArray) (x y : Int) (h : (50 : Int) < len ∨ ((len : Int) ≤ 50 ∧ (300 : Int) < s.size)) :
    Calls Try.prog 5 #[.slice a0 len cap, .string s, .int .u64 x, .int .u64 y] w fun e w' => e = .returned (.bool true) ∧ Mod [] w w' := by
  rcases h with h | ⟨h, h'⟩
  all_goals
    go_enter Try.func5, Try.ntmps5
    go_wp2_with fail
    refine (alive_c w).mono ?_
    rintro e w1 ⟨rfl, M1⟩
    have Z1 := Lib.hid M1
    clear M1
    go_wp2_with fail
    go_ret
    exact ⟨rfl, Z1.out⟩

theorem wireBack_walk (w : World) (a0 : Option Addr) (len cap : Nat) (z : Nat → Int) (hw : IntRow .u64 w a0 len cap z) (s : ByteArray) (_ws : s.size ≤ maxLen) (x : Int) (wx : (Lit.int .u64 x).wf = true) (y : Int) (wy : (Lit.int .u64 y).wf = true) :
    Calls Try.prog 5 #[.slice a0 len cap, .string s, .int .u64 x, .int .u64 y] w fun e w' => e = .returned (.bool true) ∧ Mod [] w w' := by
  by_cases h : len ≤ 50
  · by_cases h' : s.size ≤ 300
    · obtain ⟨x, rfl, hx⟩ := bounds_u64' wx
      obtain ⟨y, rfl, hy⟩ := bounds_u64' wy
      exact wireBack_main w a0 len cap z hw h s h' x y hx hy
    · exact wireBack_long w a0 len cap s x y (.inr ⟨by omega, by omega⟩)
  · exact wireBack_long w a0 len cap s x y (.inl (by omega))
end Go.Proofs.Ytlmlijmfcpenpaa

/- Len; Range and its iterator. -/
import Derived.Test.YtchbgnfmmplinaaD
set_option linter.unusedVariables false
set_option linter.unusedSimpArgs false
namespace Go.Proofs.Ytchbgnfmmplinaa
open Go.RowKit Go.Shelf
attribute [local go_sem] Oper.semAt_some

structure Le (w0 : World) (bx B : Nat) (X : List Nat) (pre : List Int) (V : World) : Prop where
  own : Blk V bx #[.int .i64 (pre.length : Nat)] 3
  nx : bx ∉ X
  mod : Mod [] w0 V
  above : ∀ k ∈ X, B ≤ k
  bB : w0.heap.size ≤ bx ∧ bx < B
  size : B ≤ V.heap.size

theorem Le.step {w0 : World} {bx B : Nat} {X X' : List Nat} {pre : List Int} {A V : World} (h : Le w0 bx B X pre A) (m : Mod X A V) (hX : ∀ k ∈ X', (k ∈ X ∨ A.heap.size ≤ k) ∧ k < V.heap.size) : Le w0 bx B X' pre V := by
  have hl := h.bB
  have hB := h.size
  refine ⟨h.own.mod m h.nx, fun hm => ?_, h.mod.trans m (fun i hi hm => by have := h.above i hm; omega), fun k hk => ?_, hl, Nat.le_trans hB m.size⟩
  · rcases (hX bx hm).1 with q | q
    · exact h.nx q
    · have := h.own.lt; omega
  · rcases (hX k hk).1 with q | q
    · exact h.above k q
    · omega

set_option maxRecDepth 100000 in
set_option maxHeartbeats 4000000 in
theorem len_v {sv : Value} {g : Nat} {lb : Array Value} {R : List Nat} {L : List Int} {w : World} (hsv : NoneTo sv g lb) (hs : Seq Try.prog g lb ei R L w) (n : Int) (hn2 : n ≤ 9223372036854775807) (hlen : (tk L n).length ≤ 100000) :
    Calls Try.prog 14 #[sv, .int .i64 n] w fun e w' => e = .returned (.int .i64 (tk L n).length) ∧ Mod [] w w' := by
  have TC := Lib.hid (take_v hsv (hs.mod (w' := w.alloc (.cells #[.int .i64 0] 3)) ((Mod.refl [] _).alloc _) (by simp)) n hn2)
  have HR := Lib.hid hs.1
  have HLEN := Lib.hid hlen
  clear hs hn2 hlen
  refine (callsIn_wide (n := 0)).1 (callsIn_of_wp_marks Try.func14 rfl trivial ?_ rfl)
  simp only [Try.ntmps14, List.size_toArray, List.length_cons, List.length_nil, Nat.reduceAdd, Nat.reduceSub, Array.replicate_succ, Array.replicate_zero, List.push_toArray, List.append_toArray, List.nil_append, List.cons_append]
  gi_wp2
  refine ⟨trivial, rfl, ?_⟩
  refine ((callsIn_wide (n := 0)).2 TC.out).mono ?_
  rintro e w2 ⟨lb2, rfl, ⟨R2, hs2, hR2⟩, m2⟩
  have S2 := Lib.hid hs2
  have M2 := Lib.hid m2
  have HR2 := Lib.hid hR2
  have b2 : Hid (Blk w2 w.heap.size #[.int .i64 0] 3) := (Blk.new _ _ _).mod m2 (by simp)
  have hz2' : w.heap.size + 1 ≤ w2.heap.size := by have := m2.size; simpa using this
  clear hs2 m2 hR2 TC
  have hR3 : Hid (∀ k ∈ R2, k ≠ w.heap.size) := fun k hk e => by
    rcases HR2.out k hk with q | q
    · have := HR.out k q; omega
    · simp at q; omega
  gi_wp2
  refine wpIn_range (gf := 28) (lb := lb2) rfl S2.out rfl (fun X pre V => Le w w.heap.size w2.heap.size X pre V) (fun _ _ _ _ => False)
    (fun X X' s A V h m hX => h.step m hX) (fun _ _ _ _ _ _ h _ _ => h)
    ⟨b2.out, by simp, (Mod.refl [] w).alloc (.cells #[.int .i64 0] 3) |>.trans M2.out (by simp), by simp, ⟨Nat.le_refl _, by omega⟩, Nat.le_refl _⟩
    (fun x => { tmps := #[sv, .int .i64 n, undef, undef, .int .i64 0, .pointer (some ⟨w.heap.size, 0, none⟩), sv, .int .i64 n, .func (.func 28) #[] lb2, .int .i64 x, undef, undef, undef], defers := [] })
    ?assign ?body ?done ?stop
  case assign =>
    intro l2 x V K hK
    gi_wp2
    simpa [ei] using hK
  case body =>
    rintro l2 X pre x rest V hL hc hX hkR
    have HC := Lib.hid hc
    have hb := hc.own
    have cb := hb.cell 0
    simp at cb
    have fb := hb.froz 0
    have hpl : pre.length ≤ 100000 := by
      have h1 := HLEN.out
      rw [hL, List.length_append] at h1; omega
    have HB := Lib.hid hb
    have HX := Lib.hid hX
    clear hb hL hX hkR hc
    generalize hm0 : pre.length = m0 at *
    have HM0 := Lib.hid hm0
    clear hm0
    gi_wp2
    have MV : Mod [w.heap.size] V (V.setCell ⟨w.heap.size, 0, none⟩ (.int .i64 ((m0 : Int) + 1))) := (Mod.refl _ V).setCell _ _ (by simp)
    refine ⟨MV.size, MV.keep fun k hk => ?_, ⟨?_, HC.out.nx, HC.out.mod.trans MV (fun k hk hm => ?_), HC.out.above, HC.out.bB, Nat.le_trans HC.out.size MV.size⟩⟩
    · rcases List.mem_append.1 hk with q | q
      · have h1 := S2.out.1 k q
        have h2 := HC.out.size
        exact ⟨by omega, fun hm => hR3.out k q (by simpa using hm)⟩
      · exact ⟨HX.out k q, fun hm => HC.out.nx (by simp at hm; rw [← hm]; exact q)⟩
    · rw [List.length_append, HM0.out]
      simpa using HB.out.set 0 (.int .i64 ((m0 : Int) + 1))
    · simp at hm; omega
  case done =>
    rintro D X V hD hab hc hkR hK
    have hc' := hc.step (X' := []) ((Mod.refl X V).putObj D (.deferred none) (fun _ => hD)) (by simp)
    have cb := hc.own.cell 0
    simp at cb
    have HC' := Lib.hid hc'
    clear hc hc' hab hkR
    gi_wp2
    refine ⟨by simp, .inl ⟨_, _, rfl, run_takeDeferred hK, ?_⟩⟩
    exact ⟨_, results_tmp rfl _ _ _, rfl, HC'.out.mod⟩
  case stop => exact fun _ _ _ _ _ _ _ _ h _ _ => h.elim
theorem len_c {g : Nat} {lb : Array Value} {R : List Nat} {L : List Int} {w : World} (hs : Seq Try.prog g lb ei R L w) (n : Int) (hn2 : n ≤ 9223372036854775807) (hlen : (tk L n).length ≤ 100000) :
    Calls Try.prog 14 #[.func (.func g) #[] lb, .int .i64 n] w fun e w' => e = .returned (.int .i64 (tk L n).length) ∧ Mod [] w w' := len_v (.func g lb) hs n hn2 hlen

/-! The numbers of a range. -/
def rngN (a b c : Int) : Nat := if 0 < c then (if a < b then ((b - a - 1) / c + 1).toNat else 0) else if c < 0 then (if b < a then ((a - b - 1) / (-c) + 1).toNat else 0) else 0
def rngL (a b c : Int) : List Int := (List.range (rngN a b c)).map fun (k : Nat) => a + (k : Int) * c

theorem rng_up {a b c : Int} (hc : 0 < c) (k : Nat) : k < rngN a b c ↔ a + k * c < b := by
  unfold rngN
  rw [if_pos hc]
  by_cases h : a < b
  · rw [if_pos h]
    have h0 : 0 ≤ (b - a - 1) / c := Int.ediv_nonneg (by omega) (by omega)
    have e : (k < ((b - a - 1) / c + 1).toNat) ↔ ((k : Int) ≤ (b - a - 1) / c) := by omega
    rw [e, Int.le_ediv_iff_mul_le hc]
    omega
  · rw [if_neg h]
    have : 0 ≤ (k : Int) * c := Int.mul_nonneg (by omega) (by omega)
    constructor <;> intro h1 <;> omega
theorem rng_down {a b c : Int} (hc : c < 0) (k : Nat) : k < rngN a b c ↔ b < a + k * c := by
  unfold rngN
  rw [if_neg (by omega), if_pos hc]
  have em : (k : Int) * (-c) = -((k : Int) * c) := Int.mul_neg _ _
  by_cases h : b < a
  · rw [if_pos h]
    have h0 : 0 ≤ (a - b - 1) / (-c) := Int.ediv_nonneg (by omega) (by omega)
    have e : (k < ((a - b - 1) / (-c) + 1).toNat) ↔ ((k : Int) ≤ (a - b - 1) / (-c)) := by omega
    rw [e, Int.le_ediv_iff_mul_le (by omega), em]
    omega
  · rw [if_neg h]
    have : 0 ≤ (k : Int) * (-c) := Int.mul_nonneg (by omega) (by omega)
    constructor <;> intro h1 <;> omega
theorem rngL_length (a b c : Int) : (rngL a b c).length = rngN a b c := by simp [rngL]
theorem rngL_split (a b c : Int) {k : Nat} (h : k < rngN a b c) : rngL a b c = (rngL a b c).take k ++ (a + k * c) :: (rngL a b c).drop (k + 1) := by
  have hl : k < (rngL a b c).length := by rw [rngL_length]; exact h
  have e : (rngL a b c)[k] = a + k * c := by simp [rngL]
  rw [← e, List.getElem_cons_drop, List.take_append_drop]
theorem rngL_take (a b c : Int) {k : Nat} (h : k < rngN a b c) : (rngL a b c).take k ++ [a + k * c] = (rngL a b c).take (k + 1) := by
  have hl : k < (rngL a b c).length := by rw [rngL_length]; exact h
  have e : (rngL a b c)[k] = a + k * c := by simp [rngL]
  rw [← e, List.take_succ_eq_append_getElem hl]
theorem rngL_all (a b c : Int) {k : Nat} (h : rngN a b c ≤ k) : (rngL a b c).take k = rngL a b c := List.take_of_length_le (by rw [rngL_length]; exact h)
theorem rng_next (a c : Int) (k : Nat) : a + ((k + 1 : Nat) : Int) * c = a + k * c + c := by
  rw [Int.natCast_add, Int.add_mul]; omega

theorem rng_in_up {a b c : Int} (hc : 0 < c) (k : Nat) : a ≤ a + k * c := by
  have : 0 ≤ (k : Int) * c := Int.mul_nonneg (by omega) (by omega)
  omega
theorem rng_in_down {a b c : Int} (hc : c < 0) (k : Nat) : a + k * c ≤ a := by
  have em : (k : Int) * (-c) = -((k : Int) * c) := Int.mul_neg _ _
  have : 0 ≤ (k : Int) * (-c) := Int.mul_nonneg (by omega) (by omega)
  omega

theorem range_mk (a b c : Int) (w : World) : Calls Try.prog 11 #[.int .i64 a, .int .i64 b, .int .i64 c] w fun e w' =>
    e = .returned (.func (.func 25) #[] #[.pointer (some ⟨w.heap.size, 0, none⟩), .pointer (some ⟨w.heap.size + 2, 0, none⟩), .pointer (some ⟨w.heap.size + 1, 0, none⟩)]) ∧ w' = ((w.alloc (.cells #[.int .i64 a] 3)).alloc (.cells #[.int .i64 b] 3)).alloc (.cells #[.int .i64 c] 3) := by
  go_enter Try.func11, Try.ntmps11
  go_wp2
  go_ret
  exact ⟨rfl, rfl⟩

def I64 (x : Int) : Prop := -9223372036854775808 ≤ x ∧ x ≤ 9223372036854775807
theorem wrap_up {x c : Int} (hx : I64 x) (hc : I64 c) (h0 : 0 < c) (h : ¬ I64 (x + c)) : wrap64 (x + c) ≤ x := by
  unfold I64 at *; unfold wrap64; omega
theorem wrap_down {x c : Int} (hx : I64 x) (hc : I64 c) (h0 : c < 0) (h : ¬ I64 (x + c)) : x < wrap64 (x + c) := by
  unfold I64 at *; unfold wrap64; omega

set_option maxRecDepth 100000 in
set_option maxHeartbeats 4000000 in
theorem rangeI_up {a b c : Int} (hc0 : 0 < c) (hb9 : I64 b) (ha9 : I64 a) (hc9 : I64 c) {w : World} {ba bb bc : Nat} (h1 : Blk w ba #[.int .i64 a] 3) (h2 : Blk w bb #[.int .i64 b] 3) (h3 : Blk w bc #[.int .i64 c] 3) :
    Seq Try.prog 25 #[.pointer (some ⟨ba, 0, none⟩), .pointer (some ⟨bc, 0, none⟩), .pointer (some ⟨bb, 0, none⟩)] ei [ba, bc, bb] (rngL a b c) w := by
  refine ⟨?_, enters_of Try.func25 (by kernel_rfl) rfl, ?_⟩
  · intro k hk
    simp only [List.mem_cons, List.not_mem_nil, or_false] at hk
    rcases hk with rfl | rfl | rfl
    · exact h1.lt
    · exact h3.lt
    · exact h2.lt
  intro l J Jx W hW hkW hJ hJx hY h0
  have K1 := Lib.hid h1
  have K2 := Lib.hid h2
  have K3 := Lib.hid h3
  have ca := (h1.keep hkW (by simp)).cell 0
  simp at ca
  have HKW := Lib.hid hkW
  have HJ := Lib.hid hJ
  have HY := Lib.hid hY
  have H0 := Lib.hid h0
  have HA := Lib.hid ha9
  have HB := Lib.hid hb9
  have HC := Lib.hid hc9
  clear h1 h2 h3 hkW hJ hJx hY h0 ha9 hb9 hc9
  refine (callsIn_wide (n := 0)).1 (callsIn_of_wp Try.func25 rfl trivial ?_ rfl)
  simp only [Try.ntmps25, List.size_toArray, List.length_cons, List.length_nil, Nat.reduceAdd, Nat.reduceSub, Array.replicate_succ, Array.replicate_zero, List.push_toArray, List.append_toArray, List.nil_append, List.cons_append]
  gi_wp2
  gi_loopw [5] (fun x wr => ∃ (k : Nat) (xx : Int), x = .int .i64 xx ∧ xx = a + k * c ∧ k ≤ rngN a b c ∧ J [] ((rngL a b c).take k) wr ∧ Keep [ba, bc, bb] w wr) (fun x _ => (b - intOf x).toNat)
  case atStart => exact ⟨0, a, rfl, by simp, Nat.zero_le _, H0.out, HKW.out⟩
  case round =>
    obtain ⟨k, x, rfl, hx, hk, hJ1, hK1⟩ := hrel
    have cb := (K2.out.keep hK1 (by simp)).cell 0
    have cc := (K3.out.keep hK1 (by simp)).cell 0
    simp at cb cc
    have HX := Lib.hid hx
    by_cases hlt : k < rngN a b c
    · have hxb : (x < b) := by rw [hx]; exact (rng_up hc0 k).1 hlt
      have hxa : a ≤ x := by rw [hx]; exact rng_in_up (b := b) hc0 k
      obtain ⟨fn, tmps, assign, body, hy, hR⟩ := HY.out [] _ x _ wr (by rw [hx]; exact rngL_split a b c hlt) hJ1 (by simp) hK1
      dsimp only [ei] at hy
      have HR := Lib.hid hR
      have HK1 := Lib.hid hK1
      have TK : Hid ((rngL a b c).take k ++ [x] = (rngL a b c).take (k + 1)) := by show _ = _; rw [hx]; exact rngL_take a b c hlt
      have NX : Hid (x + c = a + ((k + 1 : Nat) : Int) * c) := by show _ = _; rw [rng_next, hx]
      have hov : Hid (¬ I64 (x + c) → rngN a b c ≤ k + 1) := fun h => by
        rcases Nat.lt_or_ge (k + 1) (rngN a b c) with q | q
        · exfalso
          have q1 := (rng_up hc0 (k + 1)).1 q
          rw [← NX.out] at q1
          have hb := HB.out
          have ha := HA.out
          unfold I64 at h ha hb
          omega
        · exact q
      have hI : I64 x := by have hb := HB.out; have ha := HA.out; unfold I64 at *; omega
      have HI := Lib.hid hI
      have HLT := Lib.hid hlt
      clear hR hK1 hJ1 hx hk hxa hI hlt
      gi_wp2
      refine ⟨rfl, ?_⟩
      refine RoundIn.mono (show RoundIn _ _ _ _ _ _ _ _ _ _ from HR.out) ?_
      rintro e V2 ⟨hs2, hk2, (⟨rfl, hj2⟩ | ⟨rfl, hj2⟩)⟩
      · have hK2 : Hid (Keep [ba, bc, bb] w V2) := HK1.out.trans (fun q hq => hk2 q (by simpa using hq))
        have cc2 := (K3.out.keep hK2.out (by simp)).cell 0
        simp at cc2
        have HJ2 := Lib.hid hj2
        clear hk2 hj2 hs2 cb cc
        by_cases ho : I64 (x + c)
        · have ho1 : -9223372036854775808 ≤ x + c := ho.1
          have ho2 : x + c ≤ 9223372036854775807 := ho.2
          clear ho
          have hd : (!decide (x < x + c)) = false := by rw [decide_eq_true (by omega)]; rfl
          gi_wp2
          go_roundw
          case rel => exact ⟨k + 1, x + c, rfl, NX.out, HLT.out, by rw [← TK.out]; exact HJ2.out, hK2.out⟩
          case measure => simp only [intOf]; omega
        · have ho1 := wrap_up HI.out HC.out hc0 ho
          have ho2 := Lib.hid (hov.out ho)
          clear ho
          have hd : (!decide (x < wrap64 (x + c))) = true := by rw [decide_eq_false (by omega)]; rfl
          gi_wp2
          refine bodyPost_ret (results_none rfl _ _ _) rfl ⟨⟨_, rfl⟩, .inl ?_⟩
          have := HJ2.out
          rw [TK.out, rngL_all a b c ho2.out] at this
          exact this
      · have HJ2 := Lib.hid hj2
        clear hk2 hj2 hs2 cb cc
        gi_wp2
        refine bodyPost_ret (results_none rfl _ _ _) rfl ⟨⟨_, rfl⟩, .inr ⟨_, ?_, HJ2.out⟩⟩
        rw [TK.out]; exact List.take_prefix _ _
    · have hxb : ¬ (x < b) := by rw [hx]; exact fun h => hlt ((rng_up hc0 k).2 h)
      have HJ1 := Lib.hid hJ1
      have hall := Lib.hid (rngL_all a b c (Nat.le_of_not_lt hlt))
      clear hJ1 hK1 hx hk hlt
      gi_wp2
      go_end0
      refine ⟨⟨_, rfl⟩, .inl ?_⟩
      have := HJ1.out
      rw [hall.out] at this
      exact this

set_option maxRecDepth 100000 in
set_option maxHeartbeats 4000000 in
theorem rangeI_down {a b c : Int} (hc0 : c < 0) (hb9 : I64 b) (ha9 : I64 a) (hc9 : I64 c) {w : World} {ba bb bc : Nat} (h1 : Blk w ba #[.int .i64 a] 3) (h2 : Blk w bb #[.int .i64 b] 3) (h3 : Blk w bc #[.int .i64 c] 3) :
    Seq Try.prog 25 #[.pointer (some ⟨ba, 0, none⟩), .pointer (some ⟨bc, 0, none⟩), .pointer (some ⟨bb, 0, none⟩)] ei [ba, bc, bb] (rngL a b c) w := by
  refine ⟨?_, enters_of Try.func25 (by kernel_rfl) rfl, ?_⟩
  · intro k hk
    simp only [List.mem_cons, List.not_mem_nil, or_false] at hk
    rcases hk with rfl | rfl | rfl
    · exact h1.lt
    · exact h3.lt
    · exact h2.lt
  intro l J Jx W hW hkW hJ hJx hY h0
  have K1 := Lib.hid h1
  have K2 := Lib.hid h2
  have K3 := Lib.hid h3
  have ca := (h1.keep hkW (by simp)).cell 0
  simp at ca
  have HKW := Lib.hid hkW
  have HJ := Lib.hid hJ
  have HY := Lib.hid hY
  have H0 := Lib.hid h0
  have HA := Lib.hid ha9
  have HB := Lib.hid hb9
  have HC := Lib.hid hc9
  clear h1 h2 h3 hkW hJ hJx hY h0 ha9 hb9 hc9
  refine (callsIn_wide (n := 0)).1 (callsIn_of_wp Try.func25 rfl trivial ?_ rfl)
  simp only [Try.ntmps25, List.size_toArray, List.length_cons, List.length_nil, Nat.reduceAdd, Nat.reduceSub, Array.replicate_succ, Array.replicate_zero, List.push_toArray, List.append_toArray, List.nil_append, List.cons_append]
  gi_wp2
  gi_loopw [5] (fun x wr => ∃ (k : Nat) (xx : Int), x = .int .i64 xx ∧ xx = a + k * c ∧ k ≤ rngN a b c ∧ J [] ((rngL a b c).take k) wr ∧ Keep [ba, bc, bb] w wr) (fun x _ => (intOf x - b).toNat)
  case atStart => exact ⟨0, a, rfl, by simp, Nat.zero_le _, H0.out, HKW.out⟩
  case round =>
    obtain ⟨k, x, rfl, hx, hk, hJ1, hK1⟩ := hrel
    have cb := (K2.out.keep hK1 (by simp)).cell 0
    have cc := (K3.out.keep hK1 (by simp)).cell 0
    simp at cb cc
    have HX := Lib.hid hx
    by_cases hlt : k < rngN a b c
    · have hxb : (b < x) := by rw [hx]; exact (rng_down hc0 k).1 hlt
      have hxa : x ≤ a := by rw [hx]; exact rng_in_down (b := b) hc0 k
      obtain ⟨fn, tmps, assign, body, hy, hR⟩ := HY.out [] _ x _ wr (by rw [hx]; exact rngL_split a b c hlt) hJ1 (by simp) hK1
      dsimp only [ei] at hy
      have HR := Lib.hid hR
      have HK1 := Lib.hid hK1
      have TK : Hid ((rngL a b c).take k ++ [x] = (rngL a b c).take (k + 1)) := by show _ = _; rw [hx]; exact rngL_take a b c hlt
      have NX : Hid (x + c = a + ((k + 1 : Nat) : Int) * c) := by show _ = _; rw [rng_next, hx]
      have hov : Hid (¬ I64 (x + c) → rngN a b c ≤ k + 1) := fun h => by
        rcases Nat.lt_or_ge (k + 1) (rngN a b c) with q | q
        · exfalso
          have q1 := (rng_down hc0 (k + 1)).1 q
          rw [← NX.out] at q1
          have hb := HB.out
          have ha := HA.out
          unfold I64 at h ha hb
          omega
        · exact q
      have hI : I64 x := by have hb := HB.out; have ha := HA.out; unfold I64 at *; omega
      have HI := Lib.hid hI
      have HLT := Lib.hid hlt
      clear hR hK1 hJ1 hx hk hxa hI hlt
      gi_wp2
      refine ⟨rfl, ?_⟩
      refine RoundIn.mono (show RoundIn _ _ _ _ _ _ _ _ _ _ from HR.out) ?_
      rintro e V2 ⟨hs2, hk2, (⟨rfl, hj2⟩ | ⟨rfl, hj2⟩)⟩
      · have hK2 : Hid (Keep [ba, bc, bb] w V2) := HK1.out.trans (fun q hq => hk2 q (by simpa using hq))
        have cc2 := (K3.out.keep hK2.out (by simp)).cell 0
        simp at cc2
        have HJ2 := Lib.hid hj2
        clear hk2 hj2 hs2 cb cc
        by_cases ho : I64 (x + c)
        · have ho1 : -9223372036854775808 ≤ x + c := ho.1
          have ho2 : x + c ≤ 9223372036854775807 := ho.2
          clear ho
          have hd : decide (x < x + c) = false := by rw [decide_eq_false (by omega)]
          gi_wp2
          go_roundw
          case rel => exact ⟨k + 1, x + c, rfl, NX.out, HLT.out, by rw [← TK.out]; exact HJ2.out, hK2.out⟩
          case measure => simp only [intOf]; omega
        · have ho1 := wrap_down HI.out HC.out hc0 ho
          have ho2 := Lib.hid (hov.out ho)
          clear ho
          have hd : decide (x < wrap64 (x + c)) = true := by rw [decide_eq_true (by omega)]
          have hd0 : (!decide (0 < c)) = true := by rw [decide_eq_false (by omega)]; rfl
          gi_wp2
          refine bodyPost_ret (results_none rfl _ _ _) rfl ⟨⟨_, rfl⟩, .inl ?_⟩
          have := HJ2.out
          rw [TK.out, rngL_all a b c ho2.out] at this
          exact this
      · have HJ2 := Lib.hid hj2
        clear hk2 hj2 hs2 cb cc
        gi_wp2
        refine bodyPost_ret (results_none rfl _ _ _) rfl ⟨⟨_, rfl⟩, .inr ⟨_, ?_, HJ2.out⟩⟩
        rw [TK.out]; exact List.take_prefix _ _
    · have hxb : ¬ (b < x) := by rw [hx]; exact fun h => hlt ((rng_down hc0 k).2 h)
      have HJ1 := Lib.hid hJ1
      have hall := Lib.hid (rngL_all a b c (Nat.le_of_not_lt hlt))
      clear hJ1 hK1 hx hk hlt
      gi_wp2
      go_end0
      refine ⟨⟨_, rfl⟩, .inl ?_⟩
      have := HJ1.out
      rw [hall.out] at this
      exact this

set_option maxRecDepth 100000 in
set_option maxHeartbeats 4000000 in
theorem rangeI_none {a b : Int} {w : World} {ba bb bc : Nat} (h1 : Blk w ba #[.int .i64 a] 3) (h2 : Blk w bb #[.int .i64 b] 3) (h3 : Blk w bc #[.int .i64 0] 3) :
    Seq Try.prog 25 #[.pointer (some ⟨ba, 0, none⟩), .pointer (some ⟨bc, 0, none⟩), .pointer (some ⟨bb, 0, none⟩)] ei [ba, bc, bb] ([] : List Int) w := by
  refine ⟨?_, enters_of Try.func25 (by kernel_rfl) rfl, ?_⟩
  · intro k hk
    simp only [List.mem_cons, List.not_mem_nil, or_false] at hk
    rcases hk with rfl | rfl | rfl
    · exact h1.lt
    · exact h3.lt
    · exact h2.lt
  intro l J Jx W hW hkW hJ hJx hY h0
  have ca := (h1.keep hkW (by simp)).cell 0
  have cb := (h2.keep hkW (by simp)).cell 0
  have cc := (h3.keep hkW (by simp)).cell 0
  simp at ca cb cc
  have H0 := Lib.hid h0
  clear hkW hJ hJx hY h0 h1 h2 h3
  refine (callsIn_wide (n := 0)).1 (callsIn_of_wp Try.func25 rfl trivial ?_ rfl)
  simp only [Try.ntmps25, List.size_toArray, List.length_cons, List.length_nil, Nat.reduceAdd, Nat.reduceSub, Array.replicate_succ, Array.replicate_zero, List.push_toArray, List.append_toArray, List.nil_append, List.cons_append]
  gi_wp2
  gi_loopw [5] (fun x wr => x = .int .i64 a ∧ wr = W) (fun x _ => 0)
  case atStart => exact ⟨rfl, rfl⟩
  case round =>
    obtain ⟨rfl, rfl⟩ := hrel
    gi_wp2
    go_end0
    exact ⟨⟨_, rfl⟩, .inl H0.out⟩

theorem rangeI {a b c : Int} (hb9 : I64 b) (ha9 : I64 a) (hc9 : I64 c) {w : World} {ba bb bc : Nat} (h1 : Blk w ba #[.int .i64 a] 3) (h2 : Blk w bb #[.int .i64 b] 3) (h3 : Blk w bc #[.int .i64 c] 3) :
    Seq Try.prog 25 #[.pointer (some ⟨ba, 0, none⟩), .pointer (some ⟨bc, 0, none⟩), .pointer (some ⟨bb, 0, none⟩)] ei [ba, bc, bb] (rngL a b c) w := by
  by_cases hp : 0 < c
  · exact rangeI_up hp hb9 ha9 hc9 h1 h2 h3
  · by_cases hn : c < 0
    · exact rangeI_down hn hb9 ha9 hc9 h1 h2 h3
    · obtain rfl : c = 0 := by omega
      have e : rngL a b 0 = [] := by simp [rngL, rngN]
      rw [e]; exact rangeI_none h1 h2 h3

/-- Range, called. -/
theorem range_c {a b c : Int} (ha9 : I64 a) (hb9 : I64 b) (hc9 : I64 c) (w : World) :
    Calls Try.prog 11 #[.int .i64 a, .int .i64 b, .int .i64 c] w fun e w' => ∃ lb', e = .returned (.func (.func 25) #[] lb') ∧ (∃ R', Seq Try.prog 25 lb' ei R' (rngL a b c) w' ∧ ∀ k ∈ R', w.heap.size ≤ k) ∧ Mod [] w w' := by
  refine (range_mk a b c w).mono ?_
  rintro e w' ⟨rfl, rfl⟩
  refine ⟨_, rfl, ⟨_, rangeI hb9 ha9 hc9 (((Blk.new _ _ _).alloc _).alloc _) ((Blk.new' _ _ _ (w.heap.size + 1) (by simp)).alloc _) (Blk.new' _ _ _ (w.heap.size + 2) (by simp)), fun k hk => ?_⟩, (((Mod.refl _ _).alloc _).alloc _).alloc _⟩
  simp only [List.mem_cons, List.not_mem_nil, or_false] at hk
  omega
end Go.Proofs.Ytchbgnfmmplinaa

/- The index's methods home, next, find, at one type of keys. -/
import Derived.Test.YtlgmmfhfoihbeaaK
import Derived.Deep.RegionLaw
set_option linter.unusedVariables false
set_option linter.unusedSimpArgs false
namespace Go.Proofs.Ytlgmmfhfoihbeaa.O
open Go.RowKit

def hsh (k : Nat) : Nat := k*4294967296
theorem hash_c (k : Nat) (hk : k ≤ 4294967295) (w : World) : Calls Try.prog 44 #[.int .u32 k] w fun e w' => e = .returned (.int .u64 (hsh k)) ∧ w = w' := by
  go_enter Try.func44, Try.ntmps44
  go_wp2
  go_ret
  exact ⟨by unfold hsh; simp, rfl⟩

/-- The hash, thrown apart. -/
def mix (h : Nat) : Int := bits .xor .u64 (IntKind.u64.wrap ((h : Int) * 11400714819323198485)) (IntKind.u64.wrap ((h : Int) * 11400714819323198485) / 4294967296)
def hm (n k : Nat) : Nat := (mix (hsh k)).toNat % n

theorem mix_range (h : Nat) : 0 ≤ mix h ∧ mix h < 18446744073709551616 := by
  unfold mix bits
  generalize (BitVec.toNat _ : Nat) = x
  unfold IntKind.wrap
  simp [IntKind.signed, IntKind.bits]
  omega

theorem mask (X : Int) (h0 : 0 ≤ X) (h1 : X < 18446744073709551616) (j : Nat) (hj : j ≤ 20) : wrap64 (bits .and .u64 X (((2 ^ j : Nat) : Int) - 1)) = ((X.toNat % 2 ^ j : Nat) : Int) := by
  have h2 : 2 ^ j ≤ 2 ^ 20 := Nat.pow_le_pow_right (by omega) hj
  have h3 : 1 ≤ 2 ^ j := Nat.one_le_two_pow
  have e : ((2 ^ j : Nat) : Int) - 1 = ((2 ^ j - 1 : Nat) : Int) := by omega
  have e2 : X = (X.toNat : Int) := by omega
  rw [e, e2, u64_and_nat _ _ (by omega) (by omega), Nat.and_two_pow_sub_one_eq_mod]
  have h4 : (X.toNat : Int).toNat = X.toNat := by omega
  rw [h4]
  have h5 : X.toNat % 2 ^ j < 2 ^ j := Nat.mod_lt _ (by omega)
  generalize X.toNat % 2 ^ j = q at *
  generalize 2 ^ j = n at *
  exact IntWalk.wrap64_in _ (by omega)

theorem hm_lt (n k : Nat) (hn : 0 < n) : hm n k < n := Nat.mod_lt _ hn

theorem home_c (j n : Nat) (hj : j ≤ 20) (hn : n = 2 ^ j) (k : Nat) (hk : k ≤ 4294967295) (b : Nat) (a : Option Addr) (cap : Nat) (w : World) (c0 : w.cell? ⟨b, 0, none⟩ = some (.slice a n cap)) :
    Calls Try.prog 24 #[.pointer (some ⟨b, 0, none⟩), .int .u32 k] w fun e w' => e = .returned (.int .i64 (hm n k)) ∧ w = w' := by
  have hn1 : 1 ≤ n := by rw [hn]; exact Nat.one_le_two_pow
  have hn2 : n ≤ 1048576 := by rw [hn]; exact Nat.pow_le_pow_right (by omega) hj
  have H := Lib.hid (hash_c k hk w)
  have HM := Lib.hid (mask (mix (hsh k)) (mix_range _).1 (mix_range _).2 j hj)
  have HN := Lib.hid hn
  unfold hm
  unfold mix at *
  clear hn
  generalize hsh k = h at *
  go_enter Try.func24, Try.ntmps24
  go_wp2_with fail
  refine H.out.mono ?_
  rintro e w' ⟨rfl, rfl⟩
  go_wp2
  go_ret
  have h1 := HM.out
  rw [← HN.out] at h1
  refine ⟨?_, rfl⟩
  rw [← h1]
  rfl

theorem mask64 (x : Int) (j : Nat) (hj : j ≤ 20) : bits .and .i64 x (((2 ^ j : Nat) : Int) - 1) = x % ((2 ^ j : Nat) : Int) := by
  have h2 : 2 ^ j ≤ 2 ^ 20 := Nat.pow_le_pow_right (by omega) hj
  have h3 : 1 ≤ 2 ^ j := Nat.one_le_two_pow
  have e : ((2 ^ j : Nat) : Int) - 1 = ((2 ^ j - 1 : Nat) : Int) := by omega
  rw [e]
  show IntKind.i64.wrap ((BitVec.ofInt 64 x &&& BitVec.ofInt 64 ((2 ^ j - 1 : Nat) : Int)).toNat : Int) = _
  rw [BitVec.toNat_and, ofInt_u64 _ (by omega), Nat.and_two_pow_sub_one_eq_mod, BitVec.toNat_ofInt]
  have h5 : (x % ((2 ^ 64 : Nat) : Int)).toNat % 2 ^ j < 2 ^ j := Nat.mod_lt _ (by omega)
  have h6 : (((x % ((2 ^ 64 : Nat) : Int)).toNat % 2 ^ j : Nat) : Int) = x % ((2 ^ j : Nat) : Int) := by
    rw [Int.natCast_emod]
    have h7 : ((x % ((2 ^ 64 : Nat) : Int)).toNat : Int) = x % ((2 ^ 64 : Nat) : Int) := Int.toNat_of_nonneg (Int.emod_nonneg _ (by decide))
    rw [h7]
    refine Int.emod_emod_of_dvd x ?_
    exact Int.natCast_dvd_natCast.2 (Nat.pow_dvd_pow 2 (by omega))
  rw [h6] at *
  rw [IntWalk.i64_in]
  rw [← h6]
  omega
theorem next_mask (i j : Nat) (hj : j ≤ 20) (hi : i < 2 ^ j) : bits .and .i64 ((i : Int) + 1) (((2 ^ j : Nat) : Int) - 1) = (((i + 1) % 2 ^ j : Nat) : Int) := by
  rw [mask64 _ j hj, Int.natCast_emod]; rfl
theorem dist_mask (a b j : Nat) (hj : j ≤ 20) (ha : a < 2 ^ j) (hb : b < 2 ^ j) : bits .and .i64 ((b : Int) - (a : Int)) (((2 ^ j : Nat) : Int) - 1) = (dist (2 ^ j) a b : Int) := by
  rw [mask64 _ j hj]
  unfold dist
  rw [Int.natCast_emod]
  have e : ((b + 2 ^ j - a : Nat) : Int) = ((b : Int) - (a : Int)) + ((2 ^ j : Nat) : Int) := by omega
  rw [e, Int.add_emod_right]

theorem next_c (j n : Nat) (hj : j ≤ 20) (hn : n = 2 ^ j) (i : Nat) (hi : i < n) (b : Nat) (a : Option Addr) (cap : Nat) (w : World) (c0 : w.cell? ⟨b, 0, none⟩ = some (.slice a n cap)) :
    Calls Try.prog 23 #[.pointer (some ⟨b, 0, none⟩), .int .i64 i] w fun e w' => e = .returned (.int .i64 ((i + 1) % n : Nat)) ∧ w = w' := by
  have hn1 : 1 ≤ n := by rw [hn]; exact Nat.one_le_two_pow
  have hn2 : n ≤ 1048576 := by rw [hn]; exact Nat.pow_le_pow_right (by omega) hj
  have hm := next_mask i j hj (by rw [← hn]; exact hi)
  rw [← hn] at hm
  have HM := Lib.hid hm
  clear hn hm
  go_enter Try.func23, Try.ntmps23
  go_wp2
  go_ret
  refine ⟨?_, rfl⟩
  rw [← HM.out]
  rfl

/-! The index in memory. -/
def slotOf (x : Nat × Nat × Bool) : List Value := [.int .u32 x.1, .int .u32 x.2.1, .bool x.2.2]

/-- The table at block g: n slots. -/
def Tab (w : World) (g n : Nat) (T : Slots) : Prop :=
  ∃ A, Blk w g A 55 ∧ A.size = n * 3 ∧ ∀ i, i < n → A[i * 3]? = some (.int .u32 (T i).1) ∧ A[i * 3 + 1]? = some (.int .u32 (T i).2.1) ∧ A[i * 3 + 2]? = some (.bool (T i).2.2)

theorem Tab.cells {w : World} {g n : Nat} {T : Slots} (h : Tab w g n T) (i : Nat) (hi : i < n) :
    (w.cell? ⟨g, i * 3, none⟩ = some (.int .u32 (T i).1) ∧ w.cell? ⟨g, i * 3 + 1, none⟩ = some (.int .u32 (T i).2.1) ∧ w.cell? ⟨g, i * 3 + 2, none⟩ = some (.bool (T i).2.2)) ∧ ∀ j, w.frozen? ⟨g, j, none⟩ = false := by
  obtain ⟨A, hb, hs, hT⟩ := h
  refine ⟨?_, fun j => hb.froz j⟩
  rw [hb.cell, hb.cell, hb.cell]
  exact hT i hi
theorem Tab.lt {w : World} {g n : Nat} {T : Slots} (h : Tab w g n T) : g < w.heap.size := by
  obtain ⟨A, hb, _⟩ := h; exact hb.lt
theorem Tab.mod {S : List Nat} {w w' : World} {g n : Nat} {T : Slots} (h : Tab w g n T) (m : Mod S w w') (hn : g ∉ S) : Tab w' g n T := by
  obtain ⟨A, hb, r⟩ := h; exact ⟨A, hb.mod m hn, r⟩
theorem Tab.congr {w : World} {g n : Nat} {T T' : Slots} (h : Tab w g n T) (e : ∀ i, i < n → T i = T' i) : Tab w g n T' := by
  obtain ⟨A, hb, hs, hT⟩ := h; exact ⟨A, hb, hs, fun i hi => by rw [← e i hi]; exact hT i hi⟩
theorem Tab.made (w : World) (n g : Nat) (hg : g = w.heap.size) : Tab (w.alloc (.cells (madeCells #[.int .u32 0, .int .u32 0, .bool false] (n * 3)) 55)) g n (fun _ => (0, 0, false)) := by
  refine ⟨_, Blk.new' _ _ _ _ hg, size_madeCells _ _, fun i hi => ?_⟩
  have h0 : i * 3 < n * 3 := by omega
  have h1 : i * 3 + 1 < n * 3 := by omega
  have h2 : i * 3 + 2 < n * 3 := by omega
  simp [madeCells, h0, h1, h2, Nat.mul_mod_left, Nat.add_mod]
theorem Tab.store {w : World} {g n : Nat} {T : Slots} (h : Tab w g n T) (i : Nat) (hi : i < n) (x : Nat × Nat × Bool) :
    Tab (((w.setCell ⟨g, i * 3, none⟩ (.int .u32 x.1)).setCell ⟨g, i * 3 + 1, none⟩ (.int .u32 x.2.1)).setCell ⟨g, i * 3 + 2, none⟩ (.bool x.2.2)) g n (put1 T i x) := by
  obtain ⟨A, hb, hs, hT⟩ := h
  refine ⟨_, ((hb.set _ _).set _ _).set _ _, by simpa using hs, fun l hl => ?_⟩
  have h1 := hT l hl
  simp only [Array.getElem?_setIfInBounds, Array.size_setIfInBounds, hs, put1]
  by_cases hil : l = i
  · subst hil
    have a1 : l * 3 < n * 3 := by omega
    have a2 : l * 3 + 1 < n * 3 := by omega
    have a3 : l * 3 + 2 < n * 3 := by omega
    simp [a1, a2, a3]
  · rw [if_neg hil, if_neg (by omega), if_neg (by omega), if_neg (by omega), if_neg (by omega), if_neg (by omega), if_neg (by omega), if_neg (by omega), if_neg (by omega), if_neg (by omega)]
    exact h1
/-- The number alone. -/
theorem Tab.store1 {w : World} {g n : Nat} {T : Slots} (h : Tab w g n T) (i : Nat) (hi : i < n) (id : Nat) :
    Tab (w.setCell ⟨g, i * 3 + 1, none⟩ (.int .u32 id)) g n (put1 T i ((T i).1, id, (T i).2.2)) := by
  obtain ⟨A, hb, hs, hT⟩ := h
  refine ⟨_, hb.set _ _, by simpa using hs, fun l hl => ?_⟩
  have h1 := hT l hl
  simp only [Array.getElem?_setIfInBounds, hs, put1]
  by_cases hil : l = i
  · subst hil
    have a2 : l * 3 + 1 < n * 3 := by omega
    have n1 : ¬ l * 3 + 1 = l * 3 := by omega
    have n2 : ¬ l * 3 + 1 = l * 3 + 2 := by omega
    simp only [n1, n2, a2, if_true, if_false]
    exact ⟨h1.1, trivial, h1.2.2⟩
  · rw [if_neg hil, if_neg (by omega), if_neg (by omega), if_neg (by omega)]
    exact h1

theorem probe_lt (T : Slots) (n k : Nat) (hn : 0 < n) : ∀ f i, i < n → probe T n k f i < n := by
  intro f
  induction f with
  | zero => intro i hi; exact hi
  | succ f ih =>
    intro i hi
    unfold probe
    split
    · exact ih _ (Nat.mod_lt _ hn)
    · exact hi

set_option maxHeartbeats 1000000 in
theorem find_c (j n : Nat) (hj : j ≤ 20) (hn : n = 2 ^ j) (hn2' : 2 ≤ n) (k : Nat) (hk : k ≤ 4294967295) (b g : Nat) (cap : Nat) (T : Slots) (w : World) (c0 : w.cell? ⟨b, 0, none⟩ = some (.slice (some ⟨g, 0, none⟩) n cap)) (hT : Tab w g n T)
    (hs : stops T k (probe T n k n (hm n k))) :
    Calls Try.prog 21 #[.pointer (some ⟨b, 0, none⟩), .int .u32 k] w fun e w' => e = .returned (.int .i64 (probe T n k n (hm n k))) ∧ w = w' := by
  have hn1 : 1 ≤ n := by rw [hn]; exact Nat.one_le_two_pow
  have hn2 : n ≤ 1048576 := by rw [hn]; exact Nat.pow_le_pow_right (by omega) hj
  have H := Lib.hid (home_c j n hj hn k hk b _ cap w c0)
  have NX := Lib.hid (fun i hi => next_c j n hj hn i hi b _ cap w c0)
  have HT := Lib.hid hT
  obtain ⟨R, hR⟩ : ∃ R, R = probe T n k n (hm n k) := ⟨_, rfl⟩
  have h0 : hm n k < n := hm_lt n k hn1
  rw [← hR] at hs ⊢
  have HS := Lib.hid hs
  have HRn : R < n := by rw [hR]; exact probe_lt T n k hn1 n _ h0
  have HR := Lib.hid hR
  generalize hm n k = p at *
  clear hn hT hs hR
  go_enter Try.func21, Try.ntmps21
  go_wp2_with fail
  refine H.out.mono ?_
  rintro e w' ⟨rfl, rfl⟩
  go_wp2_with fail
  go_loop [5] (fun v => ∃ i f : Nat, v = .int .i64 i ∧ i < n ∧ f ≤ n ∧ probe T n k f i = R) (fun v => dist n (intOf v).toNat R)
  case atStart => exact ⟨p, n, rfl, h0, Nat.le_refl _, HR.out.symm⟩
  case round =>
    obtain ⟨i, f, rfl, hi, hf, hp⟩ := hrel
    have HP := Lib.hid hp
    obtain ⟨⟨d0, d1, d2⟩, _⟩ := HT.out.cells i hi
    clear hp d1
    cases ho : (T i).2.2 with
    | false =>
      rw [ho] at d2
      have hri : Hid (i = R) := by rw [← HP.out]; exact (probe_stop T n k f i (.inl ho)).symm
      clear ho
      go_wp2
      go_ret
      exact ⟨by rw [← hri.out]; rfl, rfl⟩
    | true =>
      rw [ho] at d2
      by_cases hkk : (T i).1 = k
      · have hri : Hid (i = R) := by rw [← HP.out]; exact (probe_stop T n k f i (.inr hkk)).symm
        have hb : (((T i).1 : Int) != (k : Int)) = false := by rw [bne_eq_false_iff_eq]; omega
        clear ho hkk
        generalize (T i).1 = ki at *
        go_wp2
        go_ret
        exact ⟨by rw [← hri.out]; rfl, rfl⟩
      · have hb : (((T i).1 : Int) != (k : Int)) = true := by rw [bne_iff_ne]; omega
        have hiR : i ≠ R := by
          intro e
          have h1 := HS.out
          rw [← e] at h1
          rcases h1 with h1 | h1
          · unfold occ at h1; rw [ho] at h1; simp at h1
          · exact hkk h1
        obtain ⟨f', hf'⟩ : ∃ f', f = f' + 1 := by
          cases f with
          | zero => exact (hiR HP.out).elim
          | succ f' => exact ⟨f', rfl⟩
        have hstep : Hid (probe T n k f' ((i + 1) % n) = R) := by
          rw [← HP.out, hf', probe, if_pos ⟨ho, hkk⟩]
          exact rfl
        have hdn : Hid (dist n ((i + 1) % n) R + 1 = dist n i R) := dist_next hn2' hi HRn hiR
        have hfn : f' ≤ n := by omega
        have hii : (i + 1) % n < n := Nat.mod_lt _ (by omega)
        clear ho hkk hf' hiR HP hf
        generalize (T i).1 = ki at *
        go_wp2_with fail
        refine (NX.out i hi).mono ?_
        rintro e w' ⟨rfl, rfl⟩
        go_wp2
        go_round
        case rel => exact ⟨(i + 1) % n, f', rfl, hii, hfn, hstep.out⟩
        case measure =>
          have h1 := hdn.out
          have h2 : (((i + 1) % n : Nat) : Int).toNat = (i + 1) % n := Int.toNat_natCast _
          have h3 : ((i : Int)).toNat = i := Int.toNat_natCast _
          show dist n (((i + 1) % n : Nat) : Int).toNat R < dist n ((i : Int)).toNat R
          rw [h2, h3]
          omega
end Go.Proofs.Ytlgmmfhfoihbeaa.O

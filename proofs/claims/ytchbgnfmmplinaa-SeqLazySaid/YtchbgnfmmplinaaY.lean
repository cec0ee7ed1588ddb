/- The law SeqLazy: the walk and the plain law joined. -/
import Derived.Test.YtchbgnfmmplinaaX
set_option linter.unusedVariables false
set_option linter.unusedSimpArgs false
namespace Go.Proofs.Ytchbgnfmmplinaa
open Go.RowKit

theorem far_nat : ((9223372036854775807 : Nat) : Int) = 9223372036854775807 := rfl
theorem rng_all' (n : Nat) : (rngL 0 n 1).take n = rngL 0 n 1 := by rw [far_take (Nat.le_refl n)]
theorem rng_len' (n : Nat) : (rngL 0 n 1).length = n := by rw [rngL_length, rngN1]
theorem far_split (n : Nat) (h : n ≤ 9223372036854775807) : ∃ T, rngL 0 9223372036854775807 1 = rngL 0 n 1 ++ T := by
  have h1 := far_take (M := 9223372036854775807) h
  rw [far_nat] at h1
  exact ⟨(rngL 0 9223372036854775807 1).drop n, by rw [← h1, List.take_append_drop]⟩

theorem lazy1 (ks es ts : Nat) (hks : ks ≤ 255) : tk (evL (sk (rngL 0 9223372036854775807 1) ks) (1 + (es : Int) % 20)) ((ts : Int) % 50) = lazA ks (1 + es % 20) (ts % 50) := by
  have hm : ts % 50 * (1 + es % 20) ≤ 50 * 20 := Nat.mul_le_mul (by omega) (by omega)
  have h := lazA_eq (M := 9223372036854775807) (k := ks) (n := 1 + es % 20) (m := ts % 50) (by omega) (by omega)
  rw [far_nat] at h
  unfold tk sk evL
  rw [if_neg (by omega), show (1 + (es : Int) % 20).toNat = 1 + es % 20 by omega, show ((ts : Int) % 50).toNat = ts % 50 by omega, show ((ks : Int)).toNat = ks from rfl]
  exact h
theorem lazy2 (l : List Int) (ts : Nat) : tk (mgL (rngL 0 9223372036854775807 1) l) ((ts : Int) % 50) = tk (mgL (rngL 0 (200 : Nat) 1) l) ((ts : Int) % 50) := by
  obtain ⟨T, e⟩ := far_split 200 (by omega)
  unfold tk
  rw [e]
  exact mgL_take _ _ _ (by rw [rng_len']; omega)
theorem lazy3 (l : List Int) (ts : Nat) : tk (l ++ rngL 0 9223372036854775807 1) ((ts : Int) % 50) = tk (l ++ rngL 0 (60 : Nat) 1) ((ts : Int) % 50) := by
  obtain ⟨T, e⟩ := far_split 60 (by omega)
  unfold tk
  rw [e]
  exact pre_take ⟨T, by rw [List.append_assoc]⟩ (by rw [List.length_append, rng_len']; omega)

set_option maxRecDepth 100000 in
theorem seqLazy_walk (w : World) (k : Int) (wk : (Lit.int .u8 k).wf = true) (e : Int) (we : (Lit.int .u8 e).wf = true) (t : Int) (wt : (Lit.int .u8 t).wf = true) (a0 : Option Addr) (len cap : Nat) (z : Nat → Int) (hw : IntRow .i64 w a0 len cap z) :
    Calls Try.prog 7 #[.int .u8 k, .int .u8 e, .int .u8 t, .slice a0 len cap] w fun e w' => e = .returned (.bool true) ∧ Mod [] w w' := by
  obtain ⟨l, F, r, hl, hF, _⟩ := Rv.of_row hw
  obtain ⟨hk0, hk1⟩ := bounds_u8 wk
  obtain ⟨he0, he1⟩ := bounds_u8 we
  obtain ⟨ht0, ht1⟩ := bounds_u8 wt
  obtain ⟨ks, rfl⟩ : ∃ q : Nat, k = q := ⟨k.toNat, by omega⟩
  obtain ⟨es, rfl⟩ : ∃ q : Nat, e = q := ⟨e.toNat, by omega⟩
  obtain ⟨ts, rfl⟩ : ∃ q : Nat, t = q := ⟨t.toNat, by omega⟩
  by_cases h : len ≤ 50
  · refine seqLazy_main w ks es ts (by omega) (by omega) (by omega) a0 len cap l F r hl h _ (rngL 0 (200 : Nat) 1) (rngL 0 (60 : Nat) 1) (lazA ks (1 + es % 20) (ts % 50)) rfl (rng_all' 200) (rng_all' 60) (rng_len' 200) (rng_len' 60) (ts % 50) (by omega) (by omega) (lazA_len _ _ _) ?_
      (lazy1 ks es ts (by omega)) (lazy2 l ts) (lazy3 l ts)
    intro j h
    simp [lazA]
  · have hgt : (50 : Int) < len := by omega
    clear hw r hl wk we wt hF
    go_enter Try.func7, Try.ntmps7
    generalize hMX : (9223372036854775807 : Int) = MX
    clear hMX
    go_wp2_with fail
    refine (alive_c w).mono ?_
    rintro e w1 ⟨rfl, m1⟩
    have M1 := Lib.hid m1
    clear m1
    go_wp2
    go_ret
    exact ⟨rfl, M1.out⟩
end Go.Proofs.Ytchbgnfmmplinaa

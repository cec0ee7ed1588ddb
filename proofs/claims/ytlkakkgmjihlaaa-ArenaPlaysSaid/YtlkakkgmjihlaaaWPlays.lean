/- The law 'ArenaPlays': for every input it returns true, and each argument reads as it read. -/
import Derived.Test.YtlkakkgmjihlaaaRG
import Derived.Test.YtlkakkgmjihlaaaArgs
import Derived.WalkKit
import Derived.ProofKit
import Derived.OpenShut
import Derived.Carry
import Derived.Deep.Slices
import Derived.Deep.Fields
import Derived.ChangeSame
namespace Go.Proofs.Ytlkakkgmjihlaaa.arenaPlays
open Go.ChangeShapes Go.WideShapes Go.ChangeAt Go.RowKit Go.Deep
open Go.WideMaps Go.WideElems
open Go.ChangeMaps (setBlock shut_map_nil open_string shut_string keptBut_setBlock frozen?_setBlock heap_setBlock_same)
set_option linter.unusedVariables false
set_option linter.unusedSimpArgs false

theorem own : ownKnob Try.prog.godebug = none := by kernel_rfl
theorem laidOut : laidOutB Try.prog = true := by kernel_rfl

set_option maxRecDepth 100000 in
theorem lifted (os : Os) (started : os.Started) (H : Type) (enc : TypeId × Value → H) :
    ReturnsInHanded {} Try.checked os 5 .any (Rows.arenaPlaysSpec.pre6 enc Try.prog Try.f5 Rows.arenaPlaysRow.domain false) (Rows.arenaPlaysSpec.post enc Try.prog Try.f5 false true false false) := by
  refine returnsInHanded_of_change (C := Try.checked) own started (by kernel_rfl) Try.func5
    (ChangeSpec.witness6 (enc := enc) (C := Try.checked) false ⟨#[], #[.int .i64 0, .slice none 0 0], []⟩ 8 (by kernel_rfl) (by kernel_rfl) (by kernel_rfl) (by kernel_rfl)) ?_
  intro W base args ds gs before hval0 hW hcnd hreach
  have hval : ∀ (j : Nat) t v, Try.f5.params[j]? = some t → args[j]? = some v → Value.okWide Try.prog W .any base t v := hval0
  have hW' := hW
  obtain ⟨p, q, hA0, hV, rfl, hfz, hnd⟩ := hW
  have hA : DataW.TrodAll enc Try.prog W 0 (fun _ => true) true Try.f5.params.toList args.toList ds p := hA0
  rw [Try.params5] at hA hval
  obtain ⟨v0, vs0, d0, ds0, p0, q0, hargs, rfl, rfl, h0, r0⟩ := trodAll_cons hA
  obtain ⟨v1, vs1, d1, ds1, p1, q1, rfl, rfl, rfl, h1, r1⟩ := trodAll_cons r0
  obtain ⟨rfl, rfl, rfl⟩ := trodAll_nil r1
  obtain rfl : args = #[v0, v1] := by cases args; simp_all
  obtain ⟨rfl, rfl⟩ := trodVars_none hV
  have k0 := h0
  have lt0 : ∀ x ∈ p0, x.block < W.heap.size := by obtain ⟨m, hm⟩ := k0; exact DataW.trod_lt m _ _ _ hm
  obtain ⟨a0, rfl, rfl, rfl, w0⟩ := open_int Try.underlying3 (hval 0 3 v0 rfl rfl) h0
  have k1 := h1
  have lt1 : ∀ x ∈ p1, x.block < W.heap.size := by obtain ⟨m, hm⟩ := k1; exact DataW.trod_lt m _ _ _ hm
  obtain ⟨a1, len1, cap1, rfl⟩ := okWide_slice Try.underlying46 (hval 1 46 v1 rfl rfl)
  obtain ⟨z1, w1⟩ : ∃ zs, Recs W a1 len1 cap1 [.u8, .u32, .i64] zs := by
    obtain ⟨fuel, hf⟩ := h1
    rcases open_slice_fields Try.underlying46 Try.underlying53 (by kernel_rfl) (by kernel_rfl) hf with ⟨hcs, _⟩ | ⟨x, l, c, m, D, Pl, hcs, _, hl, hm, hmm, _, hcell⟩
    · simp [Value.cells] at hcs
      obtain ⟨rfl, rfl, rfl⟩ := hcs
      exact ⟨fun _ _ => 0, by omega, fun i hi => absurd hi (Nat.not_lt_zero _)⟩
    · simp [Value.cells] at hcs
      obtain ⟨rfl, rfl, rfl⟩ := hcs
      refine Recs.of_open (by simp) hl (fun i hi j k hk => ?_)
      obtain ⟨ys, n, _, _, _, hfld⟩ := hcell i (by simp at hmm; omega)
      match j, hk with
      | 0, hk =>
        obtain ⟨v, y, hc, _, ht⟩ := hfld 0 _ rfl
        simp at hk; subst hk
        obtain ⟨n, hv, _, hwf⟩ := DataW.trod_int (k := .u8) Try.underlying5 ht
        simp at hv; subst hv
        exact ⟨n, hc, hwf⟩
      | 1, hk =>
        obtain ⟨v, y, hc, _, ht⟩ := hfld 1 _ rfl
        simp at hk; subst hk
        obtain ⟨n, hv, _, hwf⟩ := DataW.trod_int (k := .u32) Try.underlying27 ht
        simp at hv; subst hv
        exact ⟨n, hc, hwf⟩
      | 2, hk =>
        obtain ⟨v, y, hc, _, ht⟩ := hfld 2 _ rfl
        simp at hk; subst hk
        obtain ⟨n, hv, _, hwf⟩ := DataW.trod_int (k := .i64) Try.underlying3 ht
        simp at hv; subst hv
        exact ⟨n, hc, hwf⟩
      | j + 3, hk => simp at hk
  clear hA0 hval0
  refine (arenaPlays_walk W a0 w0 a1 len1 cap1 z1 w1).mono fun e W' ⟨he, hmod⟩ => ?_
  have bel : Below W.heap.size W W' := hmod.below _ (Nat.le_refl _) (fun k hk => by cases hk)
  subst he
  exact ⟨_, rfl, _, _, _, [], _, [], hW', trodAll_mk1 (shut_bool Try.underlying4 _), (trodAll_cons_mk (Below.trod laidOut (by kernel_rfl) (of_decide_eq_true (by kernel_rfl)) k0 bel lt0) (trodAll_cons_mk (Below.trod laidOut (by kernel_rfl) (of_decide_eq_true (by kernel_rfl)) k1 bel lt1) trodAll_mk0)), rfl, bel.frame _, fun h => by cases h⟩

theorem over : Rows.arenaPlaysRow.holds Try.pinned (OpenSpec.ofChange Rows.arenaPlaysSpec) :=
  OpenClaim.holds_of_wide 5 Try.f5 rfl rfl rfl rfl rfl rfl rfl ⟨rfl, rfl, rfl, rfl, rfl⟩ rfl rfl rfl rfl rfl (by kernel_rfl) Try.func5 (by kernel_rfl)
    (of_decide_eq_true (by kernel_rfl)) (by unfold Func.isWrapper; first | (rw [if_pos (by decide +kernel)]; kernel_rfl) | (rw [if_neg (by decide +kernel)]; exact ⟨rfl, rfl⟩))
    (fun os started H enc _ => lifted os started H enc)
end Go.Proofs.Ytlkakkgmjihlaaa.arenaPlays

namespace Go.Proofs.Ytlkakkgmjihlaaa
/-- The statement. -/
theorem arenaPlays_holds : Rows.ArenaPlaysSaid := arenaPlays.over
end Go.Proofs.Ytlkakkgmjihlaaa
#print axioms Go.Proofs.Ytlkakkgmjihlaaa.arenaPlays_holds

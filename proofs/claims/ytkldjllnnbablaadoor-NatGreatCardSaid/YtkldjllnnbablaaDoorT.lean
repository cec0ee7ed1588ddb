/- alive. -/
import Derived.Test.YtkldjllnnbablaaDoorR
set_option linter.unusedVariables false
set_option linter.unusedSimpArgs false
namespace Go.Proofs.YtkldjllnnbablaaDoor
open Go.RowKit Go.Shelf

theorem dig_2_64 {d : List Nat} (h : Can 10 d B64) : d = [6, 1, 6, 1, 5, 5, 9, 0, 7, 3, 7, 0, 4, 4, 7, 6, 4, 4, 8, 1] := by
  refine Can.uniq (by omega) h ⟨by decide, by unfold B64; decide, fun x hx => ?_⟩
  simp at hx
  omega
/-- A slice that was written out. -/
theorem nv_lit (w : World) (l : List Nat) (g : Nat) (hg : g = w.heap.size) (hl : l.length ≤ 1000) (h : ∀ x ∈ l, x < B64) : Nv (w.alloc (.cells (l.map e6).toArray 23)) (.slice (some ⟨g, 0, none⟩) l.length l.length) l [g] := by
  subst hg
  refine ⟨Rv.of_sl (E := 23) (n := l.length) ?_ (List.length_map _).symm, h⟩
  have := Sl.lit w 23 1 l.length (l.map e6).toArray (by unfold maxLen; omega) (by simp)
  simpa using this

theorem aliveText (w : World) (g : Nat) (hg : g = w.heap.size) : Calls Tryd.prog 31 #[.slice (some ⟨g, 0, none⟩) 2 2] (w.alloc (.cells #[.int .u64 0, .int .u64 1] 23)) fun e w' =>
    e = .returned (.tuple #[.string ⟨#[49, 56, 52, 52, 54, 55, 52, 52, 48, 55, 51, 55, 48, 57, 53, 53, 49, 54, 49, 54]⟩, .bool true]) ∧ Mod [] w w' := by
  have hn := nv_lit w [0, 1] g hg (by simp) (by unfold B64; simp)
  refine (text_c hn (by simp)).mono ?_
  rintro e w' ⟨hm, h | h⟩
  · obtain ⟨_, d, hd, rfl⟩ := h
    have e1 : vl B64 [0, 1] = B64 := by simp [vl]
    rw [e1] at hd
    rw [dig_2_64 hd]
    exact ⟨rfl, ((Mod.refl _ _).alloc _).trans hm (by simp)⟩
  · exact absurd (show vl B64 [0, 1] < lim by unfold lim B64; simp only [vl]; decide) h.1

theorem aliveAdd (w : World) (g : Nat) (hg : g = w.heap.size) : Calls Tryd.prog 24 #[.slice (some ⟨g, 0, none⟩) 1 1, .slice (some ⟨g + 1, 0, none⟩) 1 1] ((w.alloc (.cells #[.int .u64 1] 23)).alloc (.cells #[.int .u64 2] 23)) fun e w' =>
    ∃ b cap, e = .returned (.tuple #[.slice (some ⟨b, 0, none⟩) 1 cap, .bool true]) ∧ 1 ≤ cap ∧ w'.cell? ⟨b, 0, none⟩ = some (.int .u64 3) ∧ Mod [] w w' := by
  have h1 := (nv_lit w [1] g hg (by simp) (by unfold B64; simp)).mod (S := []) ((Mod.refl _ _).alloc (.cells #[.int .u64 2] 23)) (by simp)
  have h2 := nv_lit (w.alloc (.cells #[.int .u64 1] 23)) [2] (g + 1) (by simp; omega) (by simp) (by unfold B64; simp)
  refine (add_c h1 h2 (by simp) (by simp)).mono ?_
  rintro e w' (⟨_, v', rfl, l, hc, hn⟩ | ⟨h, _⟩)
  · have e1 : vl B64 [1] + vl B64 [2] = 3 := by simp [vl]
    rw [e1] at hc
    obtain rfl : l = [3] := Can.uniq one_lt_B hc ⟨by unfold B64; simp, by simp [vl], by simp⟩
    obtain ⟨F, hs, hm, _⟩ := hn
    obtain ⟨b, cap, rfl, _, hcap⟩ := hs.pos (by simp)
    have hcell := (hs.at 0 (by simp)).1
    exact ⟨b, cap, rfl, hcap, hcell, (((Mod.refl _ _).alloc _).alloc _).trans hm (by simp)⟩
  · exact absurd (decide_eq_true (show vl B64 [1] + vl B64 [2] < lim by unfold lim B64; simp only [vl]; decide)) (by rw [h]; decide)

set_option maxRecDepth 100000 in
set_option maxHeartbeats 2000000 in
theorem alive_c (w : World) : Calls Tryd.prog 10 #[] w fun e w' => e = .returned (.bool true) ∧ Mod [] w w' := by
  have AT := Lib.hid aliveText
  have AA := Lib.hid aliveAdd
  go_enter Tryd.func10, Tryd.ntmps10
  go_wp2_with fail
  refine (AT.out _ _ rfl).mono ?_
  rintro e w1 ⟨rfl, hm⟩
  have HM := Lib.hid hm
  clear hm
  go_wp2_with fail
  refine (AA.out _ _ rfl).mono ?_
  rintro e w2 ⟨b, cap, rfl, hcap, hc, hm⟩
  have HM2 := Lib.hid hm
  clear hm
  go_wp2
  go_ret
  exact ⟨rfl, HM.out.trans HM2.out (by simp)⟩
end Go.Proofs.YtkldjllnnbablaaDoor

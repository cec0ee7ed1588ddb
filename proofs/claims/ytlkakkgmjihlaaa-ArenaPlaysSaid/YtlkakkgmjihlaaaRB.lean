/- Contracts of the reference arena: At, Put. -/
import Derived.Test.YtlkakkgmjihlaaaRA
import Derived.Deep.RegionLaw
set_option linter.unusedVariables false
set_option linter.unusedSimpArgs false
namespace Go.Proofs.Ytlkakkgmjihlaaa
open Go.RowKit

def eu (x : Nat) : Value := .int .u32 (x : Int)
def thg (t : Nat × Int × Int) : List Value := [eu t.1, .int .i64 t.2.1, .int .i64 t.2.2]
theorem thg_len (t : Nat × Int × Int) : (thg t).length = 3 := rfl

/-- The reference at block b; F: its blocks. -/
def IsRef (w : World) (b : Nat) (m : RM) (F : List Nat) : Prop :=
  ∃ vL vG Fl Fg, Blk w b #[vL, vG, .int .u32 m.new, .int .i64 m.room] 50 ∧ Sl w 78 3 vL m.L.length (recs thg m.L) Fl ∧ Sl w 27 1 vG m.gone.length (m.gone.map eu) Fg ∧
    F = b :: (Fl ++ Fg) ∧ b ∉ Fl ∧ b ∉ Fg ∧ (∀ k ∈ Fl, k ∉ Fg)

theorem IsRef.mod {S : List Nat} {w w' : World} {b : Nat} {m : RM} {F : List Nat} (h : IsRef w b m F) (M : Mod S w w') (hd : ∀ k ∈ F, k ∉ S) : IsRef w' b m F := by
  obtain ⟨vc, vf, Fc, Ff, hb, hc, hf, rfl, r⟩ := h
  exact ⟨vc, vf, Fc, Ff, hb.mod M (hd b (by simp)), hc.mod M (fun k hk => hd k (by simp [hk])), hf.mod M (fun k hk => hd k (by simp [hk])), rfl, r⟩
theorem IsRef.keep {X : List Nat} {w w' : World} {b : Nat} {m : RM} {F : List Nat} (h : IsRef w b m F) (M : Keep X w w') (hd : ∀ k ∈ F, k ∈ X) : IsRef w' b m F := by
  obtain ⟨vc, vf, Fc, Ff, hb, hc, hf, rfl, r⟩ := h
  exact ⟨vc, vf, Fc, Ff, hb.keep M (hd b (by simp)), hc.keep (fun k hk => M k (hd k (by simp [hk]))), hf.keep (fun k hk => M k (hd k (by simp [hk]))), rfl, r⟩
theorem IsRef.lt {w : World} {b : Nat} {m : RM} {F : List Nat} (h : IsRef w b m F) : ∀ k ∈ F, k < w.heap.size := by
  obtain ⟨vc, vf, Fc, Ff, hb, hc, hf, rfl, r⟩ := h
  intro k hk
  simp at hk
  rcases hk with rfl | hk | hk
  · exact hb.lt
  · exact hc.lt k hk
  · exact hf.lt k hk
/-- What the reference's own cells hold. -/
theorem IsRef.own {w : World} {b : Nat} {m : RM} {F : List Nat} (h : IsRef w b m F) : ∃ a cap, m.L.length ≤ cap ∧ w.cell? ⟨b, 0, none⟩ = some (.slice a m.L.length cap) ∧ w.cell? ⟨b, 2, none⟩ = some (.int .u32 m.new) ∧ w.cell? ⟨b, 3, none⟩ = some (.int .i64 m.room) ∧ (∀ i, w.frozen? ⟨b, i, none⟩ = false) ∧
    ∀ i t, m.L[i]? = some t → ∃ g, a = some ⟨g, 0, none⟩ ∧ g ∈ F ∧ g ≠ b ∧ (w.cell? ⟨g, i * 3, none⟩ = some (eu t.1) ∧ w.cell? ⟨g, i * 3 + 1, none⟩ = some (.int .i64 t.2.1) ∧ w.cell? ⟨g, i * 3 + 2, none⟩ = some (.int .i64 t.2.2)) ∧
      (w.frozen? ⟨g, i * 3 + 1, none⟩ = false ∧ w.frozen? ⟨g, i * 3 + 2, none⟩ = false) := by
  obtain ⟨vc, vf, Fc, Ff, hb, hc, hf, rfl, r1, r2, r3⟩ := h
  obtain ⟨a, cap, rfl, hcap⟩ := hc.shape
  refine ⟨a, cap, hcap, by rw [hb.cell]; rfl, by rw [hb.cell]; rfl, by rw [hb.cell]; rfl, fun i => hb.froz i, fun i t ht => ?_⟩
  obtain ⟨hi, rfl⟩ := List.getElem?_eq_some_iff.1 ht
  obtain ⟨g, cap', e, rfl, _⟩ := hc.pos (by omega)
  simp at e
  obtain ⟨rfl, rfl⟩ := e
  have h0 := hc.at (i * 3 + 0) (by omega)
  have h1 := hc.at (i * 3 + 1) (by omega)
  have h2 := hc.at (i * 3 + 2) (by omega)
  rw [recs_get thg_len _ _ _ hi (by omega)] at h0 h1 h2
  exact ⟨g, rfl, by simp, fun e => by subst e; simp at r1, ⟨h0.1, h1.1, h2.1⟩, ⟨h1.2.1, h2.2.1⟩⟩

set_option maxRecDepth 100000 in
set_option maxHeartbeats 1000000 in
/-- At. -/
theorem refAt_c {w : World} {b : Nat} {m : RM} {F : List Nat} (h : IsRef w b m F) (hl : m.L.length ≤ 100000) (id : Nat) :
    Calls Try.prog 29 #[.pointer (some ⟨b, 0, none⟩), .int .u32 id] w fun e w' => (∃ i : Int, e = .returned (.int .i64 i) ∧ AtSpec m.L id i) ∧ w = w' := by
  obtain ⟨a, cap, hcap, c0, _, _, _, hcell⟩ := h.own
  have HC := Lib.hid hcell
  clear h hcell
  generalize hn : m.L.length = n at *
  have HN := Lib.hid hn
  clear hn
  go_enter Try.func29, Try.ntmps29
  go_wp2
  go_loopw [5] (fun i wr => ∃ k : Nat, i = .int .i64 k ∧ k ≤ n ∧ (∀ j, j < k → ∀ hj : j < m.L.length, m.L[j].1 ≠ id) ∧ w = wr) (fun i _ => n - (intOf i).toNat)
  case atStart => exact ⟨0, rfl, Nat.zero_le _, fun j hj => by omega, rfl⟩
  case round =>
    obtain ⟨k, rfl, hk, hne, rfl⟩ := hrel
    have HNE := Lib.hid hne
    clear hne
    by_cases hlt : k < n
    · have hlt' : k < m.L.length := by rw [HN.out]; exact hlt
      obtain ⟨g, rfl, _, _, ⟨d0, _, _⟩, _⟩ := HC.out k _ (List.getElem?_eq_getElem hlt')
      unfold eu at d0
      by_cases he : m.L[k].1 = id
      · have hb : ((m.L[k].1 : Int) == (id : Int)) = true := by rw [beq_iff_eq]; omega
        have HE : Hid (AtSpec m.L id k) := .inr ⟨k, rfl, hlt', he⟩
        generalize (m.L[k].1 : Int) = q at *
        clear he
        go_wp2
        go_ret
        exact ⟨⟨_, rfl, HE.out⟩, rfl⟩
      · have hb : ((m.L[k].1 : Int) == (id : Int)) = false := by rw [beq_eq_false_iff_ne]; omega
        have HE : Hid (m.L[k].1 ≠ id) := he
        generalize (m.L[k].1 : Int) = q at *
        clear he
        go_wp2
        go_roundw
        case rel =>
          refine ⟨k + 1, by go_num, hlt, fun j hj hj' => ?_, by first | rfl | trivial⟩
          by_cases e : j = k
          · subst e; exact HE.out
          · exact HNE.out j (by omega) hj'
        case measure => simp [intOf]; omega
    · obtain rfl : k = n := by omega
      have HE : Hid (AtSpec m.L id (-1)) := by
        refine .inl ⟨rfl, fun t ht => ?_⟩
        obtain ⟨j, hj, rfl⟩ := List.mem_iff_getElem.1 ht
        exact HNE.out j (by rw [← HN.out]; exact hj) hj
      go_wp2
      go_ret
      exact ⟨⟨_, rfl, HE.out⟩, rfl⟩
end Go.Proofs.Ytlkakkgmjihlaaa

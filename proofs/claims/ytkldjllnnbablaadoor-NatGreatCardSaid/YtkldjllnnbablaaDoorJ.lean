/- strings.Builder as Text uses it; strings.TrimLeft. -/
import Derived.Test.YtkldjllnnbablaaDoorI
import Derived.Laws.AppendOwn
import Derived.Laws.Entries
set_option linter.unusedVariables false
set_option linter.unusedSimpArgs false
namespace Go.Proofs.YtkldjllnnbablaaDoor
open Go.RowKit Go.Shelf

theorem Tryd.sizeB : (Tryd.prog.info? 70).map (fun i => i.size) = some 2 := by kernel_rfl
theorem Tryd.info5 : (Tryd.prog.info? 5).map (fun i => (i.zero, i.size, i.bytes)) = some (some (.int .u8 0), 1, 1) := by kernel_rfl
theorem builderX : Builder.Extra Tryd.prog ren169 where
  sizeBuilder := by kernel_rfl
  liesBuilder := by kernel_rfl
  t5 := Tryd.underlying5
  a5 := Tryd.isAgg5
  z5 := Tryd.sizeOf5
  v5 := Tryd.zeroValue5
  infoByte := by kernel_rfl
  cellsByte := by kernel_rfl
  sizeByte := by kernel_rfl
  neB5 := by decide

set_option maxHeartbeats 1000000 in
set_option maxRecDepth 100000 in
theorem copyUsed_c (b : Nat) (w : World) (h0 : w.cell? ⟨b, 0, none⟩ = some (.pointer (some ⟨b, 0, none⟩))) :
    Calls Tryd.prog 51 #[.pointer (some ⟨b, 0, none⟩)] w fun e w' => e = .returned (.tuple #[]) ∧ w' = w := by
  obtain ⟨j, hj, _⟩ := Option.map_eq_some_iff.1 Tryd.sizeB
  have same := Lib.run_neq_ptr_same w ⟨b, 0, none⟩ Tryd.underlying67 hj
  go_enter Tryd.func51, Tryd.ntmps51
  go_wp2
  go_end0
  exact ⟨rfl, rfl⟩

set_option maxHeartbeats 1000000 in
set_option maxRecDepth 100000 in
theorem copyFresh_c (b : Nat) (w : World) (h0 : w.cell? ⟨b, 0, none⟩ = some (.pointer none)) (hsh : w.shape? b = some (70, 2)) (hfz : w.frozen? ⟨b, 0, none⟩ = false) :
    Calls Tryd.prog 51 #[.pointer (some ⟨b, 0, none⟩)] w fun e w' => e = .returned (.tuple #[]) ∧ w' = w.setCell ⟨b, 0, none⟩ (.pointer (some ⟨b, 0, none⟩)) := by
  obtain ⟨j, hj, hjs⟩ := Option.map_eq_some_iff.1 Tryd.sizeB
  have there := Lib.run_to_unsafe w ⟨b, 0, none⟩ Tryd.underlying67 Tryd.underlying87 hj (by rw [hjs]; decide) hsh (Nat.zero_lt_succ 1)
  have back := Lib.run_from_unsafe w ⟨b, 0, none⟩ Tryd.underlying87 Tryd.underlying67 hj hsh builderX.liesBuilder
  have through : (callFunc 57 #[.pointer (some ⟨b, 0, none⟩)]).run Tryd.prog w = .ok (.value (.pointer (some ⟨b, 0, none⟩))) w := by
    rw [run_callFunc_extern Tryd.func57 (by kernel_rfl) (by kernel_rfl) (by kernel_rfl) (e := Extern.AbiNoEscape.same) (by kernel_rfl), Lib.run_noEscape]
    rfl
  have HH := Lib.hid hsh
  clear hj hjs hsh
  go_enter Tryd.func51, Tryd.ntmps51
  go_wp2
  go_end0
  exact ⟨rfl, rfl⟩

def e5 (x : Nat) : Value := .int .u8 (x : Int)
/-- A builder that the call has made, of the bytes bs. -/
def Bu (b : Nat) (bs : List Nat) (w : World) : Prop := Lib.IsBuilder 70 5 b b (bs.map e5) w

theorem Bu.copy {b : Nat} {bs : List Nat} {w : World} (h : Bu b bs w) :
    Calls Tryd.prog 51 #[.pointer (some ⟨b, 0, none⟩)] w fun e w' => e = .returned (.tuple #[]) ∧ Lib.BuilderAt 70 5 b b (.pointer (some ⟨b, 0, none⟩)) (bs.map e5) w' ∧ Mod [b] w w' := by
  rcases h with h | h
  · refine (copyFresh_c b w h.cell0 h.shape h.frozen0).mono ?_
    rintro e w' ⟨rfl, rfl⟩
    exact ⟨rfl, h.used _, (Mod.refl _ _).setCell _ _ (by simp)⟩
  · refine (copyUsed_c b w h.cell0).mono ?_
    rintro e w' ⟨rfl, rfl⟩
    exact ⟨rfl, h, Mod.refl _ _⟩

/-- Steps that leave its blocks alone. -/
theorem BuAt.mod {b : Nat} {p : Value} {bs : List Value} {w w' : World} (h : Lib.BuilderAt 70 5 b b p bs w) (m : Mod [] w w') : Lib.BuilderAt 70 5 b b p bs w' := by
  have hlt := h.lt
  obtain ⟨hB, v, hb, hown, hne⟩ := h
  refine ⟨hB, v, ?_, hown.kept (row := none) (m.grownBy none (by simp)) ?_, hne⟩
  · rw [m.block b hlt (by simp)]; exact hb
  · cases hv : v.ownBlock with
    | none => exact .inl rfl
    | some k => exact .inr (by simp)
theorem Bu.mod {b : Nat} {bs : List Nat} {w w' : World} (h : Bu b bs w) (m : Mod [] w w') : Bu b bs w' := by
  rcases h with h | h
  · exact .inl (BuAt.mod h m)
  · exact .inr (BuAt.mod h m)
theorem Bu.lt {b : Nat} {bs : List Nat} {w : World} (h : Bu b bs w) : b < w.heap.size := by
  rcases h with h | h
  · exact h.lt
  · exact h.lt
/-- Its buffer's block. -/
theorem Bu.fresh (w : World) : Bu w.heap.size [] (w.alloc (.cells #[.pointer none, .slice none 0 0] 70)) := Lib.fresh_isBuilder 70 5 w

set_option maxHeartbeats 2000000 in
set_option maxRecDepth 100000 in
/-- Write, of bytes that lie in a block made behind the builder and its buffer. -/
theorem write_c {b : Nat} {bs : List Nat} {w0 w : World} {g m cap : Nat} {news : List Nat} (h : Bu b bs w0) (hg : w0.heap.size ≤ g) (mod : Mod [] w0 w) (hl : news.length = m)
    (hnews : ∀ j x : Nat, news[j]? = some x → w.cell? ⟨g, j, none⟩ = some (.int .u8 (x : Int))) (hlen : bs.length + m ≤ 1000000) :
    Calls Tryd.prog 47 #[.pointer (some ⟨b, 0, none⟩), .slice (some ⟨g, 0, none⟩) m cap] w fun e w' => (∃ v, e = .returned (.tuple #[v, .nilIface])) ∧ Bu b (bs ++ news) w' ∧ Below b w w' := by
  obtain ⟨i0, hi, hz0, hz1, hz2⟩ := info_parts Tryd.info5
  have hb0 := h.lt
  have HB := Lib.hid (h.mod mod)
  have CC := Lib.hid (h.mod mod).copy
  have HN := Lib.hid hnews
  have HL := Lib.hid hl
  have HG := Lib.hid hg
  have HM := Lib.hid mod
  clear h hnews hl hg mod
  go_enter Tryd.func47, Tryd.ntmps47
  go_wp2_with fail
  refine CC.out.mono ?_
  rintro e w1 ⟨rfl, hat, hm1⟩
  have HAT := Lib.hid hat
  have HM1 := Lib.hid hm1
  obtain ⟨hB, v, hbk, hown, hne⟩ := hat
  have c1 : w1.cell? ⟨b, 1, none⟩ = some v := by rw [Lib.cell_of_heap hbk]; rfl
  have HOW := Lib.hid hown
  have HBK := Lib.hid hbk
  have HNE := Lib.hid hne
  have NEW := Lib.hid (fun (j : Nat) (u : Value) (hj : (news.map e5)[j]? = some u) => show w1.cell? ((⟨g, 0, none⟩ : Addr).add j) = some u by
    rw [List.getElem?_map] at hj
    obtain ⟨x, hx, rfl⟩ := Option.map_eq_some_iff.1 hj
    have h1 := HN.out j x hx
    have e : ((⟨g, 0, none⟩ : Addr).add j) = ⟨g, j, none⟩ := by unfold Addr.add; split <;> simp_all
    rw [e, hm1.cell (World.block_lt_of_cell? w _ h1) (by simp; have := HG.out; omega)]
    exact h1)
  clear hown hbk hne hm1
  go_wp2_with (at_builtin; refine wpList_append_own _ rfl _ _ 68 rfl b 5 i0 (.int .u8 0) 1 1 Tryd.underlying68 hi hz0 hz1 hz2 rfl (by decide) _ _ _ rfl HOW.out ⟨g, 0, none⟩ m cap (news.map e5) rfl (by rw [List.length_map, HL.out]; omega) NEW.out (by intro u hu; obtain ⟨x, _, rfl⟩ := List.mem_map.1 hu; rfl) (by unfold maxLen; rw [List.length_map]; omega) (by rw [List.length_map]; omega) (by have := HM1.out.size; have := HM.out.size; omega) ?_)
  intro v' w2 hown' hgrow _
  have hlt : b < w1.heap.size := HAT.out.lt
  have hb2 : w2.heap[b]? = some (.cells #[.pointer (some ⟨b, 0, none⟩), v] 70 (0, 0)) := by
    rw [hgrow.block b hlt (fun e => HNE.out e.symm)]
    exact HBK.out
  have d1 : w2.cell? ⟨b, 1, none⟩ = some v := by rw [Lib.cell_of_heap hb2]; rfl
  have f1 : w2.frozen? ⟨b, 1, none⟩ = false := Lib.frozen_of_heap hb2 1
  obtain ⟨ao, n', cap', rfl⟩ : ∃ ao n' cap, v' = .slice ao n' cap := by
    rcases hown'.2 with ⟨hv, _⟩ | ⟨g, cap, cur, hv, _⟩
    · exact ⟨_, _, _, hv⟩
    · exact ⟨_, _, _, hv⟩
  have AT : Hid (Lib.BuilderAt 70 5 b b (.pointer (some ⟨b, 0, none⟩)) ((bs ++ news).map e5) (w2.setCell ⟨b, 1, none⟩ (.slice ao n' cap'))) := by
    refine Lib.BuilderAt.put (Nat.le_refl _) hb2 ?_ (by decide)
    rw [List.length_map, List.length_append, HL.out, List.map_append]
    exact hown'
  have BL : Hid (Below b w (w2.setCell ⟨b, 1, none⟩ (.slice ao n' cap'))) :=
    ((HM1.out.below b (by have := HM.out.size; omega) (by simp)).grown hgrow (by have := HM1.out.size; have := HM.out.size; omega) (fun k hk => (HOW.out.lt k hk).1)).setCell (p := ⟨b, 1, none⟩) (Nat.le_refl _) _
  clear hb2 hown' hgrow
  go_wp2
  go_ret2
  exact ⟨⟨_, rfl⟩, .inr AT.out, BL.out⟩

theorem string_c {b : Nat} {bs : List Nat} {w : World} (h : Bu b bs w) (hlt : ∀ x ∈ bs, x < 256) :
    Calls Tryd.prog 49 #[.pointer (some ⟨b, 0, none⟩)] w fun e w' => e = .returned (.string ⟨(bs.map UInt8.ofNat).toArray⟩) ∧ Below b w w' := by
  have e : bs.map e5 = Lib.byteCells (bs.map UInt8.ofNat) := by
    unfold Lib.byteCells
    rw [List.map_map]
    apply List.map_congr_left
    intro x hx
    have := hlt x hx
    show Value.int .u8 (x : Int) = Value.int .u8 ((UInt8.ofNat x).toNat : Int)
    rw [UInt8.toNat_ofNat', Nat.mod_eq_of_lt this]
  have hlt2 := h.lt
  unfold Bu at h
  rw [e] at h
  exact Any.Builder_String_any lays169 builderX b b _ w h (by omega)

theorem trimLeft_c (l : List UInt8) (w : World) : Calls Tryd.prog 48 #[.string ⟨l.toArray⟩, .string ⟨#[48]⟩] w fun e w' => e = .returned (.string ⟨(l.dropWhile (· == 48)).toArray⟩) ∧ w' = w :=
  Any.strings_TrimLeft_one lays161 ⟨l.toArray⟩ 48 (by decide) w
end Go.Proofs.YtkldjllnnbablaaDoor

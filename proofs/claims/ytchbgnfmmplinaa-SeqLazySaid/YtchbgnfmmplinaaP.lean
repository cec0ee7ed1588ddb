/- Concat. -/
import Derived.Test.YtchbgnfmmplinaaM
set_option linter.unusedVariables false
set_option linter.unusedSimpArgs false
namespace Go.Proofs.Ytchbgnfmmplinaa
open Go.RowKit Go.Shelf
attribute [local go_sem] Oper.semAt_some

/-- What an iterator's call keeps, its own blocks being objects of any kind (os). -/
structure Bo {β : Type} (R : List Nat) (w W : World) (os : List (Nat × Obj)) (J : List Nat → β → World → Prop) (X : List Nat) (s : β) (V : World) : Prop where
  j : J (os.map (·.1) ++ X) s V
  ob : ∀ b ∈ os, V.heap[b.1]? = some b.2
  new : ∀ b ∈ os, W.heap.size ≤ b.1
  nx : ∀ b ∈ os, b.1 ∉ X
  kept : Keep R w V
  above : ∀ k ∈ X, W.heap.size ≤ k
  size : W.heap.size ≤ V.heap.size

section
variable {β : Type} {R : List Nat} {w W : World} {os : List (Nat × Obj)} {J J' : List Nat → β → World → Prop} {X X' : List Nat} {s s' : β} {A B V V2 : World}
theorem Bo.lt (h : Bo R w W os J X s V) {b : Nat × Obj} (hb : b ∈ os) : b.1 < V.heap.size := (Array.getElem?_eq_some_iff.1 (h.ob b hb)).1
theorem Bo.step (h : Bo R w W os J X s A) (hJ : Stable J) (hR : ∀ k ∈ R, k < W.heap.size)
    (m : Mod X A B) (hX : ∀ k ∈ X', (k ∈ X ∨ A.heap.size ≤ k) ∧ k < B.heap.size) : Bo R w W os J X' s B := by
  have hs := m.size
  refine ⟨hJ _ _ _ _ _ h.j (m.mono fun k _ hk => List.mem_append_right _ hk) (fun k hk => ?_), fun b hb => (m.block _ (h.lt hb) (h.nx b hb)).trans (h.ob b hb), h.new, fun b hb hm => ?_, h.kept.trans (m.keep fun k hk => ⟨Nat.lt_of_lt_of_le (hR k hk) h.size, fun hm => by have := h.above k hm; have := hR k hk; omega⟩), fun k hk => ?_, Nat.le_trans h.size hs⟩
  · rcases List.mem_append.1 hk with hk | hk
    · obtain ⟨b, hb, rfl⟩ := List.mem_map.1 hk
      exact ⟨.inl (List.mem_append_left _ hk), Nat.lt_of_lt_of_le (h.lt hb) hs⟩
    · obtain ⟨h1, h2⟩ := hX k hk
      exact ⟨h1.imp (List.mem_append_right _) id, h2⟩
  · rcases (hX _ hm).1 with h1 | h1
    · exact h.nx b hb h1
    · have := h.lt hb; omega
  · rcases (hX k hk).1 with h1 | h1
    · exact h.above k h1
    · have := h.size; omega
theorem Bo.turn (h : Bo R w W os J X s V) (hs : V.heap.size ≤ V2.heap.size) (hk : Keep (R ++ (os.map (·.1) ++ X)) V V2) (hj : J' (os.map (·.1) ++ X) s' V2) : Bo R w W os J' X s' V2 ∧ Keep (R ++ X) V V2 := by
  refine ⟨⟨hj, fun b hb => (hk _ (List.mem_append_right _ (List.mem_append_left _ (List.mem_map.2 ⟨b, hb, rfl⟩)))).trans (h.ob b hb), h.new, h.nx, h.kept.trans (hk.mono' fun k hk' => List.mem_append_left _ hk'), h.above, Nat.le_trans h.size hs⟩, hk.mono' fun k hk' => ?_⟩
  rcases List.mem_append.1 hk' with h1 | h1
  · exact List.mem_append_left _ h1
  · exact List.mem_append_right _ (List.mem_append_right _ h1)
/-- One of the blocks X taken over. -/
theorem Bo.push (h : Bo R w W os J X s V) (hJ : Stable J) {D : Nat} {o : Obj} (hD : D ∈ X) (ho : V.heap[D]? = some o) : Bo R w W ((D, o) :: os) J [] s V := by
  have hDl : D < V.heap.size := (Array.getElem?_eq_some_iff.1 ho).1
  refine ⟨hJ _ _ _ _ _ h.j (Mod.refl _ _) (fun k hk => ?_), fun b hb => ?_, fun b hb => ?_, by simp, h.kept, by simp, h.size⟩
  · simp only [List.map_cons, List.append_nil, List.mem_cons] at hk
    rcases hk with rfl | hk
    · exact ⟨.inl (List.mem_append_right _ hD), hDl⟩
    · obtain ⟨b, hb, rfl⟩ := List.mem_map.1 hk
      exact ⟨.inl (List.mem_append_left _ hk), h.lt hb⟩
  · rcases List.mem_cons.1 hb with rfl | hb
    · exact ho
    · exact h.ob b hb
  · rcases List.mem_cons.1 hb with rfl | hb
    · exact h.above _ hD
    · exact h.new b hb
end

/-- Blocks of marks. -/
def marks (Ds : List Nat) : List (Nat × Obj) := Ds.map fun D => (D, .deferred (some []))
/-- What is run as a function that ranged is left. -/
def dfr (Ds : List Nat) : List Deferred := Ds.map fun D => { target := .collected D, args := #[] }
theorem dfr_cons (D : Nat) (Ds : List Nat) : { target := .collected D, args := #[] } :: dfr Ds = dfr (D :: Ds) := rfl
theorem marks_mem {Ds : List Nat} {k : Nat} (h : k ∈ Ds) (t : List (Nat × Obj)) : k ∈ (marks Ds ++ t).map (·.1) := by
  refine List.mem_map.2 ⟨(k, .deferred (some [])), List.mem_append_left _ (List.mem_map.2 ⟨k, h, rfl⟩), rfl⟩
theorem marks_ob {Ds : List Nat} {k : Nat} (h : k ∈ Ds) (t : List (Nat × Obj)) : (k, Obj.deferred (some [])) ∈ marks Ds ++ t :=
  List.mem_append_left _ (List.mem_map.2 ⟨k, h, rfl⟩)
theorem leaves_marks {fn : Func} (hf : fn.results = #[]) {tmps : Array Value} {R' : Ending → World → Prop} (Ds : List Nat) : ∀ (w : World), (∀ D ∈ Ds, w.heap[D]? = some (.deferred (some []))) → Ds.Nodup →
    (∀ w', Mod Ds w w' → R' (.returned (.tuple #[])) w') → LeavesInM Fence.wide 0 Try.prog fn tmps R' (dfr Ds) .returning w := by
  induction Ds with
  | nil => intro w _ _ h; exact ⟨_, results_none hf _ _ _, h w (Mod.refl _ _)⟩
  | cons D Ds ih =>
    intro w hD hnd h
    have hn := List.nodup_cons.1 hnd
    refine ⟨by simp, .inl ⟨D, _, rfl, run_takeDeferred (hD D (by simp)), ih _ ?_ hn.2 ?_⟩⟩
    · intro D' h'
      exact (World.putObj_heap_other (fun e => hn.1 (by rw [← e]; exact h'))).trans (hD D' (by simp [h']))
    · intro w' m
      exact h w' (Mod.trans (S' := Ds) ((Mod.refl (D :: Ds) w).putObj D (.deferred none) (by simp)) m (fun k _ hk => by simp [hk]))

/-- More blocks kept. -/
theorem Seq.wide {P : Program} {α : Type} {g : Nat} {lb : Array Value} {enc : α → Value} {R R' : List Nat} {L : List α} {w : World} (h : Seq P g lb enc R L w) (hsub : ∀ k ∈ R, k ∈ R') (hlt : ∀ k ∈ R', k < w.heap.size) : Seq P g lb enc R' L w := by
  refine ⟨hlt, h.2.1, fun l J Jx W hW hkW hJ hJx hY h0 => ?_⟩
  refine (h.2.2 l (fun X s V => J X s V ∧ w.heap.size ≤ V.heap.size ∧ Keep R' w V ∧ ∀ k ∈ X, k ∉ R') Jx W hW (hkW.mono' hsub) ?_ hJx ?_ ⟨h0, hW, hkW, by simp⟩).mono ?_
  · rintro X X' s A B ⟨h1, h2, h3, h4⟩ m hX
    refine ⟨hJ _ _ _ _ _ h1 m hX, Nat.le_trans h2 m.size, h3.trans (m.keep fun k hk => ⟨Nat.lt_of_lt_of_le (hlt k hk) h2, fun hm => h4 k hm hk⟩), fun k hk hr => ?_⟩
    rcases (hX k hk).1 with q | q
    · exact h4 k q hr
    · have := hlt k hr; omega
  · rintro X pre x rest W1 e ⟨h1, h2, h3, h4⟩ hx _
    obtain ⟨fn, tmps, assign, body, hy, hR⟩ := hY X pre x rest W1 e h1 hx h3
    refine ⟨fn, tmps, assign, body, hy, hR.mono ?_⟩
    rintro e W' ⟨hs, hk, h5⟩
    refine ⟨hs, hk.mono' (fun k hk' => ?_), ?_⟩
    · rcases List.mem_append.1 hk' with q | q
      · exact List.mem_append_left _ (hsub k q)
      · exact List.mem_append_right _ q
    · rcases h5 with ⟨rfl, h6⟩ | ⟨rfl, h6⟩
      · exact .inl ⟨rfl, h6, Nat.le_trans h2 hs, h3.trans (hk.mono' fun k hk' => List.mem_append_left _ hk'), h4⟩
      · exact .inr ⟨rfl, h6⟩
  · rintro e W' ⟨hv, h1 | h1⟩
    · exact ⟨hv, .inl h1.1⟩
    · exact ⟨hv, .inr h1⟩

/-- A row, nil or not. -/
def Src (w : World) (sv : Value) (R : List Nat) (L : List Int) : Prop := ∃ g lb, NoneTo sv g lb ∧ Seq Try.prog g lb ei R L w
theorem Src.later {w w' : World} {sv : Value} {R : List Nat} {L : List Int} (h : Src w sv R L) (hs : w.heap.size ≤ w'.heap.size) (hk : Keep R w w') : Src w' sv R L := by
  obtain ⟨g, lb, h1, h2⟩ := h; exact ⟨g, lb, h1, h2.later hs hk⟩
theorem Src.mod {w w' : World} {sv : Value} {R : List Nat} {L : List Int} (h : Src w sv R L) {S : List Nat} (m : Mod S w w') (hd : ∀ k ∈ R, k ∉ S) : Src w' sv R L := by
  obtain ⟨g, lb, h1, h2⟩ := h; exact ⟨g, lb, h1, h2.mod m hd⟩
theorem Src.wide {w : World} {sv : Value} {R R' : List Nat} {L : List Int} (h : Src w sv R L) (hsub : ∀ k ∈ R, k ∈ R') (hlt : ∀ k ∈ R', k < w.heap.size) : Src w sv R' L := by
  obtain ⟨g, lb, h1, h2⟩ := h; exact ⟨g, lb, h1, h2.wide hsub hlt⟩

theorem Try.info26 : (Try.prog.info? 26).map (fun i => (i.zero, i.size, i.bytes)) = some (some .nilFunc, 1, 8) := by kernel_rfl

set_option maxHeartbeats 1000000 in
theorem cloneF_c {w : World} {v : Value} {xs : List Value} {F : List Nat} (h : Rv w v xs F) (h1 : ∀ u ∈ xs, u.oneCell' = true) (hl : xs.length ≤ 100000) :
    Calls Try.prog 33 #[v] w fun e w' => ∃ v', e = .returned v' ∧ NewV 26 w xs w' v' := by
  obtain ⟨A, cap, rfl, hc⟩ := h.shape
  obtain ⟨i0, hi, hz0, hz1, hz2⟩ := info_parts Try.info26
  have H := Lib.hid h
  have H1 := Lib.hid h1
  clear h h1
  generalize hn : xs.length = n at *
  have HN := Lib.hid hn
  clear hn
  have heq := fun (w : World) (a : Option Addr) (n c : Nat) => Go.Lib.run_eql_slice_nil (P := Try.prog) w 46 26 a n c 0 0 Try.underlying46
  cases A with
  | none =>
    have h0 : Hid (xs = []) := by
      have h1 := H.out.src
      rcases Nat.eq_zero_or_pos n with e | e
      · exact List.eq_nil_of_length_eq_zero (by rw [HN.out, e])
      · obtain ⟨a, e, _⟩ := h1 e; simp at e
    go_enter Try.func33, Try.ntmps33
    go_wp2_with fail
    go_ret
    refine ⟨_, rfl, ?_⟩
    rw [h0.out]; exact NewV.nil 26 (Mod.refl _ _)
  | some a =>
    go_enter Try.func33, Try.ntmps33
    go_wp2_with (at_builtin; refine wpList_append_slz _ rfl _ _ 46 rfl 26 i0 .nilFunc 1 8 Try.underlying46 hi hz0 hz1 hz2 rfl (by decide) _ 0 [] [w.heap.size] rfl (Sl.lit w 26 1 0 #[] (by unfold maxLen; omega) rfl) (some a) n cap xs rfl (by rw [HN.out]; omega) (H.out.mod (S := []) (by (repeat (first | exact Mod.refl _ _ | apply Mod.drew | apply Mod.drewN | apply Mod.alloc | refine Mod.setCell ?_ _ _ (by first | simp | (simp; omega))))) (by simp)).src H1.out (by unfold maxLen; omega) (by omega) ?_; intro v' w1 F' hs1 hm1 hf1)
    go_ret
    exact ⟨_, rfl, NewV.of_empty hs1 HN.out hm1 hf1⟩

set_option maxRecDepth 100000 in
set_option maxHeartbeats 4000000 in
theorem concatI {w : World} {b : Nat} {v : Value} {S : List (Value × List Int)} {F R : List Nat} (hb : Blk w b #[v] 46) (hv : Rv w v (S.map (·.1)) F) (hF : ∀ k ∈ F, k < w.heap.size) (hl : S.length ≤ 100000) (hR : ∀ k ∈ R, k < w.heap.size)
    (hS : ∀ p ∈ S, Src w p.1 R p.2) : Seq Try.prog 34 #[.pointer (some ⟨b, 0, none⟩)] ei (b :: F ++ R) (S.flatMap (·.2)) w := by
  refine ⟨?_, enters_of Try.func34 (by kernel_rfl) rfl, ?_⟩
  · intro k hk
    rcases List.mem_append.1 hk with hk | hk
    · rcases List.mem_cons.1 hk with rfl | hk
      · exact hb.lt
      · exact hF k hk
    · exact hR k hk
  intro l J Jx W hW hkW hJ hJx hY h0
  obtain ⟨A, cap, rfl, hc⟩ := hv.shape
  have cb := (hb.keep hkW (by simp)).cell 0
  simp at cb
  have hRl : ∀ k ∈ b :: F ++ R, k < W.heap.size := by
    intro k hk
    refine Nat.lt_of_lt_of_le ?_ hW
    rcases List.mem_append.1 hk with hk | hk
    · rcases List.mem_cons.1 hk with rfl | hk
      · exact hb.lt
      · exact hF k hk
    · exact hR k hk
  have hbl : b < W.heap.size := hRl b (by simp)
  have HRl := Lib.hid hRl
  have HV := Lib.hid hv
  have HS := Lib.hid hS
  have HKW := Lib.hid hkW
  have HJ := Lib.hid hJ
  have HJx := Lib.hid hJx
  have HY := Lib.hid hY
  have H0 := Lib.hid h0
  have HW := Lib.hid hW
  rw [List.length_map] at *
  generalize hn : S.length = n at *
  have HN := Lib.hid hn
  clear hb hv hF hkW hJ hJx hY h0 hn hS hR hRl hW
  refine (callsIn_wide (n := 0)).1 (callsIn_of_wp_marks Try.func34 rfl trivial ?_ rfl)
  simp only [Try.ntmps34, List.size_toArray, List.length_cons, List.length_nil, Nat.reduceAdd, Nat.reduceSub, Array.replicate_succ, Array.replicate_zero, List.push_toArray, List.append_toArray, List.nil_append, List.cons_append]
  gi_wp2
  have Y1 : Hid (Bo (b :: F ++ R) w W [(W.heap.size, .cells #[.func (.yield l) #[] #[]] 43 (0, 0))] J [] [] (W.alloc (.cells #[.func (.yield l) #[] #[]] 43))) := by
    have m : Mod [] W (W.alloc (.cells #[.func (.yield l) #[] #[]] 43)) := (Mod.refl _ _).alloc _
    refine ⟨HJ.out _ _ _ _ _ H0.out m (by simp), ?_, by simp, by simp, HKW.out.trans (m.keep fun k hk => ⟨HRl.out k hk, by simp⟩), by simp, m.size⟩
    intro c hc
    simp only [List.mem_cons, List.not_mem_nil, or_false] at hc
    subst hc
    exact Blk.new _ _ _
  have hsz1 : (W.alloc (.cells #[.func (.yield l) #[] #[]] 43)).heap.size = W.heap.size + 1 := by simp
  generalize W.alloc (.cells #[.func (.yield l) #[] #[]] 43) = W1 at *
  refine wpIn_loop (fun a' wr => ∃ (k : Nat) (Ds : List Nat) (u4 u5 u9 u10 u11 u12 u13 u14 u15 u16 u17 u18 u19 : Value), k ≤ n ∧ Ds.Nodup ∧ Bo (b :: F ++ R) w W (marks Ds ++ [(W.heap.size, .cells #[.func (.yield l) #[] #[]] 43 (0, 0))]) J [] ((S.take k).flatMap (·.2)) wr ∧
      a' = { tmps := #[.func (.yield l) #[] #[], .pointer (some ⟨b, 0, none⟩), .pointer (some ⟨W.heap.size, 0, none⟩), undef, u4, u5, .slice A n cap, .int .i64 n, .int .i64 k, u9, u10, u11, u12, u13, u14, u15, u16, u17, u18, u19], defers := dfr Ds })
    (fun a' _ => n - (intOf (a'.tmps.getD 8 undef)).toNat) ?start ?round
  case start => exact ⟨0, [], undef, undef, undef, undef, undef, undef, undef, undef, undef, undef, undef, undef, undef, Nat.zero_le _, List.nodup_nil, by simpa [marks] using Y1.out, rfl⟩
  case round =>
    rintro a' wr ⟨k, Ds, u4, u5, u9, u10, u11, u12, u13, u14, u15, u16, u17, u18, u19, hk, hnd, hbo, rfl⟩
    have HND := Lib.hid hnd
    have HB := Lib.hid hbo
    clear hnd
    by_cases hlt : k < n
    · obtain ⟨b1, o1, rfl, d1⟩ := (HV.out.keep (hbo.kept.mono' (fun q hq => by simp [hq]))).at k (by rw [List.length_map, HN.out]; exact hlt)
      have hlt' : k < S.length := by rw [HN.out]; exact hlt
      rw [List.getElem_map] at d1
      obtain ⟨g, lb, hnone, hseq⟩ := (HS.out S[k] (List.getElem_mem _)).later (w' := wr) (Nat.le_trans HW.out hbo.size) (hbo.kept.mono' fun q hq => by simp [hq])
      have hsp : Hid (S.flatMap (·.2) = (S.take k).flatMap (·.2) ++ (S[k].2 ++ (S.drop (k + 1)).flatMap (·.2))) := by
        show _ = _
        rw [← List.flatMap_cons, ← List.flatMap_append, List.getElem_cons_drop, List.take_append_drop]
      have htk : Hid ((S.take k).flatMap (·.2) ++ S[k].2 = (S.take (k + 1)).flatMap (·.2)) := by
        show _ = _
        rw [List.take_succ_eq_append_getElem hlt', List.flatMap_append]; simp
      generalize S[k].1 = sv at *
      generalize S[k].2 = L at *
      generalize (S.take k).flatMap (·.2) = done at *
      have HSQ := Lib.hid hseq
      have HNN := Lib.hid hnone
      clear hbo hseq hnone
      gi_wp2
      refine ⟨trivial, rfl, ?_⟩
      refine ((callsIn_wide (n := 0)).2 (HNN.out.2 _)).mono ?_
      rintro e w' ⟨rfl, rfl⟩
      gi_wp2
      refine wpIn_range (gf := g) (lb := lb) rfl HSQ.out rfl
        (fun X pre V => Bo (b :: F ++ R) w W (marks Ds ++ [(W.heap.size, .cells #[.func (.yield l) #[] #[]] 43 (0, 0))]) J X (done ++ pre) V)
        (fun c X pre V => c = .ret ∧ Bo (b :: F ++ R) w W (marks Ds ++ [(W.heap.size, .cells #[.func (.yield l) #[] #[]] 43 (0, 0))]) Jx X (done ++ pre) V)
        ?sI ?sIx (by simpa using HB.out)
        (fun x => { tmps := #[.func (.yield l) #[] #[], .pointer (some ⟨b, 0, none⟩), .pointer (some ⟨W.heap.size, 0, none⟩), undef, sv, .int .i64 x, .slice (some ⟨b1, o1, none⟩) n cap, .int .i64 n, .int .i64 k, .bool true, .pointer (some ⟨b1, o1 + k, none⟩), sv, sv, .func (.func g) #[] lb, .int .i64 x, u15, u16, u17, u18, u19], defers := [] })
        ?assign ?body ?done ?stop
      case sI => exact fun X X' s A B h1 m hX => h1.step HJ.out HRl.out m hX
      case sIx => exact fun c X X' s A B ⟨h1, h2⟩ m hX => ⟨h1, h2.step HJx.out HRl.out m hX⟩
      case assign =>
        intro l2 x V K hK
        gi_wp2
        exact hK
      case body =>
        rintro l2 X pre x rest V hL hb hX hkR
        have hbX : ∀ k ∈ (marks Ds ++ [(W.heap.size, (.cells #[.func (.yield l) #[] #[]] 43 (0, 0) : Obj))]).map (·.1) ++ X, k < V.heap.size := by
          intro k hk
          rcases List.mem_append.1 hk with h1 | h1
          · obtain ⟨c, hc, rfl⟩ := List.mem_map.1 h1
            exact hb.lt hc
          · exact hX k h1
        obtain ⟨fn, tmps, assign, body, hy, hR⟩ := HY.out _ (done ++ pre) x (rest ++ (S.drop (k + 1)).flatMap (·.2)) V (by rw [hsp.out, hL]; simp) hb.j hbX hb.kept
        have cy := Blk.cell (show Blk V W.heap.size #[.func (.yield l) #[] #[]] 43 from hb.ob (W.heap.size, _) (by simp)) 0
        simp at cy
        dsimp only [ei] at hy
        have HR := Lib.hid hR
        have HB2 := Lib.hid hb
        have HL := Lib.hid hL
        clear hR hb hX hL hbX hkR cb d1
        gi_wp2
        refine ⟨rfl, ?_⟩
        refine RoundIn.mono (show RoundIn (Fence.wide.inRound l2) _ _ _ _ _ _ _ _ _ from HR.out) ?_
        rintro e V2 ⟨hs2, hk2, (⟨rfl, hj2⟩ | ⟨rfl, hj2⟩)⟩
        · obtain ⟨T, kk⟩ := HB2.out.turn hs2 hk2 hj2
          have TT := Lib.hid T
          have KK := Lib.hid (kk.mono' (Y := R ++ X) fun q hq => by simp only [List.mem_append, List.mem_cons] at hq ⊢; rcases hq with h | h <;> simp [h])
          clear hk2 hj2 T kk
          gi_wp2
          exact ⟨hs2, KK.out, by show Bo _ _ _ _ _ _ _ _; rw [← List.append_assoc]; exact TT.out⟩
        · obtain ⟨T, kk⟩ := HB2.out.turn hs2 hk2 hj2
          have TT := Lib.hid T
          have KK := Lib.hid (kk.mono' (Y := R ++ X) fun q hq => by simp only [List.mem_append, List.mem_cons] at hq ⊢; rcases hq with h | h <;> simp [h])
          clear hk2 hj2 T kk
          gi_wp2
          exact ⟨hs2, KK.out, rfl, by show Bo _ _ _ _ _ _ _ _; rw [← List.append_assoc]; exact TT.out⟩
      case done =>
        rintro D X V hD hab hb hkR hK
        have hn2 : (D :: Ds).Nodup := List.nodup_cons.2 ⟨fun hm => hb.nx (D, .deferred (some [])) (List.mem_append_left _ (List.mem_map.2 ⟨D, hm, rfl⟩)) hD, HND.out⟩
        have hb2 := hb.push HJ.out hD hK
        rw [htk.out] at hb2
        have HB2 := Lib.hid hb2
        have HN2 := Lib.hid hn2
        clear hb hb2 hn2 hab hkR cb d1
        gi_wp2
        refine ⟨⟨k + 1, D :: Ds, _, _, _, _, _, _, _, _, _, _, _, _, _, hlt, HN2.out, HB2.out, rfl⟩, ?_⟩
        show n - ((k : Int) + 1).toNat < n - ((k : Int)).toNat
        omega
      case stop =>
        rintro D X c pre V hD hab hpre ⟨rfl, hb⟩ hkR hK
        have hn2 : (D :: Ds).Nodup := List.nodup_cons.2 ⟨fun hm => hb.nx (D, .deferred (some [])) (List.mem_append_left _ (List.mem_map.2 ⟨D, hm, rfl⟩)) hD, HND.out⟩
        have hb2 := hb.push HJx.out hD hK
        have hp : Hid (done ++ pre <+: S.flatMap (·.2)) := by
          obtain ⟨t, rfl⟩ := hpre
          exact ⟨t ++ (S.drop (k + 1)).flatMap (·.2), by rw [hsp.out]; simp⟩
        have HB2 := Lib.hid hb2
        have HN2 := Lib.hid hn2
        clear hb hb2 hn2 hab hkR cb d1
        gi_wp2
        refine (show LeavesInM Fence.wide 0 Try.prog Try.f34 _ _ (dfr (D :: Ds)) .returning V from leaves_marks rfl _ _ (fun d hd => HB2.out.ob (d, .deferred (some [])) (marks_ob (Ds := D :: Ds) hd _)) HN2.out fun w' m => ⟨⟨_, rfl⟩, .inr ⟨_, hp.out, HJx.out _ _ _ _ _ HB2.out.j (m.mono fun q _ hq => List.mem_append_left _ (marks_mem (Ds := D :: Ds) hq _)) (by simp)⟩⟩)
    · obtain rfl : k = n := by omega
      have hall : Hid ((S.take k).flatMap (·.2) = S.flatMap (·.2)) := by show _ = _; rw [List.take_of_length_le (by rw [HN.out]; exact Nat.le_refl _)]
      clear hbo cb
      gi_wp2
      refine (show LeavesInM Fence.wide 0 Try.prog Try.f34 _ _ (dfr Ds) .returning wr from leaves_marks rfl _ _ (fun d hd => HB.out.ob (d, .deferred (some [])) (marks_ob hd _)) HND.out fun w' m => ⟨⟨_, rfl⟩, .inl ?_⟩)
      rw [← hall.out]
      exact HJ.out _ _ _ _ _ HB.out.j (m.mono fun q _ hq => List.mem_append_left _ (marks_mem hq _)) (by simp)

def catL (S : List (Value × List Int)) : List Int := S.flatMap (·.2)
set_option maxHeartbeats 1000000 in
/-- Concat, called. -/
theorem concat_c {w : World} {v : Value} {S : List (Value × List Int)} {F R : List Nat} (h : Rv w v (S.map (·.1)) F) (h1 : ∀ u ∈ S.map (·.1), u.oneCell' = true) (hl : S.length ≤ 100000) (hR : ∀ k ∈ R, k < w.heap.size) (hS : ∀ p ∈ S, Src w p.1 R p.2) :
    Calls Try.prog 23 #[v] w fun e w' => ∃ lb', e = .returned (.func (.func 34) #[] lb') ∧ (∃ R', Seq Try.prog 34 lb' ei R' (catL S) w' ∧ ∀ k ∈ R', k ∈ R ∨ w.heap.size ≤ k) ∧ Mod [] w w' := by
  obtain ⟨A, cap, rfl, hc⟩ := h.shape
  have CC := Lib.hid (cloneF_c (h.mod (w' := w.alloc (.cells #[.slice A (S.map (·.1)).length cap] 46)) (S := []) ((Mod.refl _ _).alloc _) (by simp)) h1 (by simpa using hl))
  have HS := Lib.hid hS
  have HR := Lib.hid hR
  clear h hc hS hR
  generalize (S.map (·.1)).length = n at *
  go_enter Try.func23, Try.ntmps23
  go_wp2_with fail
  refine CC.out.mono ?_
  rintro e w2 ⟨v2, rfl, n2⟩
  have hb : Blk w2 w.heap.size #[.slice A n cap] 46 := (Blk.new _ _ _).mod n2.mod (by simp)
  have cb := hb.cell 0
  have fb := hb.froz 0
  simp at cb
  obtain ⟨A2, c2, rfl⟩ := n2.shape
  have hm2 : Hid (Mod [] w w2) := ((Mod.refl [] w).alloc (.cells #[.slice A n cap] 46)).trans n2.mod (by simp)
  obtain ⟨F2, hs2, _, hf2⟩ := n2
  have HB := Lib.hid hb
  have HS2 := Lib.hid hs2
  have HF2 : Hid (∀ k ∈ F2, w.heap.size < k) := fun k hk => by have := hf2 k hk; simp at this; omega
  clear hb hs2 hf2 CC
  generalize (S.map (·.1)).length = n2 at *
  go_wp2
  go_ret
  have M : Mod [w.heap.size] w2 (w2.setCell ⟨w.heap.size, 0, none⟩ (.slice A2 n2 c2)) := (Mod.refl _ _).setCell _ _ (by simp)
  have hs3 := HS2.out.mod M (by intro k hk; have := HF2.out k hk; simp; omega)
  have hmm := hm2.out.trans M (by simp; omega)
  refine ⟨_, rfl, ⟨w.heap.size :: F2 ++ R, concatI (v := .slice A2 n2 c2) (by simpa using HB.out.set 0 _) (Rv.of_sl hs3 ?_) hs3.lt hl (fun k hk => Nat.lt_of_lt_of_le (HR.out k hk) hmm.size) (fun p hp => (HS.out p hp).mod hmm (by simp)), fun k hk => ?_⟩, hmm⟩
  · have := hs3.1; simpa using this.symm
  · rcases List.mem_append.1 hk with hk | hk
    · rcases List.mem_cons.1 hk with rfl | hk
      · exact .inr (Nat.le_refl _)
      · have := HF2.out k hk; exact .inr (by omega)
    · exact .inl hk

/-- The row that is none. -/
theorem noneI (w : World) : Seq Try.prog 35 #[] ei [] ([] : List Int) w := by
  refine ⟨by simp, enters_of Try.func35 (by kernel_rfl) rfl, ?_⟩
  intro l J Jx W hW hkW hJ hJx hY h0
  have H0 := Lib.hid h0
  clear hkW hJ hJx hY h0
  refine (callsIn_wide (n := 0)).1 (callsIn_of_wp_marks Try.func35 rfl trivial ?_ rfl)
  simp only [Try.ntmps35, List.size_toArray, List.length_cons, List.length_nil, Nat.reduceAdd, Nat.reduceSub, Array.replicate_succ, Array.replicate_zero, List.push_toArray, List.append_toArray, List.nil_append, List.cons_append]
  gi_wp2
  exact ⟨_, results_none rfl _ _ _, ⟨_, rfl⟩, .inl H0.out⟩
theorem Src.nil (w : World) : Src w .nilFunc [] [] := ⟨35, #[], NoneTo.nil, noneI w⟩
theorem Src.func {w : World} {g : Nat} {lb : Array Value} {R : List Nat} {L : List Int} (h : Seq Try.prog g lb ei R L w) : Src w (.func (.func g) #[] lb) R L := ⟨g, lb, NoneTo.func g lb, h⟩
end Go.Proofs.Ytchbgnfmmplinaa

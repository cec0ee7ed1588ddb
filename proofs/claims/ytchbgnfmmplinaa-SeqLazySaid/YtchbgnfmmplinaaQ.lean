/- Merge's iterator. -/
import Derived.Test.YtchbgnfmmplinaaP
import Derived.LoopIn
set_option linter.unusedVariables false
set_option linter.unusedSimpArgs false
namespace Go.Proofs.Ytchbgnfmmplinaa
open Go.RowKit Go.Shelf
attribute [local go_sem] Oper.semAt_some

/-- What is left of the list behind x. -/
def rest1 (x : Int) (r : List Int) : List Int := if (r.dropWhile (· < x)).head? = some x then (r.dropWhile (· < x)).tail else r.dropWhile (· < x)
def mstep (s : List Int × List Int) (x : Int) : List Int × List Int := (s.1 ++ s.2.takeWhile (· < x) ++ [x], rest1 x s.2)
def ms (pre b : List Int) : List Int × List Int := pre.foldl mstep ([], b)
/-- What Merge hands back. -/
def mgL (L b : List Int) : List Int := (ms L b).1 ++ (ms L b).2
theorem ms_snoc (pre b : List Int) (x : Int) : ms (pre ++ [x]) b = mstep (ms pre b) x := by simp [ms, List.foldl_append]
theorem foldl_pre (L : List Int) : ∀ s : List Int × List Int, s.1 <+: (L.foldl mstep s).1 := by
  induction L with
  | nil => intro s; exact List.prefix_refl _
  | cons x L ih =>
    intro s
    refine List.IsPrefix.trans ?_ (ih (mstep s x))
    exact ⟨s.2.takeWhile (· < x) ++ [x], by simp [mstep]⟩
theorem ms_pre {L pre rest : List Int} {x : Int} (h : L = pre ++ x :: rest) (b : List Int) : (ms pre b).1 ++ (ms pre b).2.takeWhile (· < x) ++ [x] <+: mgL L b := by
  subst h
  refine List.IsPrefix.trans ?_ (List.prefix_append _ _)
  have : ms (pre ++ x :: rest) b = rest.foldl mstep (mstep (ms pre b) x) := by simp [ms, List.foldl_append]
  rw [this]
  exact foldl_pre rest (mstep (ms pre b) x)
theorem rest1_len (x : Int) (r : List Int) : (rest1 x r).length ≤ r.length := by
  have h : (r.dropWhile (· < x)).length ≤ r.length := (List.dropWhile_suffix _).length_le
  unfold rest1
  split
  · rw [List.length_tail]; omega
  · exact h
theorem ms_len (L b : List Int) : (ms L b).2.length ≤ b.length := by
  have h : ∀ (L : List Int) (s : List Int × List Int), (L.foldl mstep s).2.length ≤ s.2.length := by
    intro L
    induction L with
    | nil => intro s; exact Nat.le_refl _
    | cons x L ih => intro s; exact Nat.le_trans (ih _) (rest1_len x s.2)
  exact h L ([], b)
theorem tw_take {r : List Int} {x : Int} {k : Nat} (h : k ≤ (r.takeWhile (· < x)).length) : r.take k = (r.takeWhile (· < x)).take k := by
  conv => lhs; rw [← List.takeWhile_append_dropWhile (p := fun y => decide (y < x)) (l := r)]
  rw [List.take_append_of_le_length h]
theorem tw_drop (r : List Int) (x : Int) : r.drop (r.takeWhile (· < x)).length = r.dropWhile (· < x) := by
  have h : ∀ (u v : List Int), (u ++ v).drop u.length = v := by simp
  have e := h (r.takeWhile (· < x)) (r.dropWhile (· < x))
  rwa [List.takeWhile_append_dropWhile] at e
/-- Where the loop stands: one more goes ahead of x. -/
theorem tw_more {r : List Int} {x : Int} {k : Nat} (h : k ≤ (r.takeWhile (· < x)).length) {y : Int} {t : List Int} (hd : r.drop k = y :: t) (hy : y < x) : k < (r.takeWhile (· < x)).length ∧ r.drop (k + 1) = t ∧ r.take (k + 1) = r.take k ++ [y] := by
  have hkl : k < r.length := by
    rcases Nat.lt_or_ge k r.length with q | q
    · exact q
    · rw [List.drop_of_length_le q] at hd; cases hd
  have hget : r[k] = y ∧ r.drop (k + 1) = t := by
    have e := List.drop_eq_getElem_cons hkl
    rw [hd] at e
    simp only [List.cons.injEq] at e
    exact ⟨e.1.symm, e.2.symm⟩
  refine ⟨?_, hget.2, by rw [List.take_succ_eq_append_getElem hkl, hget.1]⟩
  rcases Nat.lt_or_ge k (r.takeWhile (· < x)).length with q | q
  · exact q
  · have e : k = (r.takeWhile (· < x)).length := by omega
    rw [e, tw_drop] at hd
    have h2 := List.head?_dropWhile_not (fun y => decide (y < x)) r
    rw [hd] at h2
    simp at h2
    omega
theorem tw_end {r : List Int} {x : Int} {k : Nat} (h : k ≤ (r.takeWhile (· < x)).length) (hn : ∀ y t, r.drop k = y :: t → ¬ y < x) : k = (r.takeWhile (· < x)).length := by
  rcases Nat.lt_or_ge k (r.takeWhile (· < x)).length with q | q
  · have hkl : k < r.length := Nat.lt_of_lt_of_le q (List.takeWhile_prefix _).length_le
    have h1 := hn _ _ (List.drop_eq_getElem_cons hkl)
    have h2 : r[k] = (r.takeWhile (· < x))[k] := by
      have := tw_take (r := r) (x := x) (k := k + 1) q
      have e1 : (r.take (k + 1))[k]? = some r[k] := by simp [List.getElem?_take, List.getElem?_eq_getElem hkl]
      rw [this] at e1
      rw [List.getElem?_take, if_pos (by omega), List.getElem?_eq_getElem q] at e1
      simpa using e1.symm
    have h3 := List.all_eq_true.1 (List.all_takeWhile (p := fun y => decide (y < x)) (l := r)) _ (List.getElem_mem q)
    rw [← h2] at h3
    simp at h3
    exact absurd h3 h1
  · omega

def lenAt (w : World) (a : Addr) : Nat := match w.cell? a with | some (.slice _ m _) => m | _ => 0

/-- What Merge's iterator keeps: o has come; r is left of the list. -/
def MI (R F : List Nat) (w W : World) (l : Nat) (J : List Nat → List Int → World → Prop) (X : List Nat) (o r : List Int) (V : World) : Prop :=
  ∃ v, Bx R w W [(W.heap.size, .func (.yield l) #[] #[], 43), (W.heap.size + 1, v, 23)] J X o V ∧ Rv w v (r.map ei) F

section
variable {R F : List Nat} {w W : World} {l : Nat} {J : List Nat → List Int → World → Prop} {X X' : List Nat} {o o' r : List Int} {V V2 A B : World}
theorem MI.step (h : MI R F w W l J X o r A) (hJ : Stable J) (hR : ∀ k ∈ R, k < W.heap.size) (m : Mod X A B) (hX : ∀ k ∈ X', (k ∈ X ∨ A.heap.size ≤ k) ∧ k < B.heap.size) : MI R F w W l J X' o r B := by
  obtain ⟨v, h1, h2⟩ := h; exact ⟨v, h1.step hJ hR m hX, h2⟩
theorem MI.drew (h : MI R F w W l J X o r A) (hJ : Stable J) (hR : ∀ k ∈ R, k < W.heap.size) (hX : ∀ k ∈ X, k < A.heap.size) : MI R F w W l J X o r A.drew :=
  h.step hJ hR ((Mod.refl _ _).drew) (fun k hk => ⟨.inl hk, hX k hk⟩)
theorem MI.turn (h : MI R F w W l J X o r V) (hs : V.heap.size ≤ V2.heap.size) (hk : Keep (R ++ (W.heap.size :: (W.heap.size + 1) :: X)) V V2) (hj : J (W.heap.size :: (W.heap.size + 1) :: X) o' V2) : MI R F w W l J X o' r V2 ∧ Keep (R ++ X) V V2 := by
  obtain ⟨v, h1, h2⟩ := h
  obtain ⟨T, k⟩ := h1.turn0 hs hk hj
  exact ⟨⟨v, T, h2⟩, k⟩
theorem MI.lt (h : MI R F w W l J X o r V) (hX : ∀ k ∈ X, k < V.heap.size) : ∀ k ∈ W.heap.size :: (W.heap.size + 1) :: X, k < V.heap.size := by
  obtain ⟨v, h1, _⟩ := h
  intro k hk
  simp only [List.mem_cons] at hk
  rcases hk with rfl | rfl | hk
  · exact (h1.blk (_, _, _) (List.mem_cons_self ..)).lt
  · exact (h1.blk (W.heap.size + 1, v, 23) (by simp)).lt
  · exact hX k hk
theorem MI.kept (h : MI R F w W l J X o r V) : Keep R w V := by obtain ⟨v, h1, _⟩ := h; exact h1.kept
theorem MI.j (h : MI R F w W l J X o r V) : J (W.heap.size :: (W.heap.size + 1) :: X) o V := by obtain ⟨v, h1, _⟩ := h; exact h1.j
/-- The cells as they lie. -/
theorem MI.cells (h : MI R F w W l J X o r V) : ∃ A m c, m = r.length ∧ m ≤ c ∧ V.cell? ⟨W.heap.size, 0, none⟩ = some (.func (.yield l) #[] #[]) ∧ V.cell? ⟨W.heap.size + 1, 0, none⟩ = some (.slice A m c) ∧ V.frozen? ⟨W.heap.size + 1, 0, none⟩ = false ∧
    (∀ (hF : ∀ k ∈ F, k ∈ R) y t, r = y :: t → ∃ b1 o1, A = some ⟨b1, o1, none⟩ ∧ V.cell? ⟨b1, o1, none⟩ = some (.int .i64 y)) ∧
    (∀ (hJ : Stable J) (hR : ∀ k ∈ R, k < W.heap.size) (hX : ∀ k ∈ X, k < V.heap.size) y t A', r = y :: t → (1 < m → A' = A.map (·.add 1)) → MI R F w W l J X o t (V.setCell ⟨W.heap.size + 1, 0, none⟩ (.slice A' (m - 1) (c - 1))) ∧ Keep (R ++ X) V (V.setCell ⟨W.heap.size + 1, 0, none⟩ (.slice A' (m - 1) (c - 1)))) := by
  obtain ⟨v, h1, h2⟩ := h
  obtain ⟨A, c, rfl, hc⟩ := h2.shape
  rw [List.length_map] at *
  have cy := (h1.blk (_, _, _) (List.mem_cons_self ..)).cell 0
  have cl := (h1.blk (W.heap.size + 1, .slice A r.length c, 23) (by simp)).cell 0
  have fl := (h1.blk (W.heap.size + 1, .slice A r.length c, 23) (by simp)).froz 0
  simp at cy cl fl
  refine ⟨A, r.length, c, rfl, hc, cy, cl, fl, fun hF y t e => ?_, fun hJ hR hX y t A' e hA => ?_⟩
  · subst e
    obtain ⟨b1, o1, e1, d1⟩ := (h2.keep (h1.kept.mono' hF)).at 0 (by simp)
    exact ⟨b1, o1, e1, by simpa [ei] using d1⟩
  · obtain ⟨T, k⟩ := h1.put hJ hR hX (by omega) (.slice A' (r.length - 1) (c - 1))
    refine ⟨⟨_, T, ?_⟩, k⟩
    have := h2.drop 1 (by rw [e]; simp) A' hA
    simpa [e] using this
end

set_option maxRecDepth 100000 in
set_option maxHeartbeats 4000000 in
theorem mergeI {sv : Value} {g : Nat} {lb : Array Value} (hsv : NoneTo sv g lb) {R : List Nat} {L : List Int} {w : World} (hs : Seq Try.prog g lb ei R L w) {bb ba : Nat} {vb : Value} {b : List Int} {F : List Nat}
    (hbb : Blk w bb #[vb] 23) (hba : Blk w ba #[sv] 26) (hv : Rv w vb (b.map ei) F) (hF : ∀ k ∈ F, k < w.heap.size) (hl : b.length ≤ 100000) :
    Seq Try.prog 32 #[.pointer (some ⟨bb, 0, none⟩), .pointer (some ⟨ba, 0, none⟩)] ei (bb :: ba :: (F ++ R)) (mgL L b) w := by
  have hR0 : ∀ k ∈ bb :: ba :: (F ++ R), k < w.heap.size := by
    intro k hk
    simp only [List.mem_cons, List.mem_append] at hk
    rcases hk with rfl | rfl | hk | hk
    · exact hbb.lt
    · exact hba.lt
    · exact hF k hk
    · exact hs.1 k hk
  refine ⟨hR0, enters_of Try.func32 (by kernel_rfl) rfl, ?_⟩
  intro l J Jx W hW hkW hJ hJx hY h0
  have hRl : ∀ k ∈ bb :: ba :: (F ++ R), k < W.heap.size := fun k hk => Nat.lt_of_lt_of_le (hR0 k hk) hW
  obtain ⟨A, cap, rfl, hc⟩ := hv.shape
  rw [List.length_map] at *
  generalize hnb : b.length = nb at *
  have cbb := (hbb.keep hkW (by simp)).cell 0
  have cba := (hba.keep hkW (by simp)).cell 0
  simp at cbb cba
  have hbb1 : bb < W.heap.size := hRl bb (by simp)
  have hba1 : ba < W.heap.size := hRl ba (by simp)
  have HS := Lib.hid hs
  have HSV := Lib.hid hsv
  have HV := Lib.hid hv
  have HRl := Lib.hid hRl
  have HKW := Lib.hid hkW
  have HJ := Lib.hid hJ
  have HJx := Lib.hid hJx
  have HY := Lib.hid hY
  have H0 := Lib.hid h0
  have HNB := Lib.hid hnb
  clear hRl hkW hJ hJx hY h0 hs hbb hba hv hF hnb hR0 hsv
  refine (callsIn_wide (n := 0)).1 (callsIn_of_wp_marks Try.func32 rfl trivial ?_ rfl)
  simp only [Try.ntmps32, List.size_toArray, List.length_cons, List.length_nil, Nat.reduceAdd, Nat.reduceSub, Array.replicate_succ, Array.replicate_zero, List.push_toArray, List.append_toArray, List.nil_append, List.cons_append]
  gi_wp2
  refine ⟨trivial, rfl, ?_⟩
  refine ((callsIn_wide (n := 0)).2 (HSV.out.2 _)).mono ?_
  rintro e w' ⟨rfl, rfl⟩
  gi_wp2
  have Y1 : Hid (MI (bb :: ba :: (F ++ R)) F w W l J [] [] b ((W.alloc (.cells #[.func (.yield l) #[] #[]] 43)).alloc (.cells #[.slice A nb cap] 23))) := by
    have m : Mod [] W ((W.alloc (.cells #[.func (.yield l) #[] #[]] 43)).alloc (.cells #[.slice A nb cap] 23)) := ((Mod.refl _ _).alloc _).alloc _
    refine ⟨_, ⟨HJ.out _ _ _ _ _ H0.out m (by simp; omega), ?_, by simp, by simp, HKW.out.trans (m.keep fun k hk => ⟨HRl.out k hk, by simp⟩), by simp, m.size⟩, HV.out⟩
    intro c hc
    simp only [List.mem_cons, List.not_mem_nil, or_false] at hc
    rcases hc with rfl | rfl
    · exact (Blk.new _ _ _).alloc _
    · simpa using Blk.new' (W.alloc (.cells #[.func (.yield l) #[] #[]] 43)) #[.slice A nb cap] 23 (W.heap.size + 1) (by simp)
  have hsz1 : ((W.alloc (.cells #[.func (.yield l) #[] #[]] 43)).alloc (.cells #[.slice A nb cap] 23)).heap.size = W.heap.size + 2 := by simp
  have HS1 : Hid (Seq Try.prog g lb ei R L ((W.alloc (.cells #[.func (.yield l) #[] #[]] 43)).alloc (.cells #[.slice A nb cap] 23))) :=
    HS.out.later (by rw [hsz1]; omega) (fun k hk => Y1.out.kept k (by simp [hk]))
  generalize (W.alloc (.cells #[.func (.yield l) #[] #[]] 43)).alloc (.cells #[.slice A nb cap] 23) = W1 at *
  have hFR : Hid (∀ k ∈ F, k ∈ bb :: ba :: (F ++ R)) := fun k hk => by simp [hk]
  have hRsub : Hid (∀ X : List Nat, ∀ k, k ∈ R ++ X → k ∈ (bb :: ba :: (F ++ R)) ++ X) := fun X k hk => by
    rcases List.mem_append.1 hk with h1 | h1 <;> simp [h1]
  refine wpIn_range (gf := g) (lb := lb) rfl HS1.out rfl
    (fun X pre V => MI (bb :: ba :: (F ++ R)) F w W l J X (ms pre b).1 (ms pre b).2 V ∧ ∀ q ∈ X, q < V.heap.size)
    (fun c X pre V => c = .ret ∧ W.heap.size + 1 < V.heap.size ∧ ∃ o, o <+: mgL L b ∧ Jx (W.heap.size :: (W.heap.size + 1) :: X) o V)
    ?sI ?sIx (by simpa [ms] using Y1.out)
    (fun x => { tmps := #[.func (.yield l) #[] #[], .pointer (some ⟨bb, 0, none⟩), .pointer (some ⟨ba, 0, none⟩), .pointer (some ⟨W.heap.size, 0, none⟩), .pointer (some ⟨W.heap.size + 1, 0, none⟩), .int .i64 x, undef, undef, .slice A nb cap, sv, .func (.func g) #[] lb, .int .i64 x,
      undef, undef, undef, undef, undef, undef, undef, undef, undef, undef, undef, undef, undef, undef, undef, undef, undef, undef, undef, undef, undef, undef, undef, undef, undef, undef, undef, undef, undef, undef, undef, undef, undef, undef, undef, undef, undef, undef, undef, undef, undef, undef, undef, undef, undef], defers := [] })
    ?assign ?body ?done ?stop
  case sI => exact fun X X' s A B h1 m hX => ⟨h1.1.step HJ.out HRl.out m hX, fun q hq => (hX q hq).2⟩
  case sIx =>
    intro c X X' s A B ⟨h1, h2, o, h3, h4⟩ m hX
    have hz := m.size
    have e1 : ∀ k ∈ W.heap.size :: (W.heap.size + 1) :: X', (k ∈ W.heap.size :: (W.heap.size + 1) :: X ∨ A.heap.size ≤ k) ∧ k < B.heap.size := by
      intro k hk
      simp only [List.mem_cons] at hk ⊢
      rcases hk with rfl | rfl | hk
      · exact ⟨.inl (.inl rfl), by omega⟩
      · exact ⟨.inl (.inr (.inl rfl)), by omega⟩
      · obtain ⟨q1, q2⟩ := hX k hk
        exact ⟨q1.imp (fun q => .inr (.inr q)) id, q2⟩
    have e2 : Mod (W.heap.size :: (W.heap.size + 1) :: X) A B := m.mono fun k _ hk => by simp [hk]
    exact ⟨h1, by omega, o, h3, HJx.out _ _ _ _ _ h4 e2 e1⟩
  case assign =>
    intro l2 x V K hK
    gi_wp2
    exact hK
  case body =>
    rintro l2 X pre x rest V hL ⟨hb, _⟩ hX hkR
    have hpre := Lib.hid (ms_pre hL b)
    have hsn : Hid (ms (pre ++ [x]) b = ((ms pre b).1 ++ (ms pre b).2.takeWhile (· < x) ++ [x], rest1 x (ms pre b).2)) := ms_snoc pre b x
    have HRL : Hid ((ms pre b).2.length ≤ 100000) := Nat.le_trans (ms_len pre b) (by rw [HNB.out]; exact hl)
    generalize (ms pre b).1 = o at *
    generalize (ms pre b).2 = r at *
    have HB := Lib.hid hb
    have HX := Lib.hid hX
    clear hb hX hkR hL
    gi_wp2
    gi_loopw [] (fun wr => ∃ k : Nat, k ≤ (r.takeWhile (· < x)).length ∧ MI (bb :: ba :: (F ++ R)) F w W l J X (o ++ r.take k) (r.drop k) wr ∧ V.heap.size ≤ wr.heap.size ∧ Keep (R ++ X) V wr) (fun wr => lenAt wr ⟨W.heap.size + 1, 0, none⟩)
    case atStart => exact ⟨0, Nat.zero_le _, by simpa using HB.out, Nat.le_refl _, Keep.refl _ _⟩
    case round =>
      obtain ⟨k, hk, hm, hsz, hkp⟩ := hrel
      have HM := Lib.hid hm
      have HKP := Lib.hid hkp
      have HXk : Hid (∀ q ∈ X, q < wr.heap.size) := fun q hq => Nat.lt_of_lt_of_le (HX.out q hq) hsz
      obtain ⟨A1, m1, c1, hm1, hmc, cy, cl, fl, hel, hdr⟩ := hm.cells
      have ME := Lib.hid (hel hFR.out)
      have MD := Lib.hid (hdr HJ.out HRl.out HXk.out)
      clear hm hkp hel hdr
      have HM1 := Lib.hid hm1
      have hml : m1 ≤ 100000 := by rw [hm1, List.length_drop]; exact Nat.le_trans (Nat.sub_le _ _) HRL.out
      rcases hdk : r.drop k with _ | ⟨y, t⟩
      · have hm0 : m1 = 0 := by rw [hm1, hdk]; rfl
        subst hm0
        have hke := tw_end hk (fun y t e => by rw [hdk] at e; cases e)
        have hrs : r.takeWhile (· < x) = r.take k ∧ rest1 x r = r.drop k := by
          have hd := tw_drop r x
          rw [← hke] at hd
          refine ⟨by rw [tw_take hk, hke, List.take_length], ?_⟩
          unfold rest1
          rw [← hd, hdk]; simp
        have TU : MI (bb :: ba :: (F ++ R)) F w W l J X (o ++ r.takeWhile (· < x)) (rest1 x r) wr := by rw [hrs.1, hrs.2]; exact HM.out
        have KU : Keep (R ++ X) wr wr := Keep.refl _ _
        have hUs := Nat.le_refl wr.heap.size
        have hXU := HXk.out
        clear hdk hm1 hke hrs
        obtain ⟨rest2, hsp⟩ := hpre.out
        obtain ⟨fn, tmps, assign, body, hy, hR⟩ := HY.out _ (o ++ r.takeWhile (· < x)) x rest2 _ (by rw [← hsp]; simp) TU.j (TU.lt hXU) TU.kept
        dsimp only [ei] at hy
        have HR := Lib.hid hR
        have HTU := Lib.hid TU
        have HKU := Lib.hid KU
        have HSU := Lib.hid hUs
        clear hR TU KU hsp hXU hUs
        gi_wp2
        refine ⟨rfl, ?_⟩
        refine RoundIn.mono (show RoundIn (Fence.wide.inRound l2) _ _ _ _ _ _ _ _ _ from HR.out) ?_
        rintro e V2 ⟨hs2, hk2, (⟨rfl, hj2⟩ | ⟨rfl, hj2⟩)⟩
        · obtain ⟨T, kk⟩ := HTU.out.turn hs2 hk2 hj2
          have TT := Lib.hid T
          have KK := Lib.hid ((HKP.out.trans HKU.out).trans (kk.mono' (hRsub.out X)))
          have hz : Hid (V.heap.size ≤ V2.heap.size) := Nat.le_trans (Nat.le_trans hsz HSU.out) hs2
          clear T kk hj2 hk2 hs2
          gi_wp2
          refine ⟨hz.out, KK.out, ?_, fun q hq => Nat.lt_of_lt_of_le (HX.out q hq) hz.out⟩
          show MI _ _ _ _ _ _ _ _ _ _
          rw [hsn.out]
          exact TT.out
        · have KK : Hid (Keep (R ++ X) V V2) := (HKP.out.trans HKU.out).trans (hk2.mono' (fun q hq => by
            rcases List.mem_append.1 hq with h1 | h1
            · exact List.mem_append_left _ (by simp [h1])
            · exact List.mem_append_right _ (by simp [h1])))
          have hz : Hid (V.heap.size ≤ V2.heap.size) := Nat.le_trans (Nat.le_trans hsz HSU.out) hs2
          have hzb : W.heap.size + 1 < V2.heap.size := Nat.lt_of_lt_of_le (HTU.out.lt (fun q hq => Nat.lt_of_lt_of_le (HX.out q hq) (Nat.le_trans hsz HSU.out)) _ (by simp)) hs2
          have HJ2 := Lib.hid hj2
          clear hj2 hk2 hs2
          gi_wp2
          exact ⟨hz.out, KK.out, rfl, hzb, _, hpre.out, HJ2.out⟩
      · obtain ⟨b1, o1, rfl, d1⟩ := ME.out y t hdk
        have hmp : 0 < m1 := by rw [hm1, hdk]; simp
        by_cases hyx : y < x
        · have HDK := Lib.hid hdk
          clear hdk hm1
          have hXd : ∀ q ∈ X, q < wr.drew.heap.size := HXk.out
          have TU := HM.out.drew HJ.out HRl.out HXk.out
          obtain ⟨hmo1, hmo2, hmo3⟩ := tw_more hk HDK.out hyx
          have hP : o ++ r.take k ++ [y] <+: mgL L b := by
            rw [List.append_assoc, ← hmo3, tw_take hmo1]
            refine List.IsPrefix.trans ?_ hpre.out
            exact ⟨(r.takeWhile (· < x)).drop (k + 1) ++ [x], by rw [List.append_assoc, ← List.append_assoc ((r.takeWhile (· < x)).take (k + 1)), List.take_append_drop, ← List.append_assoc]⟩
          have HP := Lib.hid hP
          obtain ⟨rest2, hsp⟩ := hP
          obtain ⟨fn, tmps, assign, body, hy, hR⟩ := HY.out _ (o ++ r.take k) y rest2 wr.drew (by rw [← hsp]; simp) TU.j (TU.lt hXd) TU.kept
          dsimp only [ei] at hy
          have HR := Lib.hid hR
          have HTU := Lib.hid TU
          have HMO := Lib.hid (And.intro hmo1 (And.intro hmo2 hmo3))
          clear hR TU hsp hmo1 hmo2 hmo3
          gi_wp2
          refine wpIn_region_any (by kernel_rfl) ?_
          refine wpAnyIn_ready (rs := [0, 1]) (by kernel_rfl) (by simp) ?_
          refine AllReadyIn.cons rfl (fun K hK => ?_) (AllReadyIn.cons rfl (fun K hK => ?_) AllReadyIn.nil)
          · go_simp
            refine hK _ _ ?_
            clear hK K
            refine wpAnyIn_ready (rs := [1]) (by kernel_rfl) (by simp) ?_
            refine AllReadyIn.cons rfl (fun K hK => ?_) AllReadyIn.nil
            go_simp
            refine hK _ _ ?_
            clear hK K
            refine wpAnyIn_ready (rs := [2]) (by kernel_rfl) (by simp) ?_
            refine AllReadyIn.cons rfl (fun K hK => ?_) AllReadyIn.nil
            go_simp
            refine hK _ _ ?_
            clear hK K
            refine wpAnyIn_ready (rs := [3]) (by kernel_rfl) (by simp) ?_
            refine AllReadyIn.cons rfl (fun K hK => ?_) AllReadyIn.nil
            go_simp
            refine hK _ _ ?_
            clear hK K
            refine wpAnyIn_ready (rs := [4]) (by kernel_rfl) (by simp) ?_
            refine AllReadyIn.cons rfl (fun K hK => ?_) AllReadyIn.nil
            go_simp
            refine ⟨rfl, ?_⟩
            refine RoundIn.mono (show RoundIn (Fence.wide.inRound l2) _ _ _ _ _ _ _ _ _ from HR.out) ?_
            rintro e V2 ⟨hs2, hk2, (⟨rfl, hj2⟩ | ⟨rfl, hj2⟩)⟩
            · refine hK _ _ ?_
              clear hK K
              refine wpAnyIn_ready (rs := [5]) (by kernel_rfl) (by simp) ?_
              refine AllReadyIn.cons rfl (fun K hK => ?_) AllReadyIn.nil
              go_simp
              refine hK _ _ ?_
              clear hK K
              refine wpAnyIn_done (by kernel_rfl) ?_ _
              obtain ⟨T, kk⟩ := HTU.out.turn hs2 hk2 hj2
              have hX2 : ∀ q ∈ X, q < V2.heap.size := fun q hq => Nat.lt_of_lt_of_le (HXk.out q hq) hs2
              obtain ⟨A2, m2, c2, hm2, hmc2, cy2, cl2, fl2, hel2, hdr2⟩ := T.cells
              obtain ⟨b2, o2, rfl, d2⟩ := hel2 hFR.out y t HDK.out
              have MD2 := Lib.hid (hdr2 HJ.out HRl.out hX2)
              have hmp2 : 0 < m2 := by rw [hm2, HDK.out]; simp
              have hml2 : m2 ≤ 100000 := by rw [hm2, List.length_drop]; exact Nat.le_trans (Nat.sub_le _ _) HRL.out
              have KK := Lib.hid (HKP.out.trans (kk.mono' (hRsub.out X)))
              have hz : Hid (V.heap.size ≤ V2.heap.size) := Nat.le_trans hsz hs2
              clear T kk hj2 hk2 hs2 hX2 hm2 hel2 hdr2
              by_cases hc2 : c2 = 1
              · subst hc2
                obtain rfl : m2 = 1 := by omega
                obtain ⟨T3, k3⟩ := MD2.out y t (some ⟨b2, o2, none⟩) HDK.out (fun h => by omega)
                simp only [Nat.sub_self] at T3 k3
                rw [List.append_assoc, ← HMO.out.2.2, ← HMO.out.2.1] at T3
                obtain ⟨A3, m3, c3, hm3, _, _, cl3, _⟩ := T3.cells
                have HT3 := Lib.hid T3
                have HK3 := Lib.hid (KK.out.trans (k3.mono' (hRsub.out X)))
                have HC3 := Lib.hid (And.intro hm3 cl3)
                clear T3 k3 hm3 cl3
                gi_wp2
                go_roundw
                case rel => exact ⟨k + 1, HMO.out.1, HT3.out, by simpa using hz.out, HK3.out⟩
                case measure =>
                  unfold lenAt
                  rw [HC3.out.2, cl]
                  show m3 < m1
                  rw [HC3.out.1, HM1.out, HDK.out, HMO.out.2.1]; simp
              · obtain ⟨T3, k3⟩ := MD2.out y t (some ⟨b2, o2 + 1, none⟩) HDK.out (fun h => by simp [Addr.add])
                rw [List.append_assoc, ← HMO.out.2.2, ← HMO.out.2.1] at T3
                obtain ⟨A3, m3, c3, hm3, _, _, cl3, _⟩ := T3.cells
                have HT3 := Lib.hid T3
                have HK3 := Lib.hid (KK.out.trans (k3.mono' (hRsub.out X)))
                have HC3 := Lib.hid (And.intro hm3 cl3)
                clear T3 k3 hm3 cl3
                gi_wp2
                go_roundw
                case rel => exact ⟨k + 1, HMO.out.1, HT3.out, by simpa using hz.out, HK3.out⟩
                case measure =>
                  unfold lenAt
                  rw [HC3.out.2, cl]
                  show m3 < m1
                  rw [HC3.out.1, HM1.out, HDK.out, HMO.out.2.1]; simp
            · refine hK _ _ ?_
              clear hK K
              refine wpAnyIn_ready (rs := [5]) (by kernel_rfl) (by simp) ?_
              refine AllReadyIn.cons rfl (fun K hK => ?_) AllReadyIn.nil
              go_simp
              refine hK _ _ ?_
              clear hK K
              refine wpAnyIn_done (by kernel_rfl) ?_ _
              have KK : Hid (Keep (R ++ X) V V2) := HKP.out.trans (hk2.mono' (fun q hq => by
                rcases List.mem_append.1 hq with h1 | h1
                · exact List.mem_append_left _ (by simp [h1])
                · exact List.mem_append_right _ (by simp [h1])))
              have hz : Hid (V.heap.size ≤ V2.heap.size) := Nat.le_trans hsz hs2
              have hzb : W.heap.size + 1 < V2.heap.size := Nat.lt_of_lt_of_le (HTU.out.lt HXk.out _ (by simp)) hs2
              have HJ2 := Lib.hid hj2
              clear hj2 hk2 hs2
              gi_wp2
              exact ⟨hz.out, KK.out, rfl, hzb, _, HP.out, HJ2.out⟩
          · go_simp
            refine hK _ _ ?_
            clear hK K
            refine wpAnyIn_ready (rs := [0, 2]) (by kernel_rfl) (by simp) ?_
            refine AllReadyIn.cons rfl (fun K hK => ?_) (AllReadyIn.cons rfl (fun K hK => ?_) AllReadyIn.nil)
            · go_simp
              refine hK _ _ ?_
              clear hK K
              refine wpAnyIn_ready (rs := [2]) (by kernel_rfl) (by simp) ?_
              refine AllReadyIn.cons rfl (fun K hK => ?_) AllReadyIn.nil
              go_simp
              refine hK _ _ ?_
              clear hK K
              refine wpAnyIn_ready (rs := [3]) (by kernel_rfl) (by simp) ?_
              refine AllReadyIn.cons rfl (fun K hK => ?_) AllReadyIn.nil
              go_simp
              refine hK _ _ ?_
              clear hK K
              refine wpAnyIn_ready (rs := [4]) (by kernel_rfl) (by simp) ?_
              refine AllReadyIn.cons rfl (fun K hK => ?_) AllReadyIn.nil
              go_simp
              refine ⟨rfl, ?_⟩
              refine RoundIn.mono (show RoundIn (Fence.wide.inRound l2) _ _ _ _ _ _ _ _ _ from HR.out) ?_
              rintro e V2 ⟨hs2, hk2, (⟨rfl, hj2⟩ | ⟨rfl, hj2⟩)⟩
              · refine hK _ _ ?_
                clear hK K
                refine wpAnyIn_ready (rs := [5]) (by kernel_rfl) (by simp) ?_
                refine AllReadyIn.cons rfl (fun K hK => ?_) AllReadyIn.nil
                go_simp
                refine hK _ _ ?_
                clear hK K
                refine wpAnyIn_done (by kernel_rfl) ?_ _
                obtain ⟨T, kk⟩ := HTU.out.turn hs2 hk2 hj2
                have hX2 : ∀ q ∈ X, q < V2.heap.size := fun q hq => Nat.lt_of_lt_of_le (HXk.out q hq) hs2
                obtain ⟨A2, m2, c2, hm2, hmc2, cy2, cl2, fl2, hel2, hdr2⟩ := T.cells
                obtain ⟨b2, o2, rfl, d2⟩ := hel2 hFR.out y t HDK.out
                have MD2 := Lib.hid (hdr2 HJ.out HRl.out hX2)
                have hmp2 : 0 < m2 := by rw [hm2, HDK.out]; simp
                have hml2 : m2 ≤ 100000 := by rw [hm2, List.length_drop]; exact Nat.le_trans (Nat.sub_le _ _) HRL.out
                have KK := Lib.hid (HKP.out.trans (kk.mono' (hRsub.out X)))
                have hz : Hid (V.heap.size ≤ V2.heap.size) := Nat.le_trans hsz hs2
                clear T kk hj2 hk2 hs2 hX2 hm2 hel2 hdr2
                by_cases hc2 : c2 = 1
                · subst hc2
                  obtain rfl : m2 = 1 := by omega
                  obtain ⟨T3, k3⟩ := MD2.out y t (some ⟨b2, o2, none⟩) HDK.out (fun h => by omega)
                  simp only [Nat.sub_self] at T3 k3
                  rw [List.append_assoc, ← HMO.out.2.2, ← HMO.out.2.1] at T3
                  obtain ⟨A3, m3, c3, hm3, _, _, cl3, _⟩ := T3.cells
                  have HT3 := Lib.hid T3
                  have HK3 := Lib.hid (KK.out.trans (k3.mono' (hRsub.out X)))
                  have HC3 := Lib.hid (And.intro hm3 cl3)
                  clear T3 k3 hm3 cl3
                  gi_wp2
                  go_roundw
                  case rel => exact ⟨k + 1, HMO.out.1, HT3.out, by simpa using hz.out, HK3.out⟩
                  case measure =>
                    unfold lenAt
                    rw [HC3.out.2, cl]
                    show m3 < m1
                    rw [HC3.out.1, HM1.out, HDK.out, HMO.out.2.1]; simp
                · obtain ⟨T3, k3⟩ := MD2.out y t (some ⟨b2, o2 + 1, none⟩) HDK.out (fun h => by simp [Addr.add])
                  rw [List.append_assoc, ← HMO.out.2.2, ← HMO.out.2.1] at T3
                  obtain ⟨A3, m3, c3, hm3, _, _, cl3, _⟩ := T3.cells
                  have HT3 := Lib.hid T3
                  have HK3 := Lib.hid (KK.out.trans (k3.mono' (hRsub.out X)))
                  have HC3 := Lib.hid (And.intro hm3 cl3)
                  clear T3 k3 hm3 cl3
                  gi_wp2
                  go_roundw
                  case rel => exact ⟨k + 1, HMO.out.1, HT3.out, by simpa using hz.out, HK3.out⟩
                  case measure =>
                    unfold lenAt
                    rw [HC3.out.2, cl]
                    show m3 < m1
                    rw [HC3.out.1, HM1.out, HDK.out, HMO.out.2.1]; simp
              · refine hK _ _ ?_
                clear hK K
                refine wpAnyIn_ready (rs := [5]) (by kernel_rfl) (by simp) ?_
                refine AllReadyIn.cons rfl (fun K hK => ?_) AllReadyIn.nil
                go_simp
                refine hK _ _ ?_
                clear hK K
                refine wpAnyIn_done (by kernel_rfl) ?_ _
                have KK : Hid (Keep (R ++ X) V V2) := HKP.out.trans (hk2.mono' (fun q hq => by
                  rcases List.mem_append.1 hq with h1 | h1
                  · exact List.mem_append_left _ (by simp [h1])
                  · exact List.mem_append_right _ (by simp [h1])))
                have hz : Hid (V.heap.size ≤ V2.heap.size) := Nat.le_trans hsz hs2
                have hzb : W.heap.size + 1 < V2.heap.size := Nat.lt_of_lt_of_le (HTU.out.lt HXk.out _ (by simp)) hs2
                have HJ2 := Lib.hid hj2
                clear hj2 hk2 hs2
                gi_wp2
                exact ⟨hz.out, KK.out, rfl, hzb, _, HP.out, HJ2.out⟩
            · go_simp
              refine hK _ _ ?_
              clear hK K
              refine wpAnyIn_ready (rs := [0, 3]) (by kernel_rfl) (by simp) ?_
              refine AllReadyIn.cons rfl (fun K hK => ?_) (AllReadyIn.cons rfl (fun K hK => ?_) AllReadyIn.nil)
              · go_simp
                refine hK _ _ ?_
                clear hK K
                refine wpAnyIn_ready (rs := [3]) (by kernel_rfl) (by simp) ?_
                refine AllReadyIn.cons rfl (fun K hK => ?_) AllReadyIn.nil
                go_simp
                refine hK _ _ ?_
                clear hK K
                refine wpAnyIn_ready (rs := [4]) (by kernel_rfl) (by simp) ?_
                refine AllReadyIn.cons rfl (fun K hK => ?_) AllReadyIn.nil
                go_simp
                refine ⟨rfl, ?_⟩
                refine RoundIn.mono (show RoundIn (Fence.wide.inRound l2) _ _ _ _ _ _ _ _ _ from HR.out) ?_
                rintro e V2 ⟨hs2, hk2, (⟨rfl, hj2⟩ | ⟨rfl, hj2⟩)⟩
                · refine hK _ _ ?_
                  clear hK K
                  refine wpAnyIn_ready (rs := [5]) (by kernel_rfl) (by simp) ?_
                  refine AllReadyIn.cons rfl (fun K hK => ?_) AllReadyIn.nil
                  go_simp
                  refine hK _ _ ?_
                  clear hK K
                  refine wpAnyIn_done (by kernel_rfl) ?_ _
                  obtain ⟨T, kk⟩ := HTU.out.turn hs2 hk2 hj2
                  have hX2 : ∀ q ∈ X, q < V2.heap.size := fun q hq => Nat.lt_of_lt_of_le (HXk.out q hq) hs2
                  obtain ⟨A2, m2, c2, hm2, hmc2, cy2, cl2, fl2, hel2, hdr2⟩ := T.cells
                  obtain ⟨b2, o2, rfl, d2⟩ := hel2 hFR.out y t HDK.out
                  have MD2 := Lib.hid (hdr2 HJ.out HRl.out hX2)
                  have hmp2 : 0 < m2 := by rw [hm2, HDK.out]; simp
                  have hml2 : m2 ≤ 100000 := by rw [hm2, List.length_drop]; exact Nat.le_trans (Nat.sub_le _ _) HRL.out
                  have KK := Lib.hid (HKP.out.trans (kk.mono' (hRsub.out X)))
                  have hz : Hid (V.heap.size ≤ V2.heap.size) := Nat.le_trans hsz hs2
                  clear T kk hj2 hk2 hs2 hX2 hm2 hel2 hdr2
                  by_cases hc2 : c2 = 1
                  · subst hc2
                    obtain rfl : m2 = 1 := by omega
                    obtain ⟨T3, k3⟩ := MD2.out y t (some ⟨b2, o2, none⟩) HDK.out (fun h => by omega)
                    simp only [Nat.sub_self] at T3 k3
                    rw [List.append_assoc, ← HMO.out.2.2, ← HMO.out.2.1] at T3
                    obtain ⟨A3, m3, c3, hm3, _, _, cl3, _⟩ := T3.cells
                    have HT3 := Lib.hid T3
                    have HK3 := Lib.hid (KK.out.trans (k3.mono' (hRsub.out X)))
                    have HC3 := Lib.hid (And.intro hm3 cl3)
                    clear T3 k3 hm3 cl3
                    gi_wp2
                    go_roundw
                    case rel => exact ⟨k + 1, HMO.out.1, HT3.out, by simpa using hz.out, HK3.out⟩
                    case measure =>
                      unfold lenAt
                      rw [HC3.out.2, cl]
                      show m3 < m1
                      rw [HC3.out.1, HM1.out, HDK.out, HMO.out.2.1]; simp
                  · obtain ⟨T3, k3⟩ := MD2.out y t (some ⟨b2, o2 + 1, none⟩) HDK.out (fun h => by simp [Addr.add])
                    rw [List.append_assoc, ← HMO.out.2.2, ← HMO.out.2.1] at T3
                    obtain ⟨A3, m3, c3, hm3, _, _, cl3, _⟩ := T3.cells
                    have HT3 := Lib.hid T3
                    have HK3 := Lib.hid (KK.out.trans (k3.mono' (hRsub.out X)))
                    have HC3 := Lib.hid (And.intro hm3 cl3)
                    clear T3 k3 hm3 cl3
                    gi_wp2
                    go_roundw
                    case rel => exact ⟨k + 1, HMO.out.1, HT3.out, by simpa using hz.out, HK3.out⟩
                    case measure =>
                      unfold lenAt
                      rw [HC3.out.2, cl]
                      show m3 < m1
                      rw [HC3.out.1, HM1.out, HDK.out, HMO.out.2.1]; simp
                · refine hK _ _ ?_
                  clear hK K
                  refine wpAnyIn_ready (rs := [5]) (by kernel_rfl) (by simp) ?_
                  refine AllReadyIn.cons rfl (fun K hK => ?_) AllReadyIn.nil
                  go_simp
                  refine hK _ _ ?_
                  clear hK K
                  refine wpAnyIn_done (by kernel_rfl) ?_ _
                  have KK : Hid (Keep (R ++ X) V V2) := HKP.out.trans (hk2.mono' (fun q hq => by
                    rcases List.mem_append.1 hq with h1 | h1
                    · exact List.mem_append_left _ (by simp [h1])
                    · exact List.mem_append_right _ (by simp [h1])))
                  have hz : Hid (V.heap.size ≤ V2.heap.size) := Nat.le_trans hsz hs2
                  have hzb : W.heap.size + 1 < V2.heap.size := Nat.lt_of_lt_of_le (HTU.out.lt HXk.out _ (by simp)) hs2
                  have HJ2 := Lib.hid hj2
                  clear hj2 hk2 hs2
                  gi_wp2
                  exact ⟨hz.out, KK.out, rfl, hzb, _, HP.out, HJ2.out⟩
              · go_simp
                refine hK _ _ ?_
                clear hK K
                refine wpAnyIn_ready (rs := [0]) (by kernel_rfl) (by simp) ?_
                refine AllReadyIn.cons rfl (fun K hK => ?_) AllReadyIn.nil
                go_simp
                refine hK _ _ ?_
                clear hK K
                refine wpAnyIn_ready (rs := [4]) (by kernel_rfl) (by simp) ?_
                refine AllReadyIn.cons rfl (fun K hK => ?_) AllReadyIn.nil
                go_simp
                refine ⟨rfl, ?_⟩
                refine RoundIn.mono (show RoundIn (Fence.wide.inRound l2) _ _ _ _ _ _ _ _ _ from HR.out) ?_
                rintro e V2 ⟨hs2, hk2, (⟨rfl, hj2⟩ | ⟨rfl, hj2⟩)⟩
                · refine hK _ _ ?_
                  clear hK K
                  refine wpAnyIn_ready (rs := [5]) (by kernel_rfl) (by simp) ?_
                  refine AllReadyIn.cons rfl (fun K hK => ?_) AllReadyIn.nil
                  go_simp
                  refine hK _ _ ?_
                  clear hK K
                  refine wpAnyIn_done (by kernel_rfl) ?_ _
                  obtain ⟨T, kk⟩ := HTU.out.turn hs2 hk2 hj2
                  have hX2 : ∀ q ∈ X, q < V2.heap.size := fun q hq => Nat.lt_of_lt_of_le (HXk.out q hq) hs2
                  obtain ⟨A2, m2, c2, hm2, hmc2, cy2, cl2, fl2, hel2, hdr2⟩ := T.cells
                  obtain ⟨b2, o2, rfl, d2⟩ := hel2 hFR.out y t HDK.out
                  have MD2 := Lib.hid (hdr2 HJ.out HRl.out hX2)
                  have hmp2 : 0 < m2 := by rw [hm2, HDK.out]; simp
                  have hml2 : m2 ≤ 100000 := by rw [hm2, List.length_drop]; exact Nat.le_trans (Nat.sub_le _ _) HRL.out
                  have KK := Lib.hid (HKP.out.trans (kk.mono' (hRsub.out X)))
                  have hz : Hid (V.heap.size ≤ V2.heap.size) := Nat.le_trans hsz hs2
                  clear T kk hj2 hk2 hs2 hX2 hm2 hel2 hdr2
                  by_cases hc2 : c2 = 1
                  · subst hc2
                    obtain rfl : m2 = 1 := by omega
                    obtain ⟨T3, k3⟩ := MD2.out y t (some ⟨b2, o2, none⟩) HDK.out (fun h => by omega)
                    simp only [Nat.sub_self] at T3 k3
                    rw [List.append_assoc, ← HMO.out.2.2, ← HMO.out.2.1] at T3
                    obtain ⟨A3, m3, c3, hm3, _, _, cl3, _⟩ := T3.cells
                    have HT3 := Lib.hid T3
                    have HK3 := Lib.hid (KK.out.trans (k3.mono' (hRsub.out X)))
                    have HC3 := Lib.hid (And.intro hm3 cl3)
                    clear T3 k3 hm3 cl3
                    gi_wp2
                    go_roundw
                    case rel => exact ⟨k + 1, HMO.out.1, HT3.out, by simpa using hz.out, HK3.out⟩
                    case measure =>
                      unfold lenAt
                      rw [HC3.out.2, cl]
                      show m3 < m1
                      rw [HC3.out.1, HM1.out, HDK.out, HMO.out.2.1]; simp
                  · obtain ⟨T3, k3⟩ := MD2.out y t (some ⟨b2, o2 + 1, none⟩) HDK.out (fun h => by simp [Addr.add])
                    rw [List.append_assoc, ← HMO.out.2.2, ← HMO.out.2.1] at T3
                    obtain ⟨A3, m3, c3, hm3, _, _, cl3, _⟩ := T3.cells
                    have HT3 := Lib.hid T3
                    have HK3 := Lib.hid (KK.out.trans (k3.mono' (hRsub.out X)))
                    have HC3 := Lib.hid (And.intro hm3 cl3)
                    clear T3 k3 hm3 cl3
                    gi_wp2
                    go_roundw
                    case rel => exact ⟨k + 1, HMO.out.1, HT3.out, by simpa using hz.out, HK3.out⟩
                    case measure =>
                      unfold lenAt
                      rw [HC3.out.2, cl]
                      show m3 < m1
                      rw [HC3.out.1, HM1.out, HDK.out, HMO.out.2.1]; simp
                · refine hK _ _ ?_
                  clear hK K
                  refine wpAnyIn_ready (rs := [5]) (by kernel_rfl) (by simp) ?_
                  refine AllReadyIn.cons rfl (fun K hK => ?_) AllReadyIn.nil
                  go_simp
                  refine hK _ _ ?_
                  clear hK K
                  refine wpAnyIn_done (by kernel_rfl) ?_ _
                  have KK : Hid (Keep (R ++ X) V V2) := HKP.out.trans (hk2.mono' (fun q hq => by
                    rcases List.mem_append.1 hq with h1 | h1
                    · exact List.mem_append_left _ (by simp [h1])
                    · exact List.mem_append_right _ (by simp [h1])))
                  have hz : Hid (V.heap.size ≤ V2.heap.size) := Nat.le_trans hsz hs2
                  have hzb : W.heap.size + 1 < V2.heap.size := Nat.lt_of_lt_of_le (HTU.out.lt HXk.out _ (by simp)) hs2
                  have HJ2 := Lib.hid hj2
                  clear hj2 hk2 hs2
                  gi_wp2
                  exact ⟨hz.out, KK.out, rfl, hzb, _, HP.out, HJ2.out⟩
        · have hke := tw_end hk (fun y' t' e => by rw [hdk] at e; cases e; exact hyx)
          have htw : r.takeWhile (· < x) = r.take k := by rw [tw_take hk, hke, List.take_length]
          have hd := tw_drop r x
          rw [← hke] at hd
          by_cases hye : y = x
          · have hr1 : rest1 x r = t := by
              unfold rest1
              rw [← hd, hdk]; simp [hye]
            subst hye
            have HDK := Lib.hid hdk
            have HTW := Lib.hid htw
            have HR1 := Lib.hid hr1
            clear hdk hm1 hke htw hr1 hd
            by_cases hc1 : c1 = 1
            · subst hc1
              obtain rfl : m1 = 1 := by omega
              have TK := MD.out y t (some ⟨b1, o1, none⟩) HDK.out (fun h => by omega)
              rw [← HTW.out, ← HR1.out] at TK
              obtain ⟨TU, KU'⟩ := TK
              have KU := KU'.mono' (hRsub.out X)
              have hUs : wr.heap.size ≤ (wr.setCell ⟨W.heap.size + 1, 0, none⟩ (.slice (some ⟨b1, o1, none⟩) (1 - 1) (1 - 1))).heap.size := by simp
              have hXU : ∀ q ∈ X, q < (wr.setCell ⟨W.heap.size + 1, 0, none⟩ (.slice (some ⟨b1, o1, none⟩) (1 - 1) (1 - 1))).heap.size := fun q hq => by simpa using HXk.out q hq
              simp only [Nat.sub_self] at TU KU hUs hXU
              clear KU'
              obtain ⟨rest2, hsp⟩ := hpre.out
              obtain ⟨fn, tmps, assign, body, hy, hR⟩ := HY.out _ (o ++ r.takeWhile (· < y)) y rest2 _ (by rw [← hsp]; simp) TU.j (TU.lt hXU) TU.kept
              dsimp only [ei] at hy
              have HR := Lib.hid hR
              have HTU := Lib.hid TU
              have HKU := Lib.hid KU
              have HSU := Lib.hid hUs
              clear hR TU KU hsp hXU hUs
              gi_wp2
              refine ⟨rfl, ?_⟩
              refine RoundIn.mono (show RoundIn (Fence.wide.inRound l2) _ _ _ _ _ _ _ _ _ from HR.out) ?_
              rintro e V2 ⟨hs2, hk2, (⟨rfl, hj2⟩ | ⟨rfl, hj2⟩)⟩
              · obtain ⟨T, kk⟩ := HTU.out.turn hs2 hk2 hj2
                have TT := Lib.hid T
                have KK := Lib.hid ((HKP.out.trans HKU.out).trans (kk.mono' (hRsub.out X)))
                have hz : Hid (V.heap.size ≤ V2.heap.size) := Nat.le_trans (Nat.le_trans hsz HSU.out) hs2
                clear T kk hj2 hk2 hs2
                gi_wp2
                refine ⟨hz.out, KK.out, ?_, fun q hq => Nat.lt_of_lt_of_le (HX.out q hq) hz.out⟩
                show MI _ _ _ _ _ _ _ _ _ _
                rw [hsn.out]
                exact TT.out
              · have KK : Hid (Keep (R ++ X) V V2) := (HKP.out.trans HKU.out).trans (hk2.mono' (fun q hq => by
                  rcases List.mem_append.1 hq with h1 | h1
                  · exact List.mem_append_left _ (by simp [h1])
                  · exact List.mem_append_right _ (by simp [h1])))
                have hz : Hid (V.heap.size ≤ V2.heap.size) := Nat.le_trans (Nat.le_trans hsz HSU.out) hs2
                have hzb : W.heap.size + 1 < V2.heap.size := Nat.lt_of_lt_of_le (HTU.out.lt (fun q hq => Nat.lt_of_lt_of_le (HX.out q hq) (Nat.le_trans hsz HSU.out)) _ (by simp)) hs2
                have HJ2 := Lib.hid hj2
                clear hj2 hk2 hs2
                gi_wp2
                exact ⟨hz.out, KK.out, rfl, hzb, _, hpre.out, HJ2.out⟩
            · have TK := MD.out y t (some ⟨b1, o1 + 1, none⟩) HDK.out (fun h => by simp [Addr.add])
              rw [← HTW.out, ← HR1.out] at TK
              obtain ⟨TU, KU'⟩ := TK
              have KU := KU'.mono' (hRsub.out X)
              have hUs : wr.heap.size ≤ (wr.setCell ⟨W.heap.size + 1, 0, none⟩ (.slice (some ⟨b1, o1 + 1, none⟩) (m1 - 1) (c1 - 1))).heap.size := by simp
              have hXU : ∀ q ∈ X, q < (wr.setCell ⟨W.heap.size + 1, 0, none⟩ (.slice (some ⟨b1, o1 + 1, none⟩) (m1 - 1) (c1 - 1))).heap.size := fun q hq => by simpa using HXk.out q hq
              obtain ⟨rest2, hsp⟩ := hpre.out
              obtain ⟨fn, tmps, assign, body, hy, hR⟩ := HY.out _ (o ++ r.takeWhile (· < y)) y rest2 _ (by rw [← hsp]; simp) TU.j (TU.lt hXU) TU.kept
              dsimp only [ei] at hy
              have HR := Lib.hid hR
              have HTU := Lib.hid TU
              have HKU := Lib.hid KU
              have HSU := Lib.hid hUs
              clear hR TU KU hsp hXU hUs
              gi_wp2
              refine ⟨rfl, ?_⟩
              refine RoundIn.mono (show RoundIn (Fence.wide.inRound l2) _ _ _ _ _ _ _ _ _ from HR.out) ?_
              rintro e V2 ⟨hs2, hk2, (⟨rfl, hj2⟩ | ⟨rfl, hj2⟩)⟩
              · obtain ⟨T, kk⟩ := HTU.out.turn hs2 hk2 hj2
                have TT := Lib.hid T
                have KK := Lib.hid ((HKP.out.trans HKU.out).trans (kk.mono' (hRsub.out X)))
                have hz : Hid (V.heap.size ≤ V2.heap.size) := Nat.le_trans (Nat.le_trans hsz HSU.out) hs2
                clear T kk hj2 hk2 hs2
                gi_wp2
                refine ⟨hz.out, KK.out, ?_, fun q hq => Nat.lt_of_lt_of_le (HX.out q hq) hz.out⟩
                show MI _ _ _ _ _ _ _ _ _ _
                rw [hsn.out]
                exact TT.out
              · have KK : Hid (Keep (R ++ X) V V2) := (HKP.out.trans HKU.out).trans (hk2.mono' (fun q hq => by
                  rcases List.mem_append.1 hq with h1 | h1
                  · exact List.mem_append_left _ (by simp [h1])
                  · exact List.mem_append_right _ (by simp [h1])))
                have hz : Hid (V.heap.size ≤ V2.heap.size) := Nat.le_trans (Nat.le_trans hsz HSU.out) hs2
                have hzb : W.heap.size + 1 < V2.heap.size := Nat.lt_of_lt_of_le (HTU.out.lt (fun q hq => Nat.lt_of_lt_of_le (HX.out q hq) (Nat.le_trans hsz HSU.out)) _ (by simp)) hs2
                have HJ2 := Lib.hid hj2
                clear hj2 hk2 hs2
                gi_wp2
                exact ⟨hz.out, KK.out, rfl, hzb, _, hpre.out, HJ2.out⟩
          · have hr1 : rest1 x r = r.drop k := by
              unfold rest1
              rw [← hd, hdk]; simp [hye]
            have TU : MI (bb :: ba :: (F ++ R)) F w W l J X (o ++ r.takeWhile (· < x)) (rest1 x r) wr := by rw [htw, hr1]; exact HM.out
            have KU : Keep (R ++ X) wr wr := Keep.refl _ _
            have hUs := Nat.le_refl wr.heap.size
            have hXU := HXk.out
            have hbq : ((y : Int) == x) = false := by rw [beq_eq_false_iff_ne]; exact hye
            clear hdk hm1 hke htw hr1 hd hye
            obtain ⟨rest2, hsp⟩ := hpre.out
            obtain ⟨fn, tmps, assign, body, hy, hR⟩ := HY.out _ (o ++ r.takeWhile (· < x)) x rest2 _ (by rw [← hsp]; simp) TU.j (TU.lt hXU) TU.kept
            dsimp only [ei] at hy
            have HR := Lib.hid hR
            have HTU := Lib.hid TU
            have HKU := Lib.hid KU
            have HSU := Lib.hid hUs
            clear hR TU KU hsp hXU hUs
            gi_wp2
            refine ⟨rfl, ?_⟩
            refine RoundIn.mono (show RoundIn (Fence.wide.inRound l2) _ _ _ _ _ _ _ _ _ from HR.out) ?_
            rintro e V2 ⟨hs2, hk2, (⟨rfl, hj2⟩ | ⟨rfl, hj2⟩)⟩
            · obtain ⟨T, kk⟩ := HTU.out.turn hs2 hk2 hj2
              have TT := Lib.hid T
              have KK := Lib.hid ((HKP.out.trans HKU.out).trans (kk.mono' (hRsub.out X)))
              have hz : Hid (V.heap.size ≤ V2.heap.size) := Nat.le_trans (Nat.le_trans hsz HSU.out) hs2
              clear T kk hj2 hk2 hs2
              gi_wp2
              refine ⟨hz.out, KK.out, ?_, fun q hq => Nat.lt_of_lt_of_le (HX.out q hq) hz.out⟩
              show MI _ _ _ _ _ _ _ _ _ _
              rw [hsn.out]
              exact TT.out
            · have KK : Hid (Keep (R ++ X) V V2) := (HKP.out.trans HKU.out).trans (hk2.mono' (fun q hq => by
                rcases List.mem_append.1 hq with h1 | h1
                · exact List.mem_append_left _ (by simp [h1])
                · exact List.mem_append_right _ (by simp [h1])))
              have hz : Hid (V.heap.size ≤ V2.heap.size) := Nat.le_trans (Nat.le_trans hsz HSU.out) hs2
              have hzb : W.heap.size + 1 < V2.heap.size := Nat.lt_of_lt_of_le (HTU.out.lt (fun q hq => Nat.lt_of_lt_of_le (HX.out q hq) (Nat.le_trans hsz HSU.out)) _ (by simp)) hs2
              have HJ2 := Lib.hid hj2
              clear hj2 hk2 hs2
              gi_wp2
              exact ⟨hz.out, KK.out, rfl, hzb, _, hpre.out, HJ2.out⟩
  case done =>
    rintro D X V hD hab ⟨hb, hX0⟩ hkR hK
    have hmg : Hid (mgL L b = (ms L b).1 ++ (ms L b).2) := rfl
    have HRL : Hid ((ms L b).2.length ≤ 100000) := Nat.le_trans (ms_len L b) (by rw [HNB.out]; exact hl)
    generalize (ms L b).1 = o at *
    generalize (ms L b).2 = r at *
    obtain ⟨v, hbx, hrv⟩ := hb
    obtain ⟨A1, c1, rfl, hc1⟩ := hrv.shape
    rw [List.length_map] at *
    generalize hm1 : r.length = m1 at *
    have HM1 := Lib.hid hm1
    have cl := (hbx.blk (W.heap.size + 1, .slice A1 m1 c1, 23) (by simp)).cell 0
    simp at cl
    have HBX := Lib.hid hbx
    have HRV := Lib.hid hrv
    have HK := Lib.hid hK
    have HD := Lib.hid hD
    have hml : m1 ≤ 100000 := HRL.out
    have HX0 := Lib.hid hX0
    clear hbx hrv hkR hab hm1 hK hD hX0
    gi_wp2
    gi_loopw [48] (fun i wr => ∃ k : Nat, i = .int .i64 k ∧ k ≤ m1 ∧ Bx (bb :: ba :: (F ++ R)) w W [(W.heap.size, .func (.yield l) #[] #[], 43), (W.heap.size + 1, .slice A1 m1 c1, 23)] J X (o ++ r.take k) wr ∧ wr.heap[D]? = some (.deferred (some [])) ∧ (∀ q ∈ X, q < wr.heap.size)) (fun i _ => m1 - (intOf i).toNat)
    case atStart => exact ⟨0, rfl, Nat.zero_le _, by simpa using HBX.out, HK.out, HX0.out⟩
    case round =>
      obtain ⟨k, rfl, hk, hb, hK, hX⟩ := hrel
      by_cases hlt : k < m1
      · obtain ⟨b1, o1, rfl, d1⟩ := (HRV.out.keep (hb.kept.mono' hFR.out)).at k (by rw [List.length_map, HM1.out]; exact hlt)
        have hlt' : k < r.length := by rw [HM1.out]; exact hlt
        rw [List.getElem_map] at d1
        have hsp : Hid (mgL L b = (o ++ r.take k) ++ r[k] :: r.drop (k + 1)) := by show _ = _; rw [hmg.out, List.append_assoc, List.getElem_cons_drop, List.take_append_drop]
        have htk : Hid (o ++ r.take k ++ [r[k]] = o ++ r.take (k + 1)) := by show _ = _; rw [List.take_succ_eq_append_getElem hlt', List.append_assoc]
        unfold ei at d1
        generalize r[k] = x at *
        have cy := (hb.blk (W.heap.size, .func (.yield l) #[] #[], 43) (by simp)).cell 0
        simp at cy
        obtain ⟨fn, tmps, assign, body, hy, hR⟩ := HY.out _ _ x _ wr hsp.out hb.j (by
          intro k hk
          rcases List.mem_append.1 hk with h1 | h1
          · obtain ⟨b, hb', rfl⟩ := List.mem_map.1 h1
            exact (hb.blk b hb').lt
          · exact hX k h1) hb.kept
        dsimp only [ei] at hy
        have HR := Lib.hid hR
        have HB := Lib.hid hb
        have HXw := Lib.hid hX
        have HKw := Lib.hid hK
        clear hR hb hX hlt' hK cl
        gi_wp2
        refine ⟨rfl, ?_⟩
        refine RoundIn.mono (show RoundIn _ _ _ _ _ _ _ _ _ _ from HR.out) ?_
        rintro e V2 ⟨hs2, hk2, (⟨rfl, hj2⟩ | ⟨rfl, hj2⟩)⟩
        · obtain ⟨T, kk⟩ := HB.out.turn0 hs2 hk2 hj2
          rw [htk.out] at T
          have TT := Lib.hid T
          have KD : Hid (V2.heap[D]? = some (.deferred (some []))) := (kk D (List.mem_append_right _ HD.out)).trans HKw.out
          have X2 : Hid (∀ q ∈ X, q < V2.heap.size) := fun q hq => Nat.lt_of_lt_of_le (HXw.out q hq) hs2
          clear T kk hj2 hk2 hs2
          gi_wp2
          go_roundw
          case rel => exact ⟨k + 1, by go_num, hlt, TT.out, KD.out, X2.out⟩
          case measure => simp [intOf]; omega
        · have KD : V2.heap[D]? = some (.deferred (some [])) := (hk2 D (List.mem_append_right _ (List.mem_append_right _ HD.out))).trans HKw.out
          have HJ2 := Lib.hid hj2
          clear hj2 hk2 hs2
          gi_wp2
          refine ⟨by simp, .inl ⟨_, _, rfl, run_takeDeferred KD, ?_⟩⟩
          refine ⟨_, results_none rfl _ _ _, ⟨_, rfl⟩, .inr ⟨_, ?_, HJx.out _ _ _ _ _ HJ2.out ((Mod.refl _ _).putObj _ _ (fun _ => by simp [HD.out])) (by simp)⟩⟩
          rw [hsp.out]; exact ⟨_, by rw [List.append_assoc]; rfl⟩
      · obtain rfl : k = m1 := by omega
        have hall : Hid (o ++ r.take k = mgL L b) := by show _ = _; rw [hmg.out, List.take_of_length_le (by rw [HM1.out]; exact Nat.le_refl _)]
        have HB := Lib.hid hb
        clear hb hX cl
        gi_wp2
        refine ⟨by simp, .inl ⟨_, _, rfl, run_takeDeferred hK, ?_⟩⟩
        refine ⟨_, results_none rfl _ _ _, ⟨_, rfl⟩, .inl ?_⟩
        rw [← hall.out]
        exact HB.out.out HJ.out ((Mod.refl _ _).putObj _ _ (fun _ => HD.out))
  case stop =>
    rintro D X c pre V hD hab hpre ⟨rfl, hz, o, ho, hj⟩ hkR hK
    gi_wp2
    refine ⟨by simp, .inl ⟨_, _, rfl, run_takeDeferred hK, ?_⟩⟩
    refine ⟨_, results_none rfl _ _ _, ⟨_, rfl⟩, ?_⟩
    have m : Mod (W.heap.size :: (W.heap.size + 1) :: X) V (V.putObj D (.deferred none)) := (Mod.refl _ _).putObj _ _ (fun _ => by simp [hD])
    exact .inr ⟨o, ho, HJx.out _ _ _ _ _ hj m (by simp)⟩
end Go.Proofs.Ytchbgnfmmplinaa

/- Every's iterator. -/
import Derived.Test.YtchbgnfmmplinaaL
set_option linter.unusedVariables false
set_option linter.unusedSimpArgs false
namespace Go.Proofs.Ytchbgnfmmplinaa
open Go.RowKit Go.Shelf
attribute [local go_sem] Oper.semAt_some

/-- What Every hands back: what stands at multiples of n. -/
def ev (L : List Int) (n : Nat) : List Int := (L.zipIdx.filter fun p => decide (p.2 % n = 0)).map (·.1)
theorem ev_append (A B : List Int) (n : Nat) : ev (A ++ B) n = ev A n ++ ((B.zipIdx A.length).filter fun p => decide (p.2 % n = 0)).map (·.1) := by
  simp [ev, List.zipIdx_append]
theorem ev_hit {pre : List Int} {n : Nat} (x : Int) (h : pre.length % n = 0) : ev (pre ++ [x]) n = ev pre n ++ [x] := by
  rw [ev_append]; simp [List.zipIdx_cons, h]
theorem ev_miss {pre : List Int} {n : Nat} (x : Int) (h : pre.length % n ≠ 0) : ev (pre ++ [x]) n = ev pre n := by
  rw [ev_append]; simp [List.zipIdx_cons, h]
theorem ev_pre {L pre rest : List Int} {x : Int} {n : Nat} (h : L = pre ++ x :: rest) (h0 : pre.length % n = 0) : ∃ rest', ev L n = ev pre n ++ x :: rest' := by
  subst h
  rw [ev_append]
  exact ⟨_, by simp [List.zipIdx_cons, h0]; rfl⟩
theorem ev_isPre {pre L : List Int} (h : pre <+: L) (n : Nat) : ev pre n <+: ev L n := by
  obtain ⟨t, rfl⟩ := h
  rw [ev_append]; exact List.prefix_append _ _

/-- How many are still to be left out, behind k. -/
def lf (n k : Nat) : Nat := (n - k % n) % n
theorem lf_zero {n : Nat} (hn : 0 < n) (k : Nat) : lf n k = 0 ↔ k % n = 0 := by
  have hk := Nat.mod_lt k hn
  unfold lf
  by_cases h : k % n = 0
  · simp [h]
  · rw [Nat.mod_eq_of_lt (by omega)]; omega
theorem succ_mod {n : Nat} (hn : 0 < n) (k : Nat) : (k + 1) % n = if k % n + 1 = n then 0 else k % n + 1 := by
  have hk := Nat.mod_lt k hn
  rw [Nat.add_mod]
  by_cases h1 : n = 1
  · subst h1; simp [Nat.mod_one]
  · rw [Nat.mod_eq_of_lt (show 1 < n by omega)]
    split
    · next e => rw [e, Nat.mod_self]
    · exact Nat.mod_eq_of_lt (by omega)
theorem lf_next {n : Nat} (hn : 0 < n) (k : Nat) : lf n (k + 1) = if k % n = 0 then n - 1 else lf n k - 1 := by
  have hk := Nat.mod_lt k hn
  unfold lf
  rw [succ_mod hn]
  by_cases h : k % n = 0
  · rw [if_pos h, h]
    by_cases h1 : n = 1
    · subst h1; simp
    · rw [if_neg (by omega), Nat.mod_eq_of_lt (by omega)]
  · rw [if_neg h, Nat.mod_eq_of_lt (show n - k % n < n by omega)]
    split
    · simp; omega
    · rw [Nat.mod_eq_of_lt (by omega)]; omega

/-- A store into the second box. -/
theorem Bx.put {β : Type} {R : List Nat} {w W : World} {y b : Nat} {yv v : Value} {yt t : Nat} {J : List Nat → β → World → Prop} {X : List Nat} {s : β} {V : World} (h : Bx R w W [(y, yv, yt), (b, v, t)] J X s V) (hJ : Stable J) (hR : ∀ k ∈ R, k < W.heap.size)
    (hX : ∀ k ∈ X, k < V.heap.size) (hne : y ≠ b) (v' : Value) : Bx R w W [(y, yv, yt), (b, v', t)] J X s (V.setCell ⟨b, 0, none⟩ v') ∧ Keep (R ++ X) V (V.setCell ⟨b, 0, none⟩ v') := by
  obtain ⟨hJ1, hX1, hk1⟩ := h.at1 hJ hR hX v'
  exact h.turn2 (V2 := V.setCell ⟨b, 0, none⟩ v') hne hR (by simp) (fun _ _ => rfl) hJ1

set_option maxRecDepth 100000 in
set_option maxHeartbeats 4000000 in
theorem everyI_pos {sv : Value} {g : Nat} {lb : Array Value} (hsv : NoneTo sv g lb) {R : List Nat} {L : List Int} {w : World} (hs : Seq Try.prog g lb ei R L w) {bn bs : Nat} {n : Nat} (hn : 0 < n) (hn2 : n ≤ 9223372036854775807) (hbn : Blk w bn #[.int .i64 n] 3) (hbs : Blk w bs #[sv] 26) :
    Seq Try.prog 31 #[.pointer (some ⟨bn, 0, none⟩), .pointer (some ⟨bs, 0, none⟩)] ei (bn :: bs :: R) (ev L n) w := by
  have HN2 := Lib.hid hn2
  clear hn2
  refine ⟨?_, enters_of Try.func31 (by kernel_rfl) rfl, ?_⟩
  · intro k hk
    simp only [List.mem_cons] at hk
    rcases hk with rfl | rfl | hk
    · exact hbn.lt
    · exact hbs.lt
    · exact hs.1 k hk
  intro l J Jx W hW hkW hJ hJx hY h0
  have hRl : ∀ k ∈ bn :: bs :: R, k < W.heap.size := by
    intro k hk
    simp only [List.mem_cons] at hk
    rcases hk with rfl | rfl | hk
    · exact Nat.lt_of_lt_of_le hbn.lt hW
    · exact Nat.lt_of_lt_of_le hbs.lt hW
    · exact Nat.lt_of_lt_of_le (hs.1 k hk) hW
  have cn := (hbn.keep hkW (by simp)).cell 0
  have cs := (hbs.keep hkW (by simp)).cell 0
  simp at cn cs
  have hbn1 : bn < W.heap.size := hRl bn (by simp)
  have hbs1 : bs < W.heap.size := hRl bs (by simp)
  have HS := Lib.hid hs
  have HRl := Lib.hid hRl
  have HKW := Lib.hid hkW
  have HJ := Lib.hid hJ
  have HJx := Lib.hid hJx
  have HY := Lib.hid hY
  have H0 := Lib.hid h0
  have HBN := Lib.hid hbn
  clear hRl hkW hJ hJx hY h0 hs hbn hbs
  refine (callsIn_wide (n := 0)).1 (callsIn_of_wp_marks Try.func31 rfl trivial ?_ rfl)
  simp only [Try.ntmps31, List.size_toArray, List.length_cons, List.length_nil, Nat.reduceAdd, Nat.reduceSub, Array.replicate_succ, Array.replicate_zero, List.push_toArray, List.append_toArray, List.nil_append, List.cons_append]
  have h1n : ¬ ((n : Int) < 1) := by omega
  gi_wp2
  refine ⟨trivial, rfl, ?_⟩
  refine ((callsIn_wide (n := 0)).2 (hsv.2 _)).mono ?_
  rintro e w' ⟨rfl, rfl⟩
  gi_wp2
  have Y1 : Hid (Bx (bn :: bs :: R) w W [(W.heap.size, .func (.yield l) #[] #[], 43), (W.heap.size + 1, .int .i64 0, 3)] J [] [] ((W.alloc (.cells #[.func (.yield l) #[] #[]] 43)).alloc (.cells #[.int .i64 0] 3))) := by
    have m : Mod [] W ((W.alloc (.cells #[.func (.yield l) #[] #[]] 43)).alloc (.cells #[.int .i64 0] 3)) := ((Mod.refl _ _).alloc _).alloc _
    refine ⟨HJ.out _ _ _ _ _ H0.out m (by simp; omega), ?_, by simp, by simp, HKW.out.trans (m.keep fun k hk => ⟨HRl.out k hk, by simp⟩), by simp, m.size⟩
    intro c hc
    simp only [List.mem_cons, List.not_mem_nil, or_false] at hc
    rcases hc with rfl | rfl
    · exact (Blk.new _ _ _).alloc _
    · simpa using Blk.new' (W.alloc (.cells #[.func (.yield l) #[] #[]] 43)) #[.int .i64 0] 3 (W.heap.size + 1) (by simp)
  have HS1 : Hid (Seq Try.prog g lb ei R L ((W.alloc (.cells #[.func (.yield l) #[] #[]] 43)).alloc (.cells #[.int .i64 0] 3))) :=
    HS.out.later (Nat.le_trans hW Y1.out.size) (fun k hk => Y1.out.kept k (by simp [hk]))
  have hsz1 : ((W.alloc (.cells #[.func (.yield l) #[] #[]] 43)).alloc (.cells #[.int .i64 0] 3)).heap.size = W.heap.size + 2 := by simp
  generalize (W.alloc (.cells #[.func (.yield l) #[] #[]] 43)).alloc (.cells #[.int .i64 0] 3) = W1 at *
  refine wpIn_range (gf := g) (lb := lb) rfl HS1.out rfl
    (fun X pre V => Bx (bn :: bs :: R) w W [(W.heap.size, .func (.yield l) #[] #[], 43), (W.heap.size + 1, .int .i64 (lf n pre.length : Nat), 3)] J X (ev pre n) V)
    (fun c X pre V => c = .ret ∧ W.heap.size + 1 < V.heap.size ∧ Jx (W.heap.size :: (W.heap.size + 1) :: X) (ev pre n) V)
    ?sI ?sIx (by simpa [lf, ev] using Y1.out)
    (fun x => { tmps := #[.func (.yield l) #[] #[], .pointer (some ⟨bn, 0, none⟩), .pointer (some ⟨bs, 0, none⟩), .pointer (some ⟨W.heap.size, 0, none⟩), .pointer (some ⟨W.heap.size + 1, 0, none⟩), .int .i64 x, .int .i64 n, .bool false, sv, .func (.func g) #[] lb, .int .i64 x, undef, undef, undef, undef, undef, undef, undef, undef, undef], defers := [] })
    ?assign ?body ?done ?stop
  case sI => exact fun X X' s A B h1 m hX => h1.step HJ.out HRl.out m hX
  case sIx =>
    intro c X X' s A B ⟨h1, h2, h3⟩ m hX
    have hz := m.size
    have e1 : ∀ k ∈ W.heap.size :: (W.heap.size + 1) :: X', (k ∈ W.heap.size :: (W.heap.size + 1) :: X ∨ A.heap.size ≤ k) ∧ k < B.heap.size := by
      intro k hk
      simp only [List.mem_cons] at hk ⊢
      rcases hk with rfl | rfl | hk
      · exact ⟨.inl (.inl rfl), by omega⟩
      · exact ⟨.inl (.inr (.inl rfl)), by omega⟩
      · obtain ⟨q1, q2⟩ := hX k hk
        exact ⟨q1.imp (fun q => .inr (.inr q)) id, q2⟩
    have e2 : Mod (W.heap.size :: (W.heap.size + 1) :: X) A B := m.mono fun k _ hk => by simp [hk]
    exact ⟨h1, by omega, HJx.out _ _ _ _ _ h3 e2 e1⟩
  case assign =>
    intro l2 x V K hK
    gi_wp2
    exact hK
  case body =>
    rintro l2 X pre x rest V hL hb hX hkR
    have hRsub : ∀ k ∈ R, k ∈ bn :: bs :: R := fun k hk => by simp [hk]
    have hsub2 : Hid (∀ k, k ∈ R ++ X → k ∈ (bn :: bs :: R) ++ X) := fun k hk => by
      rcases List.mem_append.1 hk with h1 | h1
      · exact List.mem_append_left _ (hRsub k h1)
      · exact List.mem_append_right _ h1
    have hn9 := HN2.out
    have hz := lf_zero hn pre.length
    have hcv3 : lf n pre.length ≤ n := by unfold lf; exact Nat.le_of_lt (Nat.mod_lt _ hn)
    have hnx : lf n (pre ++ [x]).length = if pre.length % n = 0 then n - 1 else lf n pre.length - 1 := by
      rw [List.length_append, List.length_singleton]; exact lf_next hn _
    generalize lf n pre.length = q at *
    have cy := (hb.blk (W.heap.size, .func (.yield l) #[] #[], 43) (by simp)).cell 0
    have cl := (hb.blk (W.heap.size + 1, .int .i64 q, 3) (by simp)).cell 0
    have fl := (hb.blk (W.heap.size + 1, .int .i64 q, 3) (by simp)).froz 0
    simp at cy cl fl
    by_cases hm : pre.length % n = 0
    · obtain ⟨rest', hev⟩ := ev_pre hL hm
      obtain ⟨fn, tmps, assign, body, hy, hR⟩ := HY.out _ (ev pre n) x rest' V hev hb.j (by
        intro k hk
        rcases List.mem_append.1 hk with h1 | h1
        · obtain ⟨b, hb', rfl⟩ := List.mem_map.1 h1
          exact (hb.blk b hb').lt
        · exact hX k h1) hb.kept
      dsimp only [ei] at hy
      have HR := Lib.hid hR
      have HB := Lib.hid hb
      have HX := Lib.hid hX
      have dr : Hid (ev (pre ++ [x]) n = ev pre n ++ [x]) := ev_hit x hm
      rw [if_pos hm] at hnx
      have NX := Lib.hid hnx
      have q0 := hz.2 hm
      have b0 : ((q : Int) == 0) = true := by rw [beq_iff_eq]; omega
      clear hR hb hX hkR hm hL hnx hz hcv3 hev q0
      gi_wp2
      refine ⟨rfl, ?_⟩
      refine RoundIn.mono (show RoundIn (Fence.wide.inRound l2) _ _ _ _ _ _ _ _ _ from HR.out) ?_
      rintro e V2 ⟨hs2, hk2, (⟨rfl, hj2⟩ | ⟨rfl, hj2⟩)⟩
      · obtain ⟨T, kk⟩ := HB.out.turn0 hs2 hk2 hj2
        rw [← dr.out] at T
        obtain ⟨T1, k1⟩ := T.put HJ.out HRl.out (fun k hk => Nat.lt_of_lt_of_le (HX.out k hk) hs2) (by omega) (.int .i64 n)
        obtain ⟨T2, k2⟩ := T1.put HJ.out HRl.out (fun k hk => by simpa using Nat.lt_of_lt_of_le (HX.out k hk) hs2) (by omega) (.int .i64 ((n : Int) - 1))
        have cn2 := (HBN.out.keep T.kept (by simp)).cell 0
        have cl2 := (T.blk (W.heap.size + 1, .int .i64 q, 3) (by simp)).cell 0
        have fl2 := (T.blk (W.heap.size + 1, .int .i64 q, 3) (by simp)).froz 0
        simp at cn2 cl2 fl2
        have TT : Hid (Bx (bn :: bs :: R) w W [(W.heap.size, .func (.yield l) #[] #[], 43), (W.heap.size + 1, .int .i64 (lf n (pre ++ [x]).length : Nat), 3)] J X (ev (pre ++ [x]) n) ((V2.setCell ⟨W.heap.size + 1, 0, none⟩ (.int .i64 n)).setCell ⟨W.heap.size + 1, 0, none⟩ (.int .i64 ((n : Int) - 1)))) := by
          show Bx _ _ _ _ _ _ _ _
          rw [NX.out, show ((n - 1 : Nat) : Int) = (n : Int) - 1 by omega]; exact T2
        have KK := Lib.hid (((kk.trans k1).trans k2).mono' hsub2.out)
        clear T T1 T2 kk k1 k2 hj2 hk2
        gi_wp2
        exact ⟨by simpa using hs2, KK.out, TT.out⟩
      · have KK : Hid (Keep (R ++ X) V V2) := (hk2.mono' (Y := (bn :: bs :: R) ++ X) (fun k hk => by
          rcases List.mem_append.1 hk with h1 | h1
          · exact List.mem_append_left _ h1
          · exact List.mem_append_right _ (List.mem_append_right _ h1))).mono' hsub2.out
        have hzb : W.heap.size + 1 < V2.heap.size := Nat.lt_of_lt_of_le (HB.out.blk (W.heap.size + 1, .int .i64 q, 3) (by simp)).lt hs2
        have HJ2 := Lib.hid hj2
        clear hj2 hk2
        gi_wp2
        exact ⟨hs2, KK.out, rfl, hzb, by rw [dr.out]; exact HJ2.out⟩
    · have dr : ev (pre ++ [x]) n = ev pre n := ev_miss x hm
      rw [if_neg hm] at hnx
      have q0 : q ≠ 0 := fun e => hm (hz.1 e)
      have b0 : ((q : Int) == 0) = false := by rw [beq_eq_false_iff_ne]; omega
      obtain ⟨T, kk⟩ := hb.put HJ.out HRl.out hX (by omega) (.int .i64 ((q : Int) - 1))
      have TT : Hid (Bx (bn :: bs :: R) w W [(W.heap.size, .func (.yield l) #[] #[], 43), (W.heap.size + 1, .int .i64 (lf n (pre ++ [x]).length : Nat), 3)] J X (ev (pre ++ [x]) n) (V.setCell ⟨W.heap.size + 1, 0, none⟩ (.int .i64 ((q : Int) - 1)))) := by
        show Bx _ _ _ _ _ _ _ _
        rw [dr, hnx, show ((q - 1 : Nat) : Int) = (q : Int) - 1 by omega]; exact T
      have KK := Lib.hid (kk.mono' hsub2.out)
      clear T kk hb hX hkR dr hm hL hz hnx
      gi_wp2
      exact ⟨by simp, KK.out, TT.out⟩
  case done =>
    rintro D X V hD hab hb hkR hK
    gi_wp2
    refine ⟨by simp, .inl ⟨_, _, rfl, run_takeDeferred hK, ?_⟩⟩
    refine ⟨_, results_none rfl _ _ _, ⟨_, rfl⟩, .inl ?_⟩
    exact hb.out HJ.out ((Mod.refl _ _).putObj _ _ (fun _ => hD))
  case stop =>
    rintro D X c pre V hD hab hpre ⟨rfl, hz, hj⟩ hkR hK
    gi_wp2
    refine ⟨by simp, .inl ⟨_, _, rfl, run_takeDeferred hK, ?_⟩⟩
    refine ⟨_, results_none rfl _ _ _, ⟨_, rfl⟩, ?_⟩
    have m : Mod (W.heap.size :: (W.heap.size + 1) :: X) V (V.putObj D (.deferred none)) := (Mod.refl _ _).putObj _ _ (fun _ => by simp [hD])
    exact .inr ⟨_, ev_isPre hpre n, HJx.out _ _ _ _ _ hj m (by simp)⟩

theorem everyI_none {sv : Value} {g : Nat} {lb : Array Value} (hsv : NoneTo sv g lb) {R : List Nat} {L : List Int} {w : World} (hs : Seq Try.prog g lb ei R L w) {bn bs : Nat} {n : Int} (hn : n < 1) (hbn : Blk w bn #[.int .i64 n] 3) (hbs : Blk w bs #[sv] 26) :
    Seq Try.prog 31 #[.pointer (some ⟨bn, 0, none⟩), .pointer (some ⟨bs, 0, none⟩)] ei (bn :: bs :: R) ([] : List Int) w := by
  refine ⟨?_, enters_of Try.func31 (by kernel_rfl) rfl, ?_⟩
  · intro k hk
    simp only [List.mem_cons] at hk
    rcases hk with rfl | rfl | hk
    · exact hbn.lt
    · exact hbs.lt
    · exact hs.1 k hk
  intro l J Jx W hW hkW hJ hJx hY h0
  have cn := (hbn.keep hkW (by simp)).cell 0
  simp at cn
  have hbn1 : bn < W.heap.size := Nat.lt_of_lt_of_le hbn.lt hW
  have HJ := Lib.hid hJ
  have H0 := Lib.hid h0
  clear hkW hJ hJx hY h0 hs hbn hbs
  refine (callsIn_wide (n := 0)).1 (callsIn_of_wp_marks Try.func31 rfl trivial ?_ rfl)
  simp only [Try.ntmps31, List.size_toArray, List.length_cons, List.length_nil, Nat.reduceAdd, Nat.reduceSub, Array.replicate_succ, Array.replicate_zero, List.push_toArray, List.append_toArray, List.nil_append, List.cons_append]
  gi_wp2
  refine ⟨_, results_none rfl _ _ _, ⟨_, rfl⟩, .inl ?_⟩
  exact HJ.out _ _ _ _ _ H0.out ((Mod.refl _ _).alloc _) (by simp)

/-- What Every hands back. -/
def evL (L : List Int) (n : Int) : List Int := if n < 1 then [] else ev L n.toNat
theorem everyI {sv : Value} {g : Nat} {lb : Array Value} (hsv : NoneTo sv g lb) {R : List Nat} {L : List Int} {w : World} (hs : Seq Try.prog g lb ei R L w) {bn bs : Nat} {n : Int} (hn2 : I64 n) (hbn : Blk w bn #[.int .i64 n] 3) (hbs : Blk w bs #[sv] 26) :
    Seq Try.prog 31 #[.pointer (some ⟨bn, 0, none⟩), .pointer (some ⟨bs, 0, none⟩)] ei (bn :: bs :: R) (evL L n) w := by
  unfold evL
  by_cases h : n < 1
  · rw [if_pos h]; exact everyI_none hsv hs h hbn hbs
  · rw [if_neg h]
    obtain ⟨m, rfl⟩ := Int.eq_ofNat_of_zero_le (by omega : 0 ≤ n)
    exact everyI_pos hsv hs (by omega) (by have := hn2.2; omega) hbn hbs

theorem every_mk (s : Value) (n : Int) (hs : s.oneCell' = true) (w : World) : Calls Try.prog 18 #[s, .int .i64 n] w fun e w' => e = .returned (.func (.func 31) #[] #[.pointer (some ⟨w.heap.size + 1, 0, none⟩), .pointer (some ⟨w.heap.size, 0, none⟩)]) ∧ w' = (w.alloc (.cells #[s] 26)).alloc (.cells #[.int .i64 n] 3) := by
  go_enter Try.func18, Try.ntmps18
  go_wp2
  go_ret
  exact ⟨rfl, rfl⟩

/-- Every, called: a new iterator, in a world where nothing that lay has turned. -/
theorem every_v {sv : Value} {g : Nat} {lb : Array Value} {R : List Nat} {L : List Int} {w : World} (hsv : NoneTo sv g lb) (hs : Seq Try.prog g lb ei R L w) (n : Int) (hn2 : I64 n) :
    Calls Try.prog 18 #[sv, .int .i64 n] w fun e w' => ∃ lb', e = .returned (.func (.func 31) #[] lb') ∧ (∃ R', Seq Try.prog 31 lb' ei R' (evL L n) w' ∧ ∀ k ∈ R', k ∈ R ∨ w.heap.size ≤ k) ∧ Mod [] w w' := by
  refine (every_mk _ n hsv.1 w).mono ?_
  rintro e w' ⟨rfl, rfl⟩
  have m : Mod [] w ((w.alloc (.cells #[sv] 26)).alloc (.cells #[.int .i64 n] 3)) := ((Mod.refl _ _).alloc _).alloc _
  refine ⟨_, rfl, ⟨_, everyI hsv (hs.mod m (by simp)) hn2 (Blk.new' _ _ _ _ (by simp)) ((Blk.new _ _ _).alloc _), fun k hk => ?_⟩, m⟩
  simp only [List.mem_cons, World.size_alloc] at hk
  rcases hk with rfl | rfl | hk
  · exact .inr (by omega)
  · exact .inr (Nat.le_refl _)
  · exact .inl hk
theorem every_c {g : Nat} {lb : Array Value} {R : List Nat} {L : List Int} {w : World} (hs : Seq Try.prog g lb ei R L w) (n : Int) (hn2 : I64 n) :
    Calls Try.prog 18 #[.func (.func g) #[] lb, .int .i64 n] w fun e w' => ∃ lb', e = .returned (.func (.func 31) #[] lb') ∧ (∃ R', Seq Try.prog 31 lb' ei R' (evL L n) w' ∧ ∀ k ∈ R', k ∈ R ∨ w.heap.size ≤ k) ∧ Mod [] w w' := every_v (.func g lb) hs n hn2
end Go.Proofs.Ytchbgnfmmplinaa

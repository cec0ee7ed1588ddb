/- Skip's iterator. -/
import Derived.Test.YtchbgnfmmplinaaI
set_option linter.unusedVariables false
set_option linter.unusedSimpArgs false
namespace Go.Proofs.Ytchbgnfmmplinaa
open Go.RowKit Go.Shelf
attribute [local go_sem] Oper.semAt_some

theorem Bx.turn0 {β : Type} {R : List Nat} {w W : World} {bs : List (Nat × Value × Nat)} {J : List Nat → β → World → Prop} {X : List Nat} {s s' : β} {V V2 : World} (h : Bx R w W bs J X s V)
    (hs : V.heap.size ≤ V2.heap.size) (hk : Keep (R ++ (bs.map (·.1) ++ X)) V V2) (hj : J (bs.map (·.1) ++ X) s' V2) : Bx R w W bs J X s' V2 ∧ Keep (R ++ X) V V2 := by
  refine ⟨⟨hj, fun b hb => (h.blk b hb).keep hk (List.mem_append_right _ (List.mem_append_left _ (List.mem_map.2 ⟨b, hb, rfl⟩))), h.new, h.nx, h.kept.trans (hk.mono' fun k hk' => List.mem_append_left _ hk'), h.above, Nat.le_trans h.size hs⟩, hk.mono' fun k hk' => ?_⟩
  rcases List.mem_append.1 hk' with h1 | h1
  · exact List.mem_append_left _ h1
  · exact List.mem_append_right _ (List.mem_append_right _ h1)

theorem drop_pre {L pre rest : List Int} {x : Int} {N : Nat} (h : L = pre ++ x :: rest) (hN : N ≤ pre.length) : L.drop N = pre.drop N ++ x :: rest := by
  subst h
  exact List.drop_append_of_le_length hN

theorem drop_isPre {pre L : List Int} (h : pre <+: L) (N : Nat) : pre.drop N <+: L.drop N := by
  obtain ⟨t, rfl⟩ := h
  rw [List.drop_append]; exact List.prefix_append _ _

/-- What Skip hands back: all but the first n. -/
def sk (L : List Int) (n : Int) : List Int := L.drop n.toNat

set_option maxRecDepth 100000 in
set_option maxHeartbeats 4000000 in
theorem skipI {sv : Value} {g : Nat} {lb : Array Value} (hsv : NoneTo sv g lb) {R : List Nat} {L : List Int} {w : World} (hs : Seq Try.prog g lb ei R L w) {bn bs : Nat} {n : Int} (hn2 : I64 n) (hbn : Blk w bn #[.int .i64 n] 3) (hbs : Blk w bs #[sv] 26) :
    Seq Try.prog 30 #[.pointer (some ⟨bn, 0, none⟩), .pointer (some ⟨bs, 0, none⟩)] ei (bn :: bs :: R) (sk L n) w := by
  have HN2 := Lib.hid hn2
  clear hn2
  refine ⟨?_, enters_of Try.func30 (by kernel_rfl) rfl, ?_⟩
  · intro k hk
    simp only [List.mem_cons] at hk
    rcases hk with rfl | rfl | hk
    · exact hbn.lt
    · exact hbs.lt
    · exact hs.1 k hk
  intro l J Jx W hW hkW hJ hJx hY h0
  have hRl : ∀ k ∈ bn :: bs :: R, k < W.heap.size := by
    intro k hk
    simp only [List.mem_cons] at hk
    rcases hk with rfl | rfl | hk
    · exact Nat.lt_of_lt_of_le hbn.lt hW
    · exact Nat.lt_of_lt_of_le hbs.lt hW
    · exact Nat.lt_of_lt_of_le (hs.1 k hk) hW
  have cn := (hbn.keep hkW (by simp)).cell 0
  have cs := (hbs.keep hkW (by simp)).cell 0
  simp at cn cs
  have hbn1 : bn < W.heap.size := hRl bn (by simp)
  have hbs1 : bs < W.heap.size := hRl bs (by simp)
  have HS := Lib.hid hs
  have HRl := Lib.hid hRl
  have HKW := Lib.hid hkW
  have HJ := Lib.hid hJ
  have HJx := Lib.hid hJx
  have HY := Lib.hid hY
  have H0 := Lib.hid h0
  clear hRl hkW hJ hJx hY h0 hs hbn hbs
  refine (callsIn_wide (n := 0)).1 (callsIn_of_wp_marks Try.func30 rfl trivial ?_ rfl)
  simp only [Try.ntmps30, List.size_toArray, List.length_cons, List.length_nil, Nat.reduceAdd, Nat.reduceSub, Array.replicate_succ, Array.replicate_zero, List.push_toArray, List.append_toArray, List.nil_append, List.cons_append]
  gi_wp2
  refine ⟨trivial, rfl, ?_⟩
  refine ((callsIn_wide (n := 0)).2 (hsv.2 _)).mono ?_
  rintro e w' ⟨rfl, rfl⟩
  gi_wp2
  have Y1 : Hid (Bx (bn :: bs :: R) w W [(W.heap.size, .func (.yield l) #[] #[], 43), (W.heap.size + 1, .int .i64 (n - (min 0 n.toNat : Nat)), 3)] J [] [] ((W.alloc (.cells #[.func (.yield l) #[] #[]] 43)).alloc (.cells #[.int .i64 n] 3))) := by
    have m : Mod [] W ((W.alloc (.cells #[.func (.yield l) #[] #[]] 43)).alloc (.cells #[.int .i64 n] 3)) := ((Mod.refl _ _).alloc _).alloc _
    refine ⟨HJ.out _ _ _ _ _ H0.out m (by simp; omega), ?_, by simp, by simp, HKW.out.trans (m.keep fun k hk => ⟨HRl.out k hk, by simp⟩), by simp, m.size⟩
    intro c hc
    simp only [List.mem_cons, List.not_mem_nil, or_false] at hc
    rcases hc with rfl | rfl
    · exact (Blk.new _ _ _).alloc _
    · simpa using Blk.new' (W.alloc (.cells #[.func (.yield l) #[] #[]] 43)) #[.int .i64 n] 3 (W.heap.size + 1) (by simp)
  have HS1 : Hid (Seq Try.prog g lb ei R L ((W.alloc (.cells #[.func (.yield l) #[] #[]] 43)).alloc (.cells #[.int .i64 n] 3))) :=
    HS.out.later (Nat.le_trans hW Y1.out.size) (fun k hk => Y1.out.kept k (by simp [hk]))
  have hsz1 : ((W.alloc (.cells #[.func (.yield l) #[] #[]] 43)).alloc (.cells #[.int .i64 n] 3)).heap.size = W.heap.size + 2 := by simp
  generalize (W.alloc (.cells #[.func (.yield l) #[] #[]] 43)).alloc (.cells #[.int .i64 n] 3) = W1 at *
  refine wpIn_range (gf := g) (lb := lb) rfl HS1.out rfl
    (fun X pre V => Bx (bn :: bs :: R) w W [(W.heap.size, .func (.yield l) #[] #[], 43), (W.heap.size + 1, .int .i64 (n - (min pre.length n.toNat : Nat)), 3)] J X (pre.drop n.toNat) V)
    (fun c X pre V => c = .ret ∧ W.heap.size + 1 < V.heap.size ∧ Jx (W.heap.size :: (W.heap.size + 1) :: X) (pre.drop n.toNat) V)
    ?sI ?sIx (by simpa using Y1.out)
    (fun x => { tmps := #[.func (.yield l) #[] #[], .pointer (some ⟨bn, 0, none⟩), .pointer (some ⟨bs, 0, none⟩), .pointer (some ⟨W.heap.size, 0, none⟩), .pointer (some ⟨W.heap.size + 1, 0, none⟩), .int .i64 x, .int .i64 n, sv, .func (.func g) #[] lb, .int .i64 x, undef, undef, undef, undef, undef, undef, undef, undef], defers := [] })
    ?assign ?body ?done ?stop
  case sI => exact fun X X' s A B h1 m hX => h1.step HJ.out HRl.out m hX
  case sIx =>
    intro c X X' s A B ⟨h1, h2, h3⟩ m hX
    have hz := m.size
    have e1 : ∀ k ∈ W.heap.size :: (W.heap.size + 1) :: X', (k ∈ W.heap.size :: (W.heap.size + 1) :: X ∨ A.heap.size ≤ k) ∧ k < B.heap.size := by
      intro k hk
      simp only [List.mem_cons] at hk ⊢
      rcases hk with rfl | rfl | hk
      · exact ⟨.inl (.inl rfl), by omega⟩
      · exact ⟨.inl (.inr (.inl rfl)), by omega⟩
      · obtain ⟨q1, q2⟩ := hX k hk
        exact ⟨q1.imp (fun q => .inr (.inr q)) id, q2⟩
    have e2 : Mod (W.heap.size :: (W.heap.size + 1) :: X) A B := m.mono fun k _ hk => by simp [hk]
    exact ⟨h1, by omega, HJx.out _ _ _ _ _ h3 e2 e1⟩
  case assign =>
    intro l2 x V K hK
    gi_wp2
    exact hK
  case body =>
    rintro l2 X pre x rest V hL hb hX hkR
    have hRsub : ∀ k ∈ R, k ∈ bn :: bs :: R := fun k hk => by simp [hk]
    have hcv1 : pre.length < n.toNat → 0 < n - (min pre.length n.toNat : Nat) := by omega
    have hcv2 : n.toNat ≤ pre.length → ¬ (0 < n - (min pre.length n.toNat : Nat)) := by omega
    have hcv3 : n - (min pre.length n.toNat : Nat) ≤ 9223372036854775807 := by have := HN2.out.2; omega
    have hcv4 : Hid (pre.length < n.toNat → n - (min pre.length n.toNat : Nat) - 1 = n - (min (pre ++ [x]).length n.toNat : Nat)) := fun h => by rw [List.length_append, List.length_singleton]; omega
    have hcv5 : Hid (n.toNat ≤ pre.length → n - (min pre.length n.toNat : Nat) = n - (min (pre ++ [x]).length n.toNat : Nat)) := fun h => by rw [List.length_append, List.length_singleton]; omega
    generalize n - (min pre.length n.toNat : Nat) = cv at *
    have cy := (hb.blk (W.heap.size, .func (.yield l) #[] #[], 43) (by simp)).cell 0
    have cl := (hb.blk (W.heap.size + 1, .int .i64 cv, 3) (by simp)).cell 0
    have fl := (hb.blk (W.heap.size + 1, .int .i64 cv, 3) (by simp)).froz 0
    simp at cy cl fl
    by_cases hlt : pre.length < n.toNat
    · have hpos := hcv1 hlt
      have dr : (pre ++ [x]).drop n.toNat = pre.drop n.toNat := by
        rw [List.drop_of_length_le (by rw [List.length_append, List.length_singleton]; omega), List.drop_of_length_le (by omega)]
      obtain ⟨hJ1, hX1, hk1⟩ := hb.at1 HJ.out HRl.out hX (.int .i64 (cv - 1))
      obtain ⟨T, kk⟩ := hb.turn2 (V2 := V.setCell ⟨W.heap.size + 1, 0, none⟩ (.int .i64 (cv - 1))) (by omega) HRl.out (by simp) (fun _ _ => rfl) hJ1
      have TT : Hid (Bx (bn :: bs :: R) w W [(W.heap.size, .func (.yield l) #[] #[], 43), (W.heap.size + 1, .int .i64 (n - (min (pre ++ [x]).length n.toNat : Nat)), 3)] J X ((pre ++ [x]).drop n.toNat) (V.setCell ⟨W.heap.size + 1, 0, none⟩ (.int .i64 (cv - 1)))) := by
        show Bx _ _ _ _ _ _ _ _
        rw [← hcv4.out hlt, dr]; exact T
      have KK : Hid (Keep (R ++ X) V (V.setCell ⟨W.heap.size + 1, 0, none⟩ (.int .i64 (cv - 1)))) := fun k hk => kk k (by
        rcases List.mem_append.1 hk with h1 | h1
        · exact List.mem_append_left _ (hRsub k h1)
        · exact List.mem_append_right _ h1)
      clear T kk hJ1 hX1 hk1 hb hX hkR dr hlt hcv1 hcv2 hL
      gi_wp2
      exact ⟨by simp, KK.out, TT.out⟩
    · have hno := hcv2 (by omega)
      have hge : n.toNat ≤ pre.length := by omega
      obtain ⟨fn, tmps, assign, body, hy, hR⟩ := HY.out _ (pre.drop n.toNat) x rest V (drop_pre hL hge) hb.j (by
        intro k hk
        rcases List.mem_append.1 hk with h1 | h1
        · obtain ⟨b, hb', rfl⟩ := List.mem_map.1 h1
          exact (hb.blk b hb').lt
        · exact hX k h1) hb.kept
      dsimp only [ei] at hy
      have HR := Lib.hid hR
      have HB := Lib.hid hb
      have dr : Hid ((pre ++ [x]).drop n.toNat = pre.drop n.toNat ++ [x]) := List.drop_append_of_le_length hge
      have hc5 := Lib.hid (hcv5.out hge)
      clear hR hb hX hkR hlt hcv1 hcv2 hL hge
      gi_wp2
      refine ⟨rfl, ?_⟩
      refine RoundIn.mono (show RoundIn (Fence.wide.inRound l2) _ _ _ _ _ _ _ _ _ from HR.out) ?_
      rintro e V2 ⟨hs2, hk2, (⟨rfl, hj2⟩ | ⟨rfl, hj2⟩)⟩
      · obtain ⟨T, kk⟩ := HB.out.turn0 hs2 hk2 hj2
        rw [← dr.out, hc5.out] at T
        have TT := Lib.hid T
        have KK : Hid (Keep (R ++ X) V V2) := fun k hk => kk k (by
          rcases List.mem_append.1 hk with h1 | h1
          · exact List.mem_append_left _ (hRsub k h1)
          · exact List.mem_append_right _ h1)
        clear T kk hj2 hk2
        gi_wp2
        exact ⟨hs2, KK.out, TT.out⟩
      · have KK : Hid (Keep (R ++ X) V V2) := hk2.mono' (fun k hk => by
          rcases List.mem_append.1 hk with h1 | h1
          · exact List.mem_append_left _ (hRsub k h1)
          · exact List.mem_append_right _ (List.mem_append_right _ h1))
        have hzb : W.heap.size + 1 < V2.heap.size := Nat.lt_of_lt_of_le (HB.out.blk (W.heap.size + 1, .int .i64 cv, 3) (by simp)).lt hs2
        have HJ2 := Lib.hid hj2
        clear hj2 hk2
        gi_wp2
        exact ⟨hs2, KK.out, rfl, hzb, by rw [dr.out]; exact HJ2.out⟩
  case done =>
    rintro D X V hD hab hb hkR hK
    gi_wp2
    refine ⟨by simp, .inl ⟨_, _, rfl, run_takeDeferred hK, ?_⟩⟩
    refine ⟨_, results_none rfl _ _ _, ⟨_, rfl⟩, .inl ?_⟩
    exact hb.out HJ.out ((Mod.refl _ _).putObj _ _ (fun _ => hD))
  case stop =>
    rintro D X c pre V hD hab hpre ⟨rfl, hz, hj⟩ hkR hK
    gi_wp2
    refine ⟨by simp, .inl ⟨_, _, rfl, run_takeDeferred hK, ?_⟩⟩
    refine ⟨_, results_none rfl _ _ _, ⟨_, rfl⟩, ?_⟩
    have m : Mod (W.heap.size :: (W.heap.size + 1) :: X) V (V.putObj D (.deferred none)) := (Mod.refl _ _).putObj _ _ (fun _ => by simp [hD])
    exact .inr ⟨_, drop_isPre hpre n.toNat, HJx.out _ _ _ _ _ hj m (by simp)⟩
theorem skip_mk (s : Value) (n : Int) (hs : s.oneCell' = true) (w : World) : Calls Try.prog 17 #[s, .int .i64 n] w fun e w' => e = .returned (.func (.func 30) #[] #[.pointer (some ⟨w.heap.size + 1, 0, none⟩), .pointer (some ⟨w.heap.size, 0, none⟩)]) ∧ w' = (w.alloc (.cells #[s] 26)).alloc (.cells #[.int .i64 n] 3) := by
  go_enter Try.func17, Try.ntmps17
  go_wp2
  go_ret
  exact ⟨rfl, rfl⟩

/-- Skip, called: a new iterator, in a world where nothing that lay has turned. -/
theorem skip_v {sv : Value} {g : Nat} {lb : Array Value} {R : List Nat} {L : List Int} {w : World} (hsv : NoneTo sv g lb) (hs : Seq Try.prog g lb ei R L w) (n : Int) (hn2 : I64 n) :
    Calls Try.prog 17 #[sv, .int .i64 n] w fun e w' => ∃ lb', e = .returned (.func (.func 30) #[] lb') ∧ (∃ R', Seq Try.prog 30 lb' ei R' (sk L n) w' ∧ ∀ k ∈ R', k ∈ R ∨ w.heap.size ≤ k) ∧ Mod [] w w' := by
  refine (skip_mk _ n hsv.1 w).mono ?_
  rintro e w' ⟨rfl, rfl⟩
  have m : Mod [] w ((w.alloc (.cells #[sv] 26)).alloc (.cells #[.int .i64 n] 3)) := ((Mod.refl _ _).alloc _).alloc _
  refine ⟨_, rfl, ⟨_, skipI hsv (hs.mod m (by simp)) hn2 (Blk.new' _ _ _ _ (by simp)) ((Blk.new _ _ _).alloc _), fun k hk => ?_⟩, m⟩
  simp only [List.mem_cons, World.size_alloc] at hk
  rcases hk with rfl | rfl | hk
  · exact .inr (by omega)
  · exact .inr (Nat.le_refl _)
  · exact .inl hk
theorem skip_c {g : Nat} {lb : Array Value} {R : List Nat} {L : List Int} {w : World} (hs : Seq Try.prog g lb ei R L w) (n : Int) (hn2 : I64 n) :
    Calls Try.prog 17 #[.func (.func g) #[] lb, .int .i64 n] w fun e w' => ∃ lb', e = .returned (.func (.func 30) #[] lb') ∧ (∃ R', Seq Try.prog 30 lb' ei R' (sk L n) w' ∧ ∀ k ∈ R', k ∈ R ∨ w.heap.size ≤ k) ∧ Mod [] w w' := skip_v (.func g lb) hs n hn2
end Go.Proofs.Ytchbgnfmmplinaa

/- Take's iterator. -/
import Derived.Test.YtlkakkgmjihlaaaQB
set_option linter.unusedVariables false
set_option linter.unusedSimpArgs false
namespace Go.Proofs.Ytlkakkgmjihlaaa
open Go.RowKit Go.Shelf
attribute [local go_sem] Oper.semAt_some

/-- Integers as values. -/
def ei (x : Int) : Value := .int .u32 x

theorem take_pre {L pre rest : List Int} {x : Int} {N : Nat} (h : L = pre ++ x :: rest) (hN : pre.length < N) : L.take N = pre ++ x :: rest.take (N - pre.length - 1) := by
  subst h
  rw [List.take_append, List.take_of_length_le (by omega)]
  congr 1
  have e : N - pre.length = (N - pre.length - 1) + 1 := by omega
  rw [e, List.take_succ_cons]
  simp
theorem take_full {L pre rest : List Int} {x : Int} {N : Nat} (h : L = pre ++ x :: rest) (hN : pre.length + 1 = N) : L.take N = pre ++ [x] := by
  rw [take_pre h (by omega)]
  have e : N - pre.length - 1 = 0 := by omega
  rw [e]; simp

set_option maxRecDepth 100000 in
set_option maxHeartbeats 4000000 in
theorem takeI_pos {sv : Value} {g : Nat} {lb : Array Value} (hsv : NoneTo sv g lb) {R : List Nat} {L : List Int} {w : World} (hs : Seq Try.prog g lb ei R L w) {bn bs : Nat} {n : Nat} (hn : 0 < n) (hn2 : n ≤ 9223372036854775807) (hbn : Blk w bn #[.int .i64 n] 3) (hbs : Blk w bs #[sv] 60) :
    Seq Try.prog 36 #[.pointer (some ⟨bn, 0, none⟩), .pointer (some ⟨bs, 0, none⟩)] ei (bn :: bs :: R) (L.take n) w := by
  have HN2 := Lib.hid hn2
  clear hn2
  refine ⟨?_, enters_of Try.func36 (by kernel_rfl) rfl, ?_⟩
  · intro k hk
    simp only [List.mem_cons] at hk
    rcases hk with rfl | rfl | hk
    · exact hbn.lt
    · exact hbs.lt
    · exact hs.1 k hk
  intro l J Jx W hW hkW hJ hJx hY h0
  have hRl : ∀ k ∈ bn :: bs :: R, k < W.heap.size := by
    intro k hk
    simp only [List.mem_cons] at hk
    rcases hk with rfl | rfl | hk
    · exact Nat.lt_of_lt_of_le hbn.lt hW
    · exact Nat.lt_of_lt_of_le hbs.lt hW
    · exact Nat.lt_of_lt_of_le (hs.1 k hk) hW
  have cn := (hbn.keep hkW (by simp)).cell 0
  have cs := (hbs.keep hkW (by simp)).cell 0
  simp at cn cs
  have hbn1 : bn < W.heap.size := hRl bn (by simp)
  have hbs1 : bs < W.heap.size := hRl bs (by simp)
  have HS := Lib.hid hs
  have HRl := Lib.hid hRl
  have HKW := Lib.hid hkW
  have HJ := Lib.hid hJ
  have HJx := Lib.hid hJx
  have HY := Lib.hid hY
  have H0 := Lib.hid h0
  clear hRl hkW hJ hJx hY h0 hs hbn hbs
  have h1n : ¬ ((n : Int) < 1) := by omega
  refine (callsIn_wide (n := 0)).1 (callsIn_of_wp_marks Try.func36 rfl trivial ?_ rfl)
  simp only [Try.ntmps36, List.size_toArray, List.length_cons, List.length_nil, Nat.reduceAdd, Nat.reduceSub, Array.replicate_succ, Array.replicate_zero, List.push_toArray, List.append_toArray, List.nil_append, List.cons_append]
  gi_wp2
  refine ⟨trivial, rfl, ?_⟩
  refine ((callsIn_wide (n := 0)).2 (hsv.2 _)).mono ?_
  rintro e w' ⟨rfl, rfl⟩
  gi_wp2
  have Y1 : Hid (Bx (bn :: bs :: R) w W [(W.heap.size, .func (.yield l) #[] #[], 31), (W.heap.size + 1, .int .i64 ((n : Int) - (0 : Nat)), 3)] J [] [] ((W.alloc (.cells #[.func (.yield l) #[] #[]] 31)).alloc (.cells #[.int .i64 n] 3))) := by
    have m : Mod [] W ((W.alloc (.cells #[.func (.yield l) #[] #[]] 31)).alloc (.cells #[.int .i64 n] 3)) := ((Mod.refl _ _).alloc _).alloc _
    refine ⟨HJ.out _ _ _ _ _ H0.out m (by simp; omega), ?_, by simp, by simp, HKW.out.trans (m.keep fun k hk => ⟨HRl.out k hk, by simp⟩), by simp, m.size⟩
    intro c hc
    simp only [List.mem_cons, List.not_mem_nil, or_false] at hc
    rcases hc with rfl | rfl
    · exact (Blk.new _ _ _).alloc _
    · simpa using Blk.new' (W.alloc (.cells #[.func (.yield l) #[] #[]] 31)) #[.int .i64 n] 3 (W.heap.size + 1) (by simp)
  have HS1 : Hid (Seq Try.prog g lb ei R L ((W.alloc (.cells #[.func (.yield l) #[] #[]] 31)).alloc (.cells #[.int .i64 n] 3))) :=
    HS.out.later (Nat.le_trans hW Y1.out.size) (fun k hk => Y1.out.kept k (by simp [hk]))
  have hsz1 : ((W.alloc (.cells #[.func (.yield l) #[] #[]] 31)).alloc (.cells #[.int .i64 n] 3)).heap.size = W.heap.size + 2 := by simp
  generalize (W.alloc (.cells #[.func (.yield l) #[] #[]] 31)).alloc (.cells #[.int .i64 n] 3) = W1 at *
  refine wpIn_range (gf := g) (lb := lb) rfl HS1.out rfl
    (fun X pre V => Bx (bn :: bs :: R) w W [(W.heap.size, .func (.yield l) #[] #[], 31), (W.heap.size + 1, .int .i64 ((n : Int) - (pre.length : Nat)), 3)] J X pre V ∧ pre.length < n)
    (fun c X pre V => c = .ret ∧ (W.heap.size + 1 < V.heap.size ∧ pre.length ≤ n) ∧ ((J (W.heap.size :: (W.heap.size + 1) :: X) pre V ∧ pre = L.take n) ∨ Jx (W.heap.size :: (W.heap.size + 1) :: X) pre V))
    ?sI ?sIx ⟨Y1.out, hn⟩
    (fun x => { tmps := #[.func (.yield l) #[] #[], .pointer (some ⟨bn, 0, none⟩), .pointer (some ⟨bs, 0, none⟩), .pointer (some ⟨W.heap.size, 0, none⟩), .pointer (some ⟨W.heap.size + 1, 0, none⟩), .int .u32 x, .int .i64 n, .int .i64 n, .bool false, sv, .func (.func g) #[] lb, .int .u32 x, undef, undef, undef, undef, undef, undef, undef, undef, undef, undef], defers := [] })
    ?assign ?body ?done ?stop
  case sI => exact fun X X' s A B ⟨h1, h2⟩ m hX => ⟨h1.step HJ.out HRl.out m hX, h2⟩
  case sIx =>
    intro c X X' s A B ⟨h1, h2, h3⟩ m hX
    have hz := m.size
    have e1 : ∀ k ∈ W.heap.size :: (W.heap.size + 1) :: X', (k ∈ W.heap.size :: (W.heap.size + 1) :: X ∨ A.heap.size ≤ k) ∧ k < B.heap.size := by
      intro k hk
      simp only [List.mem_cons] at hk ⊢
      rcases hk with rfl | rfl | hk
      · exact ⟨.inl (.inl rfl), by omega⟩
      · exact ⟨.inl (.inr (.inl rfl)), by omega⟩
      · obtain ⟨q1, q2⟩ := hX k hk
        exact ⟨q1.imp (fun q => .inr (.inr q)) id, q2⟩
    have e2 : Mod (W.heap.size :: (W.heap.size + 1) :: X) A B := m.mono fun k _ hk => by simp [hk]
    exact ⟨h1, ⟨by omega, h2.2⟩, h3.imp (fun ⟨q, r⟩ => ⟨HJ.out _ _ _ _ _ q e2 e1, r⟩) (fun q => HJx.out _ _ _ _ _ q e2 e1)⟩
  case assign =>
    intro l2 x V K hK
    gi_wp2
    exact hK
  case body =>
    rintro l2 X pre x rest V hL ⟨hb, hlt⟩ hX hkR
    have cy := (hb.blk (W.heap.size, .func (.yield l) #[] #[], 31) (by simp)).cell 0
    have cl := (hb.blk (W.heap.size + 1, .int .i64 ((n : Int) - (pre.length : Nat)), 3) (by simp)).cell 0
    have fl := (hb.blk (W.heap.size + 1, .int .i64 ((n : Int) - (pre.length : Nat)), 3) (by simp)).froz 0
    simp at cy cl fl
    obtain ⟨hJ1, hX1, hk1⟩ := hb.at1 HJ.out HRl.out hX (.int .i64 ((n : Int) - pre.length - 1))
    obtain ⟨fn, tmps, assign, body, hy, hR⟩ := HY.out _ pre x _ _ (take_pre hL hlt) hJ1 hX1 hk1
    dsimp only [ei] at hy
    have HR := Lib.hid hR
    have HB := Lib.hid hb
    have HL := Lib.hid hL
    clear hJ1 hX1 hk1 hR hb hL
    have hn9 := HN2.out
    have hRsub : ∀ k ∈ R, k ∈ bn :: bs :: R := fun k hk => by simp [hk]
    generalize hpl : pre.length = m at *
    have HPL := Lib.hid hpl
    clear hpl
    gi_wp2
    refine ⟨rfl, ?_⟩
    refine RoundIn.mono (show RoundIn (Fence.wide.inRound l2) _ _ _ _ _ _ _ _ _ from HR.out) ?_
    rintro e V2 ⟨hs2, hk2, (⟨rfl, hj2⟩ | ⟨rfl, hj2⟩)⟩
    · have hsz : V.heap.size ≤ V2.heap.size := by simpa [World.setCell] using hs2
      obtain ⟨T, kk⟩ := HB.out.turn2 (by omega) HRl.out hsz hk2 hj2
      have cl2 := (T.blk (W.heap.size + 1, .int .i64 ((n : Int) - m - 1), 3) (by simp)).cell 0
      simp at cl2
      have TT := Lib.hid T
      have KK : Hid (Keep (R ++ X) V V2) := fun k hk => kk k (by
        rcases List.mem_append.1 hk with h1 | h1
        · exact List.mem_append_left _ (hRsub k h1)
        · exact List.mem_append_right _ h1)
      have HJ2 := Lib.hid hj2
      have hz2 := T.size
      have hzb : W.heap.size + 1 < V2.heap.size := (T.blk (W.heap.size + 1, .int .i64 ((n : Int) - m - 1), 3) (by simp)).lt
      clear T kk hj2 hk2 hs2
      by_cases hlast : m + 1 = n
      · have b0 : (((n : Int) - m - 1) == 0) = true := by rw [beq_iff_eq]; omega
        have TF := Lib.hid (take_full (N := n) HL.out (by rw [HPL.out]; exact hlast))
        clear hlast
        gi_wp2
        exact ⟨hsz, KK.out, rfl, ⟨hzb, by rw [List.length_append, HPL.out, List.length_singleton]; omega⟩, .inl ⟨HJ2.out, TF.out.symm⟩⟩
      · have b0 : (((n : Int) - m - 1) == 0) = false := by rw [beq_eq_false_iff_ne]; omega
        have hlt2 : m + 1 < n := by omega
        clear hlast
        gi_wp2
        refine ⟨hsz, KK.out, ?_, ?_⟩
        · have := TT.out
          rw [show (n : Int) - m - 1 = (n : Int) - ((pre ++ [x]).length : Nat) by rw [List.length_append, HPL.out, List.length_singleton]; omega] at this
          exact this
        · rw [List.length_append, HPL.out, List.length_singleton]; omega
    · have hsz : V.heap.size ≤ V2.heap.size := by simpa [World.setCell] using hs2
      have KK : Hid (Keep (R ++ X) V V2) := (HB.out.kept2 (by omega) HRl.out hk2).mono' (fun k hk => by
        rcases List.mem_append.1 hk with h1 | h1
        · exact List.mem_append_left _ (hRsub k h1)
        · exact List.mem_append_right _ h1)
      have hzb : W.heap.size + 1 < V2.heap.size := Nat.lt_of_lt_of_le (HB.out.blk (W.heap.size + 1, .int .i64 ((n : Int) - m), 3) (by simp)).lt hsz
      have HJ2 := Lib.hid hj2
      clear hj2 hk2 hs2
      gi_wp2
      exact ⟨hsz, KK.out, rfl, ⟨hzb, by rw [List.length_append, HPL.out, List.length_singleton]; omega⟩, .inr HJ2.out⟩
  case done =>
    rintro D X V hD hab ⟨hb, hlt⟩ hkR hK
    gi_wp2
    refine ⟨by simp, .inl ⟨_, _, rfl, run_takeDeferred hK, ?_⟩⟩
    refine ⟨_, results_none rfl _ _ _, ⟨_, rfl⟩, .inl ?_⟩
    rw [List.take_of_length_le (by omega)]
    exact hb.out HJ.out ((Mod.refl _ _).putObj _ _ (fun _ => hD))
  case stop =>
    rintro D X c pre V hD hab hpre ⟨rfl, hz, hj⟩ hkR hK
    gi_wp2
    refine ⟨by simp, .inl ⟨_, _, rfl, run_takeDeferred hK, ?_⟩⟩
    refine ⟨_, results_none rfl _ _ _, ⟨_, rfl⟩, ?_⟩
    have m : Mod (W.heap.size :: (W.heap.size + 1) :: X) V (V.putObj D (.deferred none)) := (Mod.refl _ _).putObj _ _ (fun _ => by simp [hD])
    rcases hj with ⟨hj, rfl⟩ | hj
    · exact .inl (HJ.out _ _ _ _ _ hj m (by simp))
    · exact .inr ⟨pre, List.prefix_take_iff.2 ⟨hpre, hz.2⟩, HJx.out _ _ _ _ _ hj m (by simp)⟩

set_option maxRecDepth 100000 in
set_option maxHeartbeats 1000000 in
theorem takeI_none {sv : Value} {g : Nat} {lb : Array Value} (hsv : NoneTo sv g lb) {R : List Nat} {L : List Int} {w : World} (hs : Seq Try.prog g lb ei R L w) {bn bs : Nat} {n : Int} (hn : n < 1) (hbn : Blk w bn #[.int .i64 n] 3) (hbs : Blk w bs #[sv] 60) :
    Seq Try.prog 36 #[.pointer (some ⟨bn, 0, none⟩), .pointer (some ⟨bs, 0, none⟩)] ei (bn :: bs :: R) ([] : List Int) w := by
  refine ⟨?_, enters_of Try.func36 (by kernel_rfl) rfl, ?_⟩
  · intro k hk
    simp only [List.mem_cons] at hk
    rcases hk with rfl | rfl | hk
    · exact hbn.lt
    · exact hbs.lt
    · exact hs.1 k hk
  intro l J Jx W hW hkW hJ hJx hY h0
  have cn := (hbn.keep hkW (by simp)).cell 0
  simp at cn
  have hbn1 : bn < W.heap.size := Nat.lt_of_lt_of_le hbn.lt hW
  have HJ := Lib.hid hJ
  have H0 := Lib.hid h0
  clear hkW hJ hJx hY h0 hs hbn hbs
  refine (callsIn_wide (n := 0)).1 (callsIn_of_wp_marks Try.func36 rfl trivial ?_ rfl)
  simp only [Try.ntmps36, List.size_toArray, List.length_cons, List.length_nil, Nat.reduceAdd, Nat.reduceSub, Array.replicate_succ, Array.replicate_zero, List.push_toArray, List.append_toArray, List.nil_append, List.cons_append]
  gi_wp2
  refine ⟨_, results_none rfl _ _ _, ⟨_, rfl⟩, .inl ?_⟩
  exact HJ.out _ _ _ _ _ H0.out (((Mod.refl _ _).alloc _).alloc _) (by simp)

/-- What Take hands back: the first n. -/
def tk (L : List Int) (n : Int) : List Int := L.take n.toNat
theorem takeI {sv : Value} {g : Nat} {lb : Array Value} (hsv : NoneTo sv g lb) {R : List Nat} {L : List Int} {w : World} (hs : Seq Try.prog g lb ei R L w) {bn bs : Nat} {n : Int} (hn2 : n ≤ 9223372036854775807) (hbn : Blk w bn #[.int .i64 n] 3) (hbs : Blk w bs #[sv] 60) :
    Seq Try.prog 36 #[.pointer (some ⟨bn, 0, none⟩), .pointer (some ⟨bs, 0, none⟩)] ei (bn :: bs :: R) (tk L n) w := by
  unfold tk
  by_cases h : n < 1
  · rw [show n.toNat = 0 by omega, List.take_zero]; exact takeI_none hsv hs h hbn hbs
  · obtain ⟨m, rfl⟩ := Int.eq_ofNat_of_zero_le (by omega : 0 ≤ n)
    exact takeI_pos hsv hs (by omega) (by omega) hbn hbs

/-- Take, called: a new iterator, in a world where nothing that lay has turned. -/
theorem take_v {sv : Value} {g : Nat} {lb : Array Value} {R : List Nat} {L : List Int} {w : World} (hsv : NoneTo sv g lb) (hs : Seq Try.prog g lb ei R L w) (n : Int) (hn2 : n ≤ 9223372036854775807) :
    Calls Try.prog 34 #[sv, .int .i64 n] w fun e w' => ∃ lb', e = .returned (.func (.func 36) #[] lb') ∧ (∃ R', Seq Try.prog 36 lb' ei R' (tk L n) w' ∧ ∀ k ∈ R', k ∈ R ∨ w.heap.size ≤ k) ∧ Mod [] w w' := by
  refine (take_mk _ n hsv.1 w).mono ?_
  rintro e w' ⟨rfl, rfl⟩
  have m : Mod [] w ((w.alloc (.cells #[sv] 60)).alloc (.cells #[.int .i64 n] 3)) := ((Mod.refl _ _).alloc _).alloc _
  refine ⟨_, rfl, ⟨_, takeI hsv (hs.mod m (by simp)) hn2 (Blk.new' _ _ _ _ (by simp)) ((Blk.new _ _ _).alloc _), fun k hk => ?_⟩, m⟩
  simp only [List.mem_cons, World.size_alloc] at hk
  rcases hk with rfl | rfl | hk
  · exact .inr (by omega)
  · exact .inr (Nat.le_refl _)
  · exact .inl hk
theorem take_c {g : Nat} {lb : Array Value} {R : List Nat} {L : List Int} {w : World} (hs : Seq Try.prog g lb ei R L w) (n : Int) (hn2 : n ≤ 9223372036854775807) :
    Calls Try.prog 34 #[.func (.func g) #[] lb, .int .i64 n] w fun e w' => ∃ lb', e = .returned (.func (.func 36) #[] lb') ∧ (∃ R', Seq Try.prog 36 lb' ei R' (tk L n) w' ∧ ∀ k ∈ R', k ∈ R ∨ w.heap.size ≤ k) ∧ Mod [] w w' := take_v (.func g lb) hs n hn2
end Go.Proofs.Ytlkakkgmjihlaaa

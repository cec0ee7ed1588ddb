/- The law CachePlays: what a cache of any bits tells is what the document's list tells. -/
import Derived.Test.YtkbpcilcpaomfaaE
set_option linter.unusedVariables false
set_option linter.unusedSimpArgs false
namespace Go.Proofs.Ytkbpcilcpaomfaa
open Go.RowKit

def InvP (n : Nat) (e : Int) (ent : Nat → Nat × Int × Int) (L : List (Nat × Int)) : Prop :=
  ∀ q, q < n → (ent q).2.2 ≤ e ∧ (match lastAt L n q with | some (K, V) => ent q = (K, V, e) | none => (ent q).2.2 ≠ e)

theorem InvP.put {n : Nat} {e : Int} {ent : Nat → Nat × Int × Int} {L : List (Nat × Int)} (h : InvP n e ent L) (k : Nat) (v : Int) : InvP n e (upd ent (k % n) (k, v, e)) (L ++ [(k, v)]) := by
  intro q hq
  rw [lastAt_snoc]
  unfold upd
  by_cases hk : k % n = q
  · rw [if_pos hk, if_pos hk.symm]; simp
  · rw [if_neg hk, if_neg (fun e => hk e.symm)]; exact h q hq

theorem InvP.flush {n : Nat} {e : Int} {ent : Nat → Nat × Int × Int} {L : List (Nat × Int)} (h : InvP n e ent L) : InvP n (e + 1) ent [] := by
  intro q hq
  have := (h q hq).1
  exact ⟨by omega, by simp [lastAt]; omega⟩

/-- What lies in memory at the head of a round. -/
structure StP (w0 w : World) (B k b g n : Nat) (s : Value) (e hi mi : Int) (ent : Nat → Nat × Int × Int) (L : List (Nat × Int)) : Prop where
  head : Head w b g n e hi mi
  tab : Tab w g n ent
  own : w.ownsRow B 40 2 s L.length (flat L)
  mod : Mod [] w0 w
  n1 : b ≠ g
  f1 : w0.heap.size ≤ b
  f2 : w0.heap.size ≤ g
  b1 : b < B
  b2 : g < B
  b3 : B ≤ w.heap.size
  e0 : 1 ≤ e
  e1 : e ≤ k + 1
  h0 : 0 ≤ hi
  h1 : hi ≤ k
  m0 : 0 ≤ mi
  m1 : mi ≤ k
  len : L.length ≤ k
  inv : InvP n e ent L

theorem StP.step {w0 w w' : World} {B k b g n : Nat} {s : Value} {e hi mi : Int} {ent : Nat → Nat × Int × Int} {L : List (Nat × Int)} (h : StP w0 w B k b g n s e hi mi ent L) (M : Mod [] w w') :
    StP w0 w' B k b g n s e hi mi ent L :=
  ⟨h.head.mod M (by simp), h.tab.mod M (by simp), h.own.kept (M.grownBy none (by simp)) (by cases s.ownBlock <;> simp), h.mod.trans' M, h.n1, h.f1, h.f2, h.b1, h.b2, Nat.le_trans h.b3 M.size, h.e0, h.e1, h.h0, h.h1, h.m0, h.m1, h.len, h.inv⟩

theorem ownsRow_mod {w w' : World} {B E sz n : Nat} {s : Value} {xs : List Value} {S : List Nat} (h : w.ownsRow B E sz s n xs) (M : Mod S w w') (hS : ∀ k ∈ S, k < B) : w'.ownsRow B E sz s n xs := by
  refine ⟨h.1, ?_⟩
  rcases h.2 with hn | ⟨g, cap, cur, rfl, hb, hgg, rest⟩
  · exact .inl hn
  · exact .inr ⟨g, cap, cur, rfl, hb, Blk.mod hgg M (fun hm => by have := hS g hm; omega), rest⟩

theorem StP.head' {w0 w w' : World} {B k b g n : Nat} {s : Value} {e hi mi e' hi' mi' : Int} {ent : Nat → Nat × Int × Int} {L : List (Nat × Int)} (h : StP w0 w B k b g n s e hi mi ent L)
    (H : Head w' b g n e' hi' mi') (M : Mod [b] w w') : Head w' b g n e' hi' mi' ∧ Tab w' g n ent ∧ w'.ownsRow B 40 2 s L.length (flat L) ∧ Mod [] w0 w' ∧ B ≤ w'.heap.size :=
  have h1 := h.n1
  have h2 := h.f1
  have h3 := h.b1
  ⟨H, h.tab.mod M (by simp; omega), ownsRow_mod h.own M (by simp; omega), h.mod.trans M (by simp; omega), Nat.le_trans h.b3 M.size⟩

theorem StP.hit {w0 w w' : World} {B k b g n : Nat} {s : Value} {e hi mi hi' mi' : Int} {ent : Nat → Nat × Int × Int} {L : List (Nat × Int)} (h : StP w0 w B k b g n s e hi mi ent L)
    (H : Head w' b g n e hi' mi') (M : Mod [b] w w') (a1 : 0 ≤ hi') (a2 : hi' ≤ k + 1) (a3 : 0 ≤ mi') (a4 : mi' ≤ k + 1) : StP w0 w' B (k + 1) b g n s e hi' mi' ent L :=
  have hh := h.head' H M
  have he := h.e1
  ⟨hh.1, hh.2.1, hh.2.2.1, hh.2.2.2.1, h.n1, h.f1, h.f2, h.b1, h.b2, hh.2.2.2.2, h.e0, by omega, a1, by omega, a3, by omega, Nat.le_succ_of_le h.len, h.inv⟩

theorem StP.flush {w0 w w' : World} {B k b g n : Nat} {s : Value} {e hi mi : Int} {ent : Nat → Nat × Int × Int} {L : List (Nat × Int)} (h : StP w0 w B k b g n s e hi mi ent L)
    (H : Head w' b g n (e + 1) hi mi) (M : Mod [b] w w') : StP w0 w' B (k + 1) b g n (.slice none 0 0) (e + 1) hi mi ent [] :=
  have hh := h.head' H M
  have he := h.e1
  have he0 := h.e0
  have h1 := h.h1
  have m1 := h.m1
  ⟨hh.1, hh.2.1, World.ownsRow_nil _ _ _ _, hh.2.2.2.1, h.n1, h.f1, h.f2, h.b1, h.b2, hh.2.2.2.2, by omega, by omega, h.h0, by omega, h.m0, by omega, by simp, h.inv.flush⟩

/-- Put: the table is written. -/
theorem StP.put1 {w0 w w' : World} {B k b g n : Nat} {s : Value} {e hi mi : Int} {ent : Nat → Nat × Int × Int} {L : List (Nat × Int)} (h : StP w0 w B k b g n s e hi mi ent L)
    {ent' : Nat → Nat × Int × Int} (T : Tab w' g n ent') (M : Mod [g] w w') : Head w' b g n e hi mi ∧ Tab w' g n ent' ∧ w'.ownsRow B 40 2 s L.length (flat L) ∧ Mod [] w0 w' ∧ B ≤ w'.heap.size :=
  have h1 := h.n1
  have h2 := h.f2
  have h3 := h.b2
  ⟨h.head.mod M (by simp; omega), T, ownsRow_mod h.own M (by simp; omega), h.mod.trans M (by simp; omega), Nat.le_trans h.b3 M.size⟩

/-- .. and the list. -/
theorem StP.put2 {w0 w w3 w3' w4 : World} {B k b g n : Nat} {s s' : Value} {e hi mi : Int} {ent : Nat → Nat × Int × Int} {L : List (Nat × Int)} (h : StP w0 w B k b g n s e hi mi ent L) (key : Nat) (v : Int)
    (h3 : Head w3 b g n e hi mi ∧ Tab w3 g n (upd ent (key % n) (key, v, e)) ∧ w3.ownsRow B 40 2 s L.length (flat L) ∧ Mod [] w0 w3 ∧ B ≤ w3.heap.size) (M : Mod [] w3 w3')
    (hown : w4.ownsRow B 40 2 s' (L.length + 1) (flat L ++ [.int .u32 key, .int .i64 v])) (hg : w3'.grownBy w4 s.ownBlock) :
    StP w0 w4 B (k + 1) b g n s' e hi mi (upd ent (key % n) (key, v, e)) (L ++ [(key, v)]) := by
  obtain ⟨H, T, O, M0, hB⟩ := h3
  have a1 := h.b1
  have a2 := h.b2
  have a3 := h.f1
  have a4 := h.f2
  have a5 := h.e1
  have a6 := h.h1
  have a7 := h.m1
  have a8 := h.len
  have hlt : ∀ i, s.ownBlock = some i → B ≤ i := fun i hi => (O.lt i hi).1
  have M4 : Mod (match s.ownBlock with | some i => [i] | none => []) w3 w4 := by
    refine (M.mono (by simp)).grown hg (fun i hi _ => ?_)
    rw [hi]; simp
  have hS : ∀ i ∈ (match s.ownBlock with | some i => [i] | none => []), B ≤ i := by
    intro i hi
    cases ho : s.ownBlock with
    | none => rw [ho] at hi; simp at hi
    | some j => rw [ho] at hi; simp at hi; subst hi; exact hlt _ ho
  refine ⟨H.mod M4 (fun hm => by have := hS _ hm; omega), T.mod M4 (fun hm => by have := hS _ hm; omega), by rw [flat_snoc, List.length_append]; exact hown, M0.trans M4 (fun i hi hm => by have := hS _ hm; omega),
    h.n1, h.f1, h.f2, h.b1, h.b2, Nat.le_trans hB M4.size, h.e0, by omega, h.h0, by omega, h.m0, by omega, by simp; omega, h.inv.put key v⟩

theorem Try.info40 : (Try.prog.info? 40).map (fun i => (i.zero, i.size, i.bytes)) = some (some (.agg #[.int .u32 0, .int .i64 0]), 2, 16) := by kernel_rfl

theorem two_new (w : World) (x y : Value) (t : TypeId) : ∀ j u, [x, y][j]? = some u → (w.alloc (.cells #[x, y] t)).cell? ((⟨w.heap.size, 0, none⟩ : Addr).add j) = some u := by
  intro j u hu
  match j, hu with
  | 0, hu => simp at hu; subst hu; simp [Addr.add]
  | 1, hu => simp at hu; subst hu; simp [Addr.add]

set_option maxRecDepth 100000 in
set_option maxHeartbeats 4000000 in
theorem cachePlays_main (w : World) (j : Nat) (hj : j ≤ 10) (a0 : Option Addr) (len cap : Nat) (z : Nat → Nat → Int) (hlen : len ≤ 200) (hw : Recs w a0 len cap [.u8, .u32, .i64] z) :
    Calls Try.prog 4 #[.int .i64 j, .slice a0 len cap] w fun e w' => e = .returned (.bool true) ∧ Mod [] w w' := by
  obtain ⟨hlc, hrec⟩ := hw
  have HR := Lib.hid hrec
  clear hrec
  have hn1 : 1 ≤ 2 ^ j := Nat.one_le_two_pow
  have hn2 : 2 ^ j ≤ 1048576 := Nat.le_trans (Nat.pow_le_pow_right (by omega) hj) (by omega : 2 ^ 10 ≤ 1048576)
  obtain ⟨n, hn⟩ : ∃ n, n = 2 ^ j := ⟨_, rfl⟩
  rw [← hn] at hn1 hn2
  have HN := Lib.hid hn
  clear hn
  go_enter Try.func4, Try.ntmps4
  go_wp2_with fail
  refine (alive_c w).mono ?_
  rintro e w1 ⟨rfl, M1⟩
  have Z1 := Lib.hid M1
  have hs1 : w.heap.size ≤ w1.heap.size := M1.size
  clear M1
  go_wp2_with fail
  refine (new_c j (by omega) w1).mono ?_
  rintro e w2 ⟨rfl, H2, T2, M2⟩
  rw [← HN.out] at H2 T2
  have X2 := Lib.hid H2
  have Y2 := Lib.hid T2
  have Z2 := Lib.hid (Z1.out.trans' M2)
  have hs2 : w1.heap.size + 1 < w2.heap.size := H2.lt
  clear H2 T2 M2
  go_wp2_with fail
  go_loop [7, 8] (fun v7 v8 => ∃ i p : Nat, v7 = .int .u32 p ∧ v8 = .int .i64 i ∧ i ≤ j ∧ p = 2 ^ i) (fun _ v8 => j - (intOf v8).toNat)
  case atStart => exact ⟨0, 1, rfl, rfl, Nat.zero_le _, rfl⟩
  case round =>
    obtain ⟨i, p, rfl, rfl, hij, hp⟩ := hrel
    have HP := Lib.hid hp
    clear hp
    by_cases hlt : i < j
    · have hp5 : p ≤ 512 := by rw [HP.out]; exact Nat.le_trans (Nat.pow_le_pow_right (by omega) (by omega : i ≤ 9)) (by omega : 2 ^ 9 ≤ 512)
      go_wp2
      go_round
      case rel => exact ⟨i + 1, 2 * p, by go_num, by go_num, by omega, by rw [HP.out, Nat.pow_succ]; omega⟩
      case measure => simp [intOf]; omega
    obtain rfl : p = n := by rw [HP.out, HN.out]; congr 1; omega
    clear HP
    go_wp2_with fail
    obtain ⟨i0, hi, hz0, hz1, hz2⟩ := info_parts Try.info40
    go_loopw [9, 10, 11, 12, 13] (fun v9 v10 v11 v12 v13 wr => ∃ (k : Nat) (e hi mi : Int) (ent : Nat → Nat × Int × Int) (L : List (Nat × Int)), v10 = .int .i64 hi ∧ v11 = .int .i64 mi ∧ v12 = .int .i64 (e - 1) ∧ v13 = .int .i64 k ∧ k ≤ len ∧
        StP w wr w2.heap.size k (w1.heap.size + 1) w1.heap.size p v9 e hi mi ent L) (fun _ _ _ _ v13 _ => len - (intOf v13).toNat)
    case atStart =>
      exact ⟨0, 1, 0, 0, fun _ => (0, 0, 0), [], rfl, rfl, rfl, rfl, Nat.zero_le _, X2.out, Y2.out, World.ownsRow_nil _ _ _ _, Z2.out, by omega, by omega, by omega, by omega, by omega, by omega, by omega, by omega, by omega, by omega, by omega, by omega, by simp,
        fun q hq => ⟨by simp, by simp [lastAt]⟩⟩
    case round =>
      obtain ⟨k, e, hi', mi, ent, L, rfl, rfl, rfl, rfl, hk, st⟩ := hrel
      have ST := Lib.hid st
      clear st
      by_cases hltk : k < len
      · obtain ⟨b0, off, rfl, hb0, ⟨c0, c1, c2⟩, f0, f1, f2⟩ := Recs.at3 ⟨hlc, HR.out⟩ k hltk
        have hM := ST.out.mod
        rw [← hM.cell (a := ⟨b0, _, none⟩) hb0 (by simp)] at c0 c1 c2
        have hsw : w.heap.size ≤ wr.heap.size := hM.size
        have hBw : w2.heap.size ≤ wr.heap.size := ST.out.b3
        clear hM
        generalize z k 0 = x at *
        generalize z k 1 = y at *
        generalize z k 2 = v at *
        obtain ⟨x0, x1⟩ := bounds_u8 f0
        obtain ⟨y0, y1⟩ := bounds_u32 f1
        obtain ⟨y, rfl⟩ := Int.eq_ofNat_of_zero_le y0
        have hcases : (x % 8 = 0 ∨ x % 8 = 1 ∨ x % 8 = 2) ∨ x % 8 = 7 ∨ (3 ≤ x % 8 ∧ x % 8 ≤ 6) := by omega
        clear f0 f1 f2
        have SA := Lib.hid (ST.out.step (w' := wr.alloc (.cells #[.int .u8 x, .int .u32 y, .int .i64 v] 33)) ((Mod.refl _ _).alloc _))
        have st0 := ST.out.e0
        have st1 := ST.out.e1
        have st2 := ST.out.h0
        have st3 := ST.out.h1
        have st4 := ST.out.m0
        have st5 := ST.out.m1
        have st6 := ST.out.len
        rcases hcases with hx | hx | ⟨hx1, hx2⟩
        · rcases hx with hx | hx | hx
          all_goals
            go_wp2_with fail
            refine (put_c y (by omega) v _ _ j p (by omega) HN.out _ _ _ _ _ (by exact SA.out.head) (by exact SA.out.tab)).mono ?_
            rintro e' w3 ⟨rfl, T3, M3⟩
            have P3 := Lib.hid (SA.out.put1 T3 M3)
            have hs3 : wr.heap.size + 1 ≤ w3.heap.size := by have := M3.size; simpa using this
            have d1 := (M3.cell (a := ⟨wr.heap.size, 1, none⟩) (by simp) (by simp; omega)).trans (World.cell?_alloc_new wr _ _ _)
            have d2 := (M3.cell (a := ⟨wr.heap.size, 2, none⟩) (by simp) (by simp; omega)).trans (World.cell?_alloc_new wr _ _ _)
            simp at d1 d2
            clear M3 T3 c0 c1 c2
            go_wp2_with (at_builtin; refine wpList_append_own _ rfl _ _ 38 rfl w2.heap.size 40 i0 (.agg #[.int .u32 0, .int .i64 0]) 2 16 Try.underlying38 hi hz0 hz1 hz2 rfl (by decide) _ _ _ rfl (P3.out.2.2.1.alloc _) ⟨w3.heap.size, 0, none⟩ 1 1 [.int .u32 y, .int .i64 v] rfl rfl (two_new _ _ _ _) ?c2 ?c3 ?c4 ?c5 ?_)
            case c2 => intro u hu; simp at hu; rcases hu with rfl | rfl <;> rfl
            case c3 => unfold maxLen; omega
            case c4 => omega
            case c5 => have := P3.out.2.2.2.2; simp; omega
            intro v' w4 hown' hgrow _
            have P4 := Lib.hid (SA.out.put2 y v P3.out ((Mod.refl _ _).alloc _) hown' hgrow)
            clear hown' hgrow d1 d2
            go_wp2_with (first
              | (go_at_call 12; refine (hits_c _ _ _ _ _ _ _ (by exact P4.out.head)).mono ?_; rintro e' w' ⟨rfl, rfl⟩)
              | (go_at_call 13; refine (misses_c _ _ _ _ _ _ _ (by exact P4.out.head)).mono ?_; rintro e' w' ⟨rfl, rfl⟩)
              | (go_at_call 14; refine (epoch_c _ _ _ e _ _ (by omega) (by omega) _ (by exact P4.out.head)).mono ?_; rintro e' w' ⟨rfl, rfl⟩))
            go_roundw
            case rel => exact ⟨k + 1, e, hi', mi, _, _, rfl, rfl, rfl, by go_num, by omega, P4.out⟩
            case measure => simp [intOf]; omega
        · go_wp2_with fail
          refine (flush_c _ _ _ e hi' mi (by omega) (by omega) _ (by exact SA.out.head)).mono ?_
          rintro e' w3 ⟨rfl, H3, M3⟩
          have P4 := Lib.hid (SA.out.flush H3 M3)
          clear M3 H3 c0 c1 c2
          go_wp2_with (first
            | (go_at_call 12; refine (hits_c _ _ _ _ _ _ _ (by exact P4.out.head)).mono ?_; rintro e' w' ⟨rfl, rfl⟩)
            | (go_at_call 13; refine (misses_c _ _ _ _ _ _ _ (by exact P4.out.head)).mono ?_; rintro e' w' ⟨rfl, rfl⟩)
            | (go_at_call 14; refine (epoch_c _ _ _ (e + 1) _ _ (by omega) (by omega) _ (by exact P4.out.head)).mono ?_; rintro e' w' ⟨rfl, rfl⟩))
          go_roundw
          case rel => exact ⟨k + 1, e + 1, hi', mi, _, _, rfl, rfl, by go_num, by go_num, by omega, P4.out⟩
          case measure => simp [intOf]; omega
        · have hqp : y % p < p := Nat.mod_lt _ (by omega)
          have hin := (SA.out.inv (y % p) hqp).2
          cases hla : lastAt L p (y % p) with
          | none =>
            have hr : rget L y p = (0, false) := by unfold rget; rw [hla]
            rw [hla] at hin
            go_wp2_with fail
            refine (get_miss1 y (by omega) _ _ j p (by omega) HN.out e hi' mi (by omega) (by omega) _ _ (by exact SA.out.head) (by exact SA.out.tab) (by omega) hin).mono ?_
            rintro e' w3 ⟨rfl, H3, M3⟩
            have P3 := Lib.hid (SA.out.hit H3 M3 (by omega) (by omega) (by omega) (by omega))
            have hs3 : wr.heap.size + 1 ≤ w3.heap.size := by have := M3.size; simpa using this
            have d1 := (M3.cell (a := ⟨wr.heap.size, 1, none⟩) (by simp) (by simp; omega)).trans (World.cell?_alloc_new wr _ _ _)
            simp at d1
            have HRR := Lib.hid hr
            clear M3 H3 c0 c1 c2 hla hin hr
            go_wp2_with fail
            refine (get_ref _ _ L y p (by omega) (by omega) (by omega) (by omega) w3 P3.out.own).mono ?_
            rw [HRR.out]
            rintro e' w4 ⟨rfl, d, rfl⟩
            have P4 := Lib.hid (P3.out.step ((Mod.refl _ _).drewN d))
            go_wp2_with (first
              | (go_at_call 12; refine (hits_c _ _ _ _ _ _ _ (by exact P4.out.head)).mono ?_; rintro e' w' ⟨rfl, rfl⟩)
              | (go_at_call 13; refine (misses_c _ _ _ _ _ _ _ (by exact P4.out.head)).mono ?_; rintro e' w' ⟨rfl, rfl⟩)
              | (go_at_call 14; refine (epoch_c _ _ _ e _ _ (by omega) (by omega) _ (by exact P4.out.head)).mono ?_; rintro e' w' ⟨rfl, rfl⟩))
            go_roundw
            case rel => exact ⟨k + 1, e, hi', mi + 1, _, _, by go_num, by go_num, rfl, by go_num, by omega, P4.out⟩
            case measure => simp [intOf]; omega
          | some kv =>
            obtain ⟨K, V⟩ := kv
            rw [hla] at hin
            simp only at hin
            by_cases hK : K = y
            · have hr : rget L y p = (V, true) := by unfold rget; rw [hla]; simp [hK]
              have hV : (ent (y % p)).2.1 = V := by rw [hin]
              go_wp2_with fail
              refine (get_hit y (by omega) _ _ j p (by omega) HN.out e hi' mi (by omega) (by omega) _ _ (by exact SA.out.head) (by exact SA.out.tab) (by omega) (by rw [hin]) (by rw [hin]; exact hK)).mono ?_
              rw [hV]
              rintro e' w3 ⟨rfl, H3, M3⟩
              have P3 := Lib.hid (SA.out.hit H3 M3 (by omega) (by omega) (by omega) (by omega))
              have hs3 : wr.heap.size + 1 ≤ w3.heap.size := by have := M3.size; simpa using this
              have d1 := (M3.cell (a := ⟨wr.heap.size, 1, none⟩) (by simp) (by simp; omega)).trans (World.cell?_alloc_new wr _ _ _)
              simp at d1
              have HRR := Lib.hid hr
              clear M3 H3 c0 c1 c2 hla hin hr
              go_wp2_with fail
              refine (get_ref _ _ L y p (by omega) (by omega) (by omega) (by omega) w3 P3.out.own).mono ?_
              rw [HRR.out]
              rintro e' w4 ⟨rfl, d, rfl⟩
              have P4 := Lib.hid (P3.out.step ((Mod.refl _ _).drewN d))
              go_wp2_with (first
                | (go_at_call 12; refine (hits_c _ _ _ _ _ _ _ (by exact P4.out.head)).mono ?_; rintro e' w' ⟨rfl, rfl⟩)
                | (go_at_call 13; refine (misses_c _ _ _ _ _ _ _ (by exact P4.out.head)).mono ?_; rintro e' w' ⟨rfl, rfl⟩)
                | (go_at_call 14; refine (epoch_c _ _ _ e _ _ (by omega) (by omega) _ (by exact P4.out.head)).mono ?_; rintro e' w' ⟨rfl, rfl⟩))
              go_roundw
              case rel => exact ⟨k + 1, e, hi' + 1, mi, _, _, by go_num, by go_num, rfl, by go_num, by omega, P4.out⟩
              case measure => simp [intOf]; omega
            · have hr : rget L y p = (0, false) := by unfold rget; rw [hla]; simp [hK]
              go_wp2_with fail
              refine (get_miss2 y (by omega) _ _ j p (by omega) HN.out e hi' mi (by omega) (by omega) _ _ (by exact SA.out.head) (by exact SA.out.tab) (by omega) (by rw [hin]) (by rw [hin]; exact hK)).mono ?_
              rintro e' w3 ⟨rfl, H3, M3⟩
              have P3 := Lib.hid (SA.out.hit H3 M3 (by omega) (by omega) (by omega) (by omega))
              have hs3 : wr.heap.size + 1 ≤ w3.heap.size := by have := M3.size; simpa using this
              have d1 := (M3.cell (a := ⟨wr.heap.size, 1, none⟩) (by simp) (by simp; omega)).trans (World.cell?_alloc_new wr _ _ _)
              simp at d1
              have HRR := Lib.hid hr
              clear M3 H3 c0 c1 c2 hla hin hr
              go_wp2_with fail
              refine (get_ref _ _ L y p (by omega) (by omega) (by omega) (by omega) w3 P3.out.own).mono ?_
              rw [HRR.out]
              rintro e' w4 ⟨rfl, d, rfl⟩
              have P4 := Lib.hid (P3.out.step ((Mod.refl _ _).drewN d))
              go_wp2_with (first
                | (go_at_call 12; refine (hits_c _ _ _ _ _ _ _ (by exact P4.out.head)).mono ?_; rintro e' w' ⟨rfl, rfl⟩)
                | (go_at_call 13; refine (misses_c _ _ _ _ _ _ _ (by exact P4.out.head)).mono ?_; rintro e' w' ⟨rfl, rfl⟩)
                | (go_at_call 14; refine (epoch_c _ _ _ e _ _ (by omega) (by omega) _ (by exact P4.out.head)).mono ?_; rintro e' w' ⟨rfl, rfl⟩))
              go_roundw
              case rel => exact ⟨k + 1, e, hi', mi + 1, _, _, by go_num, by go_num, rfl, by go_num, by omega, P4.out⟩
              case measure => simp [intOf]; omega
      · go_wp2
        go_ret
        exact ⟨rfl, ST.out.mod⟩
end Go.Proofs.Ytkbpcilcpaomfaa

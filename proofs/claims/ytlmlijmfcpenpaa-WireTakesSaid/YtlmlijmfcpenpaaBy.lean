/- Slices of bytes: 'Rd w v l F': the value v is a slice whose bytes are l, in the block that F lists; append of any source; what is read of them. -/
import Derived.Test.YtlmlijmfcpenpaaSl
import Derived.Lib.AppendStr
set_option linter.unusedVariables false
set_option linter.unusedSimpArgs false
namespace Go.Proofs.Ytlmlijmfcpenpaa
open Go.RowKit

/-- Bytes as cells. -/
def bv (l : List UInt8) : List Value := l.map fun c => .int .u8 c.toNat
theorem bv_length (l : List UInt8) : (bv l).length = l.length := by simp [bv]
theorem bv_append (l l' : List UInt8) : bv (l ++ l') = bv l ++ bv l' := by simp [bv]
theorem bv_get (l : List UInt8) (i : Nat) (c : UInt8) (h : l[i]? = some c) : (bv l)[i]? = some (.int .u8 c.toNat) := by simp [bv, h]
theorem bv_one (l : List UInt8) : ∀ u ∈ bv l, u.oneCell' = true := by
  intro u hu
  simp only [bv, List.mem_map] at hu
  obtain ⟨c, _, rfl⟩ := hu
  rfl

/-- v is a slice that reads as l; its cells lie in a block of F. -/
def Rd (w : World) (v : Value) (l : List UInt8) (F : List Nat) : Prop :=
  ∃ A cap, v = .slice A l.length cap ∧ l.length ≤ cap ∧ (0 < l.length → ∃ b off, A = some ⟨b, off, none⟩ ∧ b ∈ F ∧ ∀ i c, l[i]? = some c → w.cell? ⟨b, off + i, none⟩ = some (.int .u8 c.toNat))

theorem Rd.keep {w w' : World} {v : Value} {l : List UInt8} {F : List Nat} (h : Rd w v l F) (m : Keep F w w') : Rd w' v l F := by
  obtain ⟨A, cap, e, hc, hr⟩ := h
  refine ⟨A, cap, e, hc, fun h0 => ?_⟩
  obtain ⟨b, off, e1, hb, hcell⟩ := hr h0
  exact ⟨b, off, e1, hb, fun i c hi => (World.cell?_of_block (m b hb)).trans (hcell i c hi)⟩
theorem Rd.lt {w : World} {v : Value} {l : List UInt8} {F : List Nat} (h : Rd w v l F) : ∃ F', Rd w v l F' ∧ ∀ k ∈ F', k < w.heap.size ∧ k ∈ F := by
  obtain ⟨A, cap, e, hc, hr⟩ := h
  rcases Nat.eq_zero_or_pos l.length with h0 | h0
  · exact ⟨[], ⟨A, cap, e, hc, fun h => by omega⟩, by simp⟩
  · obtain ⟨b, off, e1, hb, hcell⟩ := hr h0
    refine ⟨[b], ⟨A, cap, e, hc, fun _ => ⟨b, off, e1, by simp, hcell⟩⟩, fun k hk => ?_⟩
    simp at hk; subst hk
    exact ⟨World.block_lt_of_cell? w _ (hcell 0 l[0] (List.getElem?_eq_getElem h0)), hb⟩
/-- Steps that leave the blocks as they were. -/
theorem Rd.mod {S : List Nat} {w w' : World} {v : Value} {l : List UInt8} {F : List Nat} (h : Rd w v l F) (m : Mod S w w') (hd : ∀ k ∈ F, k ∉ S) : Rd w' v l F := by
  obtain ⟨F', h', hF⟩ := h.lt
  have h2 := h'.keep (m.keep (X := F') (fun k hk => ⟨(hF k hk).1, hd k (hF k hk).2⟩))
  obtain ⟨A, cap, e, hc, hr⟩ := h2
  refine ⟨A, cap, e, hc, fun h0 => ?_⟩
  obtain ⟨b, off, e1, hb, hcell⟩ := hr h0
  exact ⟨b, off, e1, (hF b hb).2, hcell⟩
theorem Rd.drewN {w : World} {v : Value} {l : List UInt8} {F : List Nat} (h : Rd w v l F) (n : Nat) : Rd (w.drewN n) v l F := h
theorem Rd.nil (w : World) : Rd w (.slice none 0 0) [] [] := ⟨none, 0, rfl, Nat.le_refl _, fun h => absurd h (by simp)⟩
theorem Rd.of_sl {w : World} {v : Value} {l : List UInt8} {n : Nat} {F : List Nat} {E : Nat} (h : Sl w E 1 v n (bv l) F) (hn : n = l.length) : Rd w v l F := by
  subst hn
  rcases h.2 with ⟨rfl, h0, rfl⟩ | ⟨g, cap, cur, rfl, rfl, hb, hc, _, _, _⟩
  · rw [List.length_eq_zero_iff.1 h0]; exact Rd.nil w
  · refine ⟨_, cap, rfl, hc, fun h0 => ⟨g, 0, rfl, by simp, fun i c hi => ?_⟩⟩
    have hil : i < l.length := (List.getElem?_eq_some_iff.1 hi).1
    have := (h.at i (by omega)).1
    rw [bv_get l i c hi] at this
    simpa using this
theorem Rd.shape {w : World} {v : Value} {l : List UInt8} {F : List Nat} (h : Rd w v l F) : ∃ A cap, v = .slice A l.length cap ∧ l.length ≤ cap := by
  obtain ⟨A, cap, e, hc, _⟩ := h; exact ⟨A, cap, e, hc⟩
theorem Rd.at {w : World} {A : Option Addr} {n cap : Nat} {l : List UInt8} {F : List Nat} (h : Rd w (.slice A n cap) l F) (i : Nat) (hi : i < l.length) :
    ∃ b off, A = some ⟨b, off, none⟩ ∧ w.cell? ⟨b, off + i, none⟩ = some (.int .u8 l[i].toNat) := by
  obtain ⟨A', cap', e, _, hr⟩ := h
  simp at e
  obtain ⟨rfl, rfl, rfl⟩ := e
  obtain ⟨b, off, e1, hb, hcell⟩ := hr (by omega)
  exact ⟨b, off, e1, hcell i _ (List.getElem?_eq_getElem hi)⟩
/-- An address once for all. -/
theorem Rd.addr {w : World} {A : Option Addr} {n cap : Nat} {l : List UInt8} {F : List Nat} (h : Rd w (.slice A n cap) l F) (h0 : 0 < l.length) :
    ∃ b off, A = some ⟨b, off, none⟩ ∧ b ∈ F ∧ ∀ i, (hi : i < l.length) → w.cell? ⟨b, off + i, none⟩ = some (.int .u8 l[i].toNat) := by
  obtain ⟨A', cap', e, _, hr⟩ := h
  simp at e
  obtain ⟨rfl, rfl, rfl⟩ := e
  obtain ⟨b, off, e1, hb, hcell⟩ := hr h0
  exact ⟨b, off, e1, hb, fun i hi => hcell i _ (List.getElem?_eq_getElem hi)⟩
theorem Rd.len {w : World} {A : Option Addr} {n cap : Nat} {l : List UInt8} {F : List Nat} (h : Rd w (.slice A n cap) l F) : n = l.length ∧ n ≤ cap := by
  obtain ⟨A', cap', e, hc, _⟩ := h
  simp at e
  exact ⟨e.2.1, by omega⟩
/-- Cut at its head: the address as the model gives it. -/
theorem Rd.drop {w : World} {A : Option Addr} {n cap : Nat} {l : List UInt8} {F : List Nat} (h : Rd w (.slice A n cap) l F) (k : Nat) (hk : k ≤ n) (A' : Option Addr)
    (hA : k < n → A' = A.map (·.add k)) : Rd w (.slice A' (n - k) (cap - k)) (l.drop k) F := by
  obtain ⟨hn, hc⟩ := h.len
  subst hn
  refine ⟨A', cap - k, by rw [List.length_drop], by rw [List.length_drop]; omega, fun h0 => ?_⟩
  rw [List.length_drop] at h0
  obtain ⟨b, off, rfl, hb, hcell⟩ := h.addr (by omega)
  refine ⟨b, off + k, ?_, hb, fun i c hi => ?_⟩
  · rw [hA (by omega)]; simp [Addr.add]
  · rw [List.getElem?_drop] at hi
    have hil := (List.getElem?_eq_some_iff.1 hi)
    rw [Nat.add_assoc, hcell (k + i) hil.1, hil.2]
theorem Rd.take {w : World} {A : Option Addr} {n cap : Nat} {l : List UInt8} {F : List Nat} (h : Rd w (.slice A n cap) l F) (k : Nat) (hk : k ≤ n) : Rd w (.slice A k cap) (l.take k) F := by
  obtain ⟨hn, hc⟩ := h.len
  subst hn
  refine ⟨A, cap, by rw [List.length_take]; congr 1; omega, by rw [List.length_take]; omega, fun h0 => ?_⟩
  rw [List.length_take] at h0
  obtain ⟨b, off, rfl, hb, hcell⟩ := h.addr (by omega)
  refine ⟨b, off, rfl, hb, fun i c hi => ?_⟩
  rw [List.getElem?_take] at hi
  split at hi
  · have hil := (List.getElem?_eq_some_iff.1 hi)
    rw [hcell i hil.1, hil.2]
  · simp at hi
/-- As a source of cells. -/
theorem Rd.src {w : World} {A : Option Addr} {n cap : Nat} {l : List UInt8} {F : List Nat} (h : Rd w (.slice A n cap) l F) : 0 < n → ∃ a, A = some a ∧ ∀ j u, (bv l)[j]? = some u → w.cell? (a.add j) = some u := by
  intro h0
  obtain ⟨hn, hc⟩ := h.len
  obtain ⟨b, off, rfl, hb, hcell⟩ := h.addr (by omega)
  refine ⟨_, rfl, fun j u hu => ?_⟩
  have hj : j < l.length := by
    have := (List.getElem?_eq_some_iff.1 hu).1
    rwa [bv_length] at this
  rw [bv_get l j l[j] (List.getElem?_eq_getElem hj)] at hu
  have e : ((⟨b, off, none⟩ : Addr).add j) = ⟨b, off + j, none⟩ := by unfold Addr.add; split <;> simp_all
  rw [e, hcell j hj, hu]

/-- Of an argument. -/
theorem Rd.of_row {w : World} {a : Option Addr} {len cap : Nat} {z : Nat → Int} (h : IntRow .u8 w a len cap z) : ∃ l F, Rd w (.slice a len cap) l F ∧ l.length = len ∧ ∀ k ∈ F, k < w.heap.size := by
  have hl : ((List.range len).map fun i => UInt8.ofNat (z i).toNat).length = len := by simp
  rcases Nat.eq_zero_or_pos len with h0 | h0
  · subst h0
    exact ⟨[], [], ⟨a, cap, rfl, by simp, fun h => absurd h (by simp)⟩, rfl, by simp⟩
  · obtain ⟨b, off, ha, hb, _⟩ := h.2 0 h0
    refine ⟨(List.range len).map fun i => UInt8.ofNat (z i).toNat, [b], ⟨a, cap, by rw [hl], by rw [hl]; exact h.1, fun _ => ⟨b, off, ha, by simp, fun i c hi => ?_⟩⟩, hl, by simpa using hb⟩
    have hil : i < len := by have := (List.getElem?_eq_some_iff.1 hi).1; rwa [hl] at this
    obtain ⟨b', off', ha', _, hc, hwf⟩ := h.2 i hil
    rw [ha] at ha'
    simp only [Option.some.injEq, Addr.mk.injEq, and_true] at ha'
    obtain ⟨rfl, rfl⟩ := ha'
    simp only [List.getElem?_map, List.getElem?_range hil, Option.map_some, Option.some.injEq] at hi
    rw [hc, ← hi]
    obtain ⟨g0, g1⟩ := bounds_u8 hwf
    congr 2
    have : (UInt8.ofNat (z i).toNat).toNat = (z i).toNat := by
      rw [UInt8.toNat_ofNat_of_lt']; show (z i).toNat < 256; omega
    rw [this]; omega

/-- append of any source: nil, empty or not. -/
theorem run_append_slz {P : Program} (w : World) (t ty e : TypeId) (i : TypeInfo) (z : Value) (size bytes : Nat) (ht : P.underlying t = some (.slice e)) (hi : P.info? e = some i) (hz : i.zero = some z)
    (hsize : i.size = size) (hby : i.bytes = bytes) (hzs : z.cells.size = size) (hsz : 0 < size)
    (v : Value) (n : Nat) (xs : List Value) (F : List Nat) (hown : Sl w e size v n xs F)
    (A : Option Addr) (m c : Nat) (news : List Value) (hl : news.length = m * size) (hnews : 0 < m → ∃ a, A = some a ∧ ∀ j u, news[j]? = some u → w.cell? (a.add j) = some u) (h1 : ∀ u ∈ news, u.oneCell' = true)
    (h63 : n + m ≤ maxLen) (hbytes : (n + m) * bytes ≤ 140737488355328) :
    ∃ v' w' F', (Builtin.append_ #[t, t] ty #[v, .slice A m c]).run P w = .ok v' w' ∧ Sl w' e size v' (n + m) (xs ++ news) F' ∧ Mod F w w' ∧ (∀ k ∈ F', k ∈ F ∨ w.heap.size ≤ k) := by
  rcases Nat.eq_zero_or_pos m with h0 | h0
  · subst h0
    have hn : news = [] := List.eq_nil_of_length_eq_zero (by simpa using hl)
    subst hn
    have hc0 : ∀ (a : Addr) (j : Nat) (u : Value), ([] : List Value)[j]? = some u → w.cell? (a.add j) = some u := by intro a j u hu; simp at hu
    rcases A with _ | a
    · refine ⟨v, w, F, ?_, by simpa using hown, Mod.refl _ _, fun k hk => .inl hk⟩
      rcases hown.2 with ⟨rfl, rfl, _⟩ | ⟨g, cap, cur, rfl, _, _, hnc, _⟩
      · simp [Builtin.append_, run_underlying ht, sizeOf, typeInfo, hi, Builtin.lenOf, Builtin.firstCells]
      · simp [Builtin.append_, run_underlying ht, sizeOf, typeInfo, hi, Builtin.lenOf, Builtin.firstCells, hnc, storeCells]
    · rcases hown.2 with ⟨rfl, rfl, rfl⟩ | ⟨g, cap, cur, rfl, rfl, hg, hnc, hcm, hcs, htake⟩
      · obtain ⟨v', w', hr, h2, h3, h4⟩ := run_append_own (P := P) w w.heap.size t ty e i z size bytes ht hi hz hsize hby hzs hsz _ 0 xs ⟨hown.1, .inl ⟨rfl, rfl⟩⟩ a 0 c [] hl (hc0 a) h1 h63 hbytes (Nat.le_refl _)
        have hv := h4.2 ⟨rfl, rfl⟩
        subst hv
        exact ⟨_, w', [], hr, ⟨h2.1, .inl ⟨rfl, rfl, rfl⟩⟩, (Mod.refl _ _).grown h3 (fun k hk => by simp [Value.ownBlock] at hk), by simp⟩
      · obtain ⟨w', hr, h2, h3⟩ := run_append_fits (P := P) w 0 t ty e i size ht hi hsize g n cap xs hown.own a 0 c [] hl (hc0 a) h1 hnc
        rcases h2.2 with ⟨hv, _⟩ | ⟨g', cap', cur', hv, _, hg', r⟩
        · simp at hv
        · refine ⟨_, w', [g'], hr, ⟨h2.1, .inr ⟨g', cap', cur', hv, rfl, hg', r⟩⟩, (Mod.refl _ _).grown h3 (fun k hk _ => by simp at hk; simp [hk]), fun k hk => ?_⟩
          simp at hv
          simp at hk
          subst hk
          exact .inl (by simp [hv.1])
  · obtain ⟨a, rfl, hn⟩ := hnews h0
    exact run_append_sl w t ty e i z size bytes ht hi hz hsize hby hzs hsz v n xs F hown a m c news h0 hl hn h1 h63 hbytes

theorem wpList_append_slz {P : Program} (w : World) {ops : Array Oper} {rest : List Oper} {o : Oper} {a : Act} {Q : Exit → Act → World → Prop} (hgd : o.guard = none) (s x : Operand) (t : TypeId)
    (ho : o.op = .call { callee := .builtin .append, args := #[s, x], argTypes := #[t, t] })
    (e : TypeId) (i : TypeInfo) (z : Value) (size bytes : Nat) (ht : P.underlying t = some (.slice e)) (hi : P.info? e = some i) (hz : i.zero = some z)
    (hsize : i.size = size) (hby : i.bytes = bytes) (hzs : z.cells.size = size) (hsz : 0 < size)
    (v : Value) (n : Nat) (xs : List Value) (F : List Nat) (hs : a.eval s = v) (hown : Sl w e size v n xs F)
    (A : Option Addr) (m c : Nat) (news : List Value) (hx : a.eval x = .slice A m c) (hl : news.length = m * size) (hnews : 0 < m → ∃ a, A = some a ∧ ∀ j u, news[j]? = some u → w.cell? (a.add j) = some u) (h1 : ∀ u ∈ news, u.oneCell' = true)
    (h63 : n + m ≤ maxLen) (hbytes : (n + m) * bytes ≤ 140737488355328)
    (h : ∀ v' w' F', Sl w' e size v' (n + m) (xs ++ news) F' → Mod F w w' → (∀ k ∈ F', k ∈ F ∨ w.heap.size ≤ k) → wpList P ops Q rest (a.put o.dst v') w') : wpList P ops Q (o :: rest) a w := by
  refine wpList_plain hgd fun K hK => ?_
  obtain ⟨v', w', F', hr, h2, h3, h4⟩ := run_append_slz (P := P) w t o.type e i z size bytes ht hi hz hsize hby hzs hsz v n xs F hown A m c news hl hnews h1 h63 hbytes
  unfold Oper.wp execOp
  simp only [ho, resolve, invoke, builtin, Sem.run_bind, Sem.run_pure, Result.andThen_ok, List.map_toArray, List.map_cons, List.map_nil, hs, hx, hr]
  exact hK _ _ (h v' w' F' h2 h3 h4)

open Go.Lib in
/-- append of a string's bytes. -/
theorem run_append_sls {P : Program} (w : World) (t u ty e : TypeId) (i : TypeInfo) (ht : P.underlying t = some (.slice e)) (hu : P.underlying u = some .string) (hi : P.info? e = some i) (hz : i.zero = some (.int .u8 0))
    (hsize : i.size = 1) (hby : i.bytes = 1)
    (v : Value) (n : Nat) (xs : List Value) (F : List Nat) (hown : Sl w e 1 v n xs F) (s : ByteArray)
    (h63 : n + s.size ≤ maxLen) (hbytes : n + s.size ≤ 140737488355328) :
    ∃ v' w' F', (Builtin.append_ #[t, u] ty #[v, .string s]).run P w = .ok v' w' ∧ Sl w' e 1 v' (n + s.size) (xs ++ strCells s) F' ∧ Mod F w w' ∧ (∀ k ∈ F', k ∈ F ∨ w.heap.size ≤ k) := by
  have hsmall : n + s.size ≤ 9223372036854775807 := by simp only [maxLen] at h63; omega
  rcases hown.2 with ⟨rfl, rfl, rfl⟩ | ⟨g, cap, cur, rfl, rfl, hg, hnc, hcm, hcs, htake⟩
  · obtain ⟨v', w', hr, h2, h3, h4⟩ := run_append_own_string (P := P) w w.heap.size t u ty e i ht hu hi hz hsize hby _ 0 xs ⟨hown.1, .inl ⟨rfl, rfl⟩⟩ s h63 hbytes (Nat.le_refl _)
    rcases h2.2 with ⟨hv, hn⟩ | ⟨g, cap, cur, hv, hb, hg, r⟩
    · subst hv
      exact ⟨_, w', [], hr, ⟨h2.1, .inl ⟨rfl, hn, rfl⟩⟩, (Mod.refl _ _).grown h3 (fun k hk => by simp [Value.ownBlock] at hk), by simp⟩
    · refine ⟨v', w', [g], hr, ⟨h2.1, .inr ⟨g, cap, cur, hv, rfl, hg, r⟩⟩, (Mod.refl _ _).grown h3 (fun k hk => by simp [Value.ownBlock] at hk), fun k hk => ?_⟩
      simp at hk; subst hk; exact .inr hb
  · have hxl : xs.length = n := by simpa using hown.1
    have hcs' : cur.size = cap := by simpa using hcs
    have hlen : (xs ++ strCells s).length = (n + s.size) * 1 := by rw [List.length_append, hxl, strCells_length, Nat.mul_one]
    have ht' : cur.toList.take n = xs := by simpa using htake
    by_cases hroom : n + s.size ≤ cap
    · have hr := run_append_room_string (P := P) w t u ty e i ht hu hi hsize g n cap cur hg s hroom (by omega)
      refine ⟨_, _, [g], hr, ⟨hlen, .inr ⟨g, cap, _, rfl, rfl, setRow_heap w g cur _ e _ hg, hroom, hcm, ?_, ?_⟩⟩, ⟨rfl, rfl, rfl, by simp, fun k _ hk => setRow_other w g k _ (fun e => hk (by simp [e]))⟩, fun k hk => .inl hk⟩
      · simp only [List.size_toArray, List.length_append, List.length_take, List.length_drop, Array.length_toList, strCells_length]
        omega
      · rw [ht', ← hlen]
        exact List.take_left
    · have holds : ∀ j u, xs[j]? = some u → w.cell? ((⟨g, 0, none⟩ : Addr).add j) = some u := hown.own.cells (g := g) rfl
      have hr := run_append_grow_string (P := P) w t u ty e i (.int .u8 0) ht hu hi hz ⟨g, 0, none⟩ n cap xs (by rw [hsize]; simpa using hxl) holds s (by omega) (by omega) (by rw [hby]; exact growslice_fits (by omega) (by omega))
      have hge := grownCap_ge w (n + s.size) cap e
      refine ⟨_, _, [w.heap.size], hr, ⟨hlen, .inr ⟨w.heap.size, _, _, rfl, rfl, heap_alloc_new w.drew _, hge, grownCap_le_maxLen w (n + s.size) cap e h63, ?_, ?_⟩⟩, ((Mod.refl _ _).drew).alloc _, fun k hk => by simp at hk; subst hk; exact .inr (Nat.le_refl _)⟩
      · have hz1 : (Value.int IntKind.u8 0).cells.size = 1 := rfl
        simp only [Array.size_append, List.size_toArray, size_zeroCells, hz1, hxl, strCells_length]
        omega
      · simp only [Array.toList_append, List.append_assoc]
        rw [← List.append_assoc, ← hlen]
        exact List.take_left

open Go.Lib in
theorem wpList_append_sls {P : Program} (w : World) {ops : Array Oper} {rest : List Oper} {o : Oper} {a : Act} {Q : Exit → Act → World → Prop} (hgd : o.guard = none) (sl x : Operand) (t u : TypeId)
    (ho : o.op = .call { callee := .builtin .append, args := #[sl, x], argTypes := #[t, u] })
    (e : TypeId) (i : TypeInfo) (ht : P.underlying t = some (.slice e)) (hu : P.underlying u = some .string) (hi : P.info? e = some i) (hz : i.zero = some (.int .u8 0))
    (hsize : i.size = 1) (hby : i.bytes = 1)
    (v : Value) (n : Nat) (xs : List Value) (F : List Nat) (hs : a.eval sl = v) (hown : Sl w e 1 v n xs F) (s : ByteArray) (hx : a.eval x = .string s)
    (h63 : n + s.size ≤ maxLen) (hbytes : n + s.size ≤ 140737488355328)
    (h : ∀ v' w' F', Sl w' e 1 v' (n + s.size) (xs ++ strCells s) F' → Mod F w w' → (∀ k ∈ F', k ∈ F ∨ w.heap.size ≤ k) → wpList P ops Q rest (a.put o.dst v') w') : wpList P ops Q (o :: rest) a w := by
  refine wpList_plain hgd fun K hK => ?_
  obtain ⟨v', w', F', hr, h2, h3, h4⟩ := run_append_sls (P := P) w t u o.type e i ht hu hi hz hsize hby v n xs F hown s h63 hbytes
  unfold Oper.wp execOp
  simp only [ho, resolve, invoke, builtin, Sem.run_bind, Sem.run_pure, Result.andThen_ok, List.map_toArray, List.map_cons, List.map_nil, hs, hx, hr]
  exact hK _ _ (h v' w' F' h2 h3 h4)

theorem strCells_bv (s : ByteArray) : Go.Lib.strCells s = bv s.data.toList := rfl
end Go.Proofs.Ytlmlijmfcpenpaa

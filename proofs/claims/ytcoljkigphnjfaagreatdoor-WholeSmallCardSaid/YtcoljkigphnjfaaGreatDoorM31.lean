/- References: halves, end, none, Num, Tag. Printed by topterm.py. · References: the terms of BDDs and of ZDDs. · References: the terms of CBDDs. Printed by topterm3.py. · References: the terms of CZDDs. Printed by topterm4.py. -/
import Derived.Test.YtcoljkigphnjfaaGreatDoorM01
import Derived.Laws.IdiomStrings
import Derived.Laws.BytesString
set_option linter.unusedVariables false
set_option linter.unusedSimpArgs false
namespace Go.Proofs.YtcoljkigphnjfaaGreatDoor
open Go.RowKit

/-- A text of bytes. -/
def sv (l : List UInt8) : Value := .string ⟨l.toArray⟩
/-- Is nothing in a table? -/
def noneB (t : List Bool) : Bool := decide (true ∉ t)
/-- Two halves of a table. -/
def HalvesP (w : World) (lo hi : List Bool) (F : List Nat) (e : Ending) (w' : World) : Prop :=
  ∃ v1 v2, e = .returned (.tuple #[v1, v2]) ∧ Mod [] w w' ∧ Rv w' v1 (lo.map eb) F ∧ Rv w' v2 (hi.map eb) F

set_option maxHeartbeats 1000000 in
theorem halves12_c {w : World} {v : Value} {t : List Bool} {F : List Nat} (h : Rv w v (t.map eb) F) (h2 : 2 ≤ t.length) (hl : t.length ≤ 1000) (lo hi : List Bool) (hlo : t.take (t.length / 2) = lo) (hhi : t.drop (t.length / 2) = hi) : Calls Tryz.prog 122 #[v] w (HalvesP w lo hi F) := by
  obtain ⟨A, cap, rfl, hc⟩ := h.shape
  have H := Lib.hid h
  have HLO := Lib.hid hlo
  have HHI := Lib.hid hhi
  simp only [List.length_map] at H hc ⊢
  clear h hlo hhi
  obtain ⟨n, hn⟩ : ∃ n, t.length = n := ⟨_, rfl⟩
  rw [hn] at H hc h2 hl HLO HHI ⊢
  have HN := Lib.hid hn
  have hA : Hid (∃ b off, A = some ⟨b, off, none⟩) := by
    obtain ⟨b, off, e, _⟩ := H.out.addr (by rw [List.length_map, HN.out]; omega)
    exact ⟨b, off, e⟩
  obtain ⟨b, off, rfl⟩ := hA.out
  have h0 : (0 : Int) ≤ (n : Int) / 2 := by omega
  have h1 : (n : Int) / 2 ≤ cap := by omega
  have h3 : (n : Int) / 2 ≤ n := by omega
  have h4 : (n : Int) / 2 < cap := by omega
  have hne : ((n : Int) / 2 == (cap : Int)) = false := by rw [beq_eq_false_iff_ne]; omega
  have hcp : ¬ cap = n / 2 := by omega
  have hcp2 : ¬ n / 2 = cap := by omega
  clear hn hA
  go_enter Tryz.func122, Tryz.ntmps122
  go_wp2_with fail
  go_quiet (fail)
  go_wp2_with fail
  go_ret2
  refine ⟨_, _, rfl, by (repeat (first | exact Mod.refl _ _ | apply Mod.drew | apply Mod.drewN | apply Mod.alloc | refine Mod.setCell ?_ _ _ (by first | simp | (simp; omega)))), ?_, ?_⟩
  · have := H.out.take (n / 2) (by omega)
    rw [← HLO.out, List.map_take]; exact this
  · have := H.out.drop (n / 2) (by omega) (some ⟨b, off + n / 2, none⟩) (fun _ => by simp [Addr.add]; try omega)
    rw [← HHI.out, List.map_drop]; exact this

set_option maxHeartbeats 1000000 in
theorem halves13_c {w : World} {v : Value} {t : List Bool} {F : List Nat} (h : Rv w v (t.map eb) F) (h2 : 2 ≤ t.length) (hl : t.length ≤ 1000) (lo hi : List Bool) (hlo : t.take (t.length / 2) = lo) (hhi : t.drop (t.length / 2) = hi) : Calls Tryz.prog 126 #[v] w (HalvesP w lo hi F) := by
  obtain ⟨A, cap, rfl, hc⟩ := h.shape
  have H := Lib.hid h
  have HLO := Lib.hid hlo
  have HHI := Lib.hid hhi
  simp only [List.length_map] at H hc ⊢
  clear h hlo hhi
  obtain ⟨n, hn⟩ : ∃ n, t.length = n := ⟨_, rfl⟩
  rw [hn] at H hc h2 hl HLO HHI ⊢
  have HN := Lib.hid hn
  have hA : Hid (∃ b off, A = some ⟨b, off, none⟩) := by
    obtain ⟨b, off, e, _⟩ := H.out.addr (by rw [List.length_map, HN.out]; omega)
    exact ⟨b, off, e⟩
  obtain ⟨b, off, rfl⟩ := hA.out
  have h0 : (0 : Int) ≤ (n : Int) / 2 := by omega
  have h1 : (n : Int) / 2 ≤ cap := by omega
  have h3 : (n : Int) / 2 ≤ n := by omega
  have h4 : (n : Int) / 2 < cap := by omega
  have hne : ((n : Int) / 2 == (cap : Int)) = false := by rw [beq_eq_false_iff_ne]; omega
  have hcp : ¬ cap = n / 2 := by omega
  have hcp2 : ¬ n / 2 = cap := by omega
  clear hn hA
  go_enter Tryz.func126, Tryz.ntmps126
  go_wp2_with fail
  go_quiet (fail)
  go_wp2_with fail
  go_ret2
  refine ⟨_, _, rfl, by (repeat (first | exact Mod.refl _ _ | apply Mod.drew | apply Mod.drewN | apply Mod.alloc | refine Mod.setCell ?_ _ _ (by first | simp | (simp; omega)))), ?_, ?_⟩
  · have := H.out.take (n / 2) (by omega)
    rw [← HLO.out, List.map_take]; exact this
  · have := H.out.drop (n / 2) (by omega) (some ⟨b, off + n / 2, none⟩) (fun _ => by simp [Addr.add]; try omega)
    rw [← HHI.out, List.map_drop]; exact this

set_option maxHeartbeats 1000000 in
theorem halves14_c {w : World} {v : Value} {t : List Bool} {F : List Nat} (h : Rv w v (t.map eb) F) (h2 : 2 ≤ t.length) (hl : t.length ≤ 1000) (lo hi : List Bool) (hlo : t.take (t.length / 2) = lo) (hhi : t.drop (t.length / 2) = hi) : Calls Tryz.prog 129 #[v] w (HalvesP w lo hi F) := by
  obtain ⟨A, cap, rfl, hc⟩ := h.shape
  have H := Lib.hid h
  have HLO := Lib.hid hlo
  have HHI := Lib.hid hhi
  simp only [List.length_map] at H hc ⊢
  clear h hlo hhi
  obtain ⟨n, hn⟩ : ∃ n, t.length = n := ⟨_, rfl⟩
  rw [hn] at H hc h2 hl HLO HHI ⊢
  have HN := Lib.hid hn
  have hA : Hid (∃ b off, A = some ⟨b, off, none⟩) := by
    obtain ⟨b, off, e, _⟩ := H.out.addr (by rw [List.length_map, HN.out]; omega)
    exact ⟨b, off, e⟩
  obtain ⟨b, off, rfl⟩ := hA.out
  have h0 : (0 : Int) ≤ (n : Int) / 2 := by omega
  have h1 : (n : Int) / 2 ≤ cap := by omega
  have h3 : (n : Int) / 2 ≤ n := by omega
  have h4 : (n : Int) / 2 < cap := by omega
  have hne : ((n : Int) / 2 == (cap : Int)) = false := by rw [beq_eq_false_iff_ne]; omega
  have hcp : ¬ cap = n / 2 := by omega
  have hcp2 : ¬ n / 2 = cap := by omega
  clear hn hA
  go_enter Tryz.func129, Tryz.ntmps129
  go_wp2_with fail
  go_quiet (fail)
  go_wp2_with fail
  go_ret2
  refine ⟨_, _, rfl, by (repeat (first | exact Mod.refl _ _ | apply Mod.drew | apply Mod.drewN | apply Mod.alloc | refine Mod.setCell ?_ _ _ (by first | simp | (simp; omega)))), ?_, ?_⟩
  · have := H.out.take (n / 2) (by omega)
    rw [← HLO.out, List.map_take]; exact this
  · have := H.out.drop (n / 2) (by omega) (some ⟨b, off + n / 2, none⟩) (fun _ => by simp [Addr.add]; try omega)
    rw [← HHI.out, List.map_drop]; exact this

set_option maxHeartbeats 1000000 in
theorem halves15_c {w : World} {v : Value} {t : List Bool} {F : List Nat} (h : Rv w v (t.map eb) F) (h2 : 2 ≤ t.length) (hl : t.length ≤ 1000) (lo hi : List Bool) (hlo : t.take (t.length / 2) = lo) (hhi : t.drop (t.length / 2) = hi) : Calls Tryz.prog 131 #[v] w (HalvesP w lo hi F) := by
  obtain ⟨A, cap, rfl, hc⟩ := h.shape
  have H := Lib.hid h
  have HLO := Lib.hid hlo
  have HHI := Lib.hid hhi
  simp only [List.length_map] at H hc ⊢
  clear h hlo hhi
  obtain ⟨n, hn⟩ : ∃ n, t.length = n := ⟨_, rfl⟩
  rw [hn] at H hc h2 hl HLO HHI ⊢
  have HN := Lib.hid hn
  have hA : Hid (∃ b off, A = some ⟨b, off, none⟩) := by
    obtain ⟨b, off, e, _⟩ := H.out.addr (by rw [List.length_map, HN.out]; omega)
    exact ⟨b, off, e⟩
  obtain ⟨b, off, rfl⟩ := hA.out
  have h0 : (0 : Int) ≤ (n : Int) / 2 := by omega
  have h1 : (n : Int) / 2 ≤ cap := by omega
  have h3 : (n : Int) / 2 ≤ n := by omega
  have h4 : (n : Int) / 2 < cap := by omega
  have hne : ((n : Int) / 2 == (cap : Int)) = false := by rw [beq_eq_false_iff_ne]; omega
  have hcp : ¬ cap = n / 2 := by omega
  have hcp2 : ¬ n / 2 = cap := by omega
  clear hn hA
  go_enter Tryz.func131, Tryz.ntmps131
  go_wp2_with fail
  go_quiet (fail)
  go_wp2_with fail
  go_ret2
  refine ⟨_, _, rfl, by (repeat (first | exact Mod.refl _ _ | apply Mod.drew | apply Mod.drewN | apply Mod.alloc | refine Mod.setCell ?_ _ _ (by first | simp | (simp; omega)))), ?_, ?_⟩
  · have := H.out.take (n / 2) (by omega)
    rw [← HLO.out, List.map_take]; exact this
  · have := H.out.drop (n / 2) (by omega) (some ⟨b, off + n / 2, none⟩) (fun _ => by simp [Addr.add]; try omega)
    rw [← HHI.out, List.map_drop]; exact this

set_option maxHeartbeats 1000000 in
theorem halves16_c {w : World} {v : Value} {t : List Bool} {F : List Nat} (h : Rv w v (t.map eb) F) (h2 : 2 ≤ t.length) (hl : t.length ≤ 1000) (lo hi : List Bool) (hlo : t.take (t.length / 2) = lo) (hhi : t.drop (t.length / 2) = hi) : Calls Tryz.prog 133 #[v] w (HalvesP w lo hi F) := by
  obtain ⟨A, cap, rfl, hc⟩ := h.shape
  have H := Lib.hid h
  have HLO := Lib.hid hlo
  have HHI := Lib.hid hhi
  simp only [List.length_map] at H hc ⊢
  clear h hlo hhi
  obtain ⟨n, hn⟩ : ∃ n, t.length = n := ⟨_, rfl⟩
  rw [hn] at H hc h2 hl HLO HHI ⊢
  have HN := Lib.hid hn
  have hA : Hid (∃ b off, A = some ⟨b, off, none⟩) := by
    obtain ⟨b, off, e, _⟩ := H.out.addr (by rw [List.length_map, HN.out]; omega)
    exact ⟨b, off, e⟩
  obtain ⟨b, off, rfl⟩ := hA.out
  have h0 : (0 : Int) ≤ (n : Int) / 2 := by omega
  have h1 : (n : Int) / 2 ≤ cap := by omega
  have h3 : (n : Int) / 2 ≤ n := by omega
  have h4 : (n : Int) / 2 < cap := by omega
  have hne : ((n : Int) / 2 == (cap : Int)) = false := by rw [beq_eq_false_iff_ne]; omega
  have hcp : ¬ cap = n / 2 := by omega
  have hcp2 : ¬ n / 2 = cap := by omega
  clear hn hA
  go_enter Tryz.func133, Tryz.ntmps133
  go_wp2_with fail
  go_quiet (fail)
  go_wp2_with fail
  go_ret2
  refine ⟨_, _, rfl, by (repeat (first | exact Mod.refl _ _ | apply Mod.drew | apply Mod.drewN | apply Mod.alloc | refine Mod.setCell ?_ _ _ (by first | simp | (simp; omega)))), ?_, ?_⟩
  · have := H.out.take (n / 2) (by omega)
    rw [← HLO.out, List.map_take]; exact this
  · have := H.out.drop (n / 2) (by omega) (some ⟨b, off + n / 2, none⟩) (fun _ => by simp [Addr.add]; try omega)
    rw [← HHI.out, List.map_drop]; exact this

theorem end12_c (b : Bool) (w : World) : Calls Tryz.prog 121 #[eb b] w fun e w' => e = .returned (sv [if b then 49 else 48]) ∧ w' = w := by
  unfold eb sv
  cases b with
  | true =>
    go_enter Tryz.func121, Tryz.ntmps121
    go_wp2
    go_ret
    exact ⟨rfl, rfl⟩
  | false =>
    go_enter Tryz.func121, Tryz.ntmps121
    go_wp2
    go_ret
    exact ⟨rfl, rfl⟩

theorem end13_c (b : Bool) (w : World) : Calls Tryz.prog 125 #[eb b] w fun e w' => e = .returned (sv [if b then 49 else 48]) ∧ w' = w := by
  unfold eb sv
  cases b with
  | true =>
    go_enter Tryz.func125, Tryz.ntmps125
    go_wp2
    go_ret
    exact ⟨rfl, rfl⟩
  | false =>
    go_enter Tryz.func125, Tryz.ntmps125
    go_wp2
    go_ret
    exact ⟨rfl, rfl⟩

theorem end14_c (b : Bool) (w : World) : Calls Tryz.prog 128 #[eb b] w fun e w' => e = .returned (sv [if b then 49 else 48]) ∧ w' = w := by
  unfold eb sv
  cases b with
  | true =>
    go_enter Tryz.func128, Tryz.ntmps128
    go_wp2
    go_ret
    exact ⟨rfl, rfl⟩
  | false =>
    go_enter Tryz.func128, Tryz.ntmps128
    go_wp2
    go_ret
    exact ⟨rfl, rfl⟩

set_option maxHeartbeats 1000000 in
theorem none13_c {w : World} {v : Value} {t : List Bool} {F : List Nat} (h : Rv w v (t.map eb) F) (hl : t.length ≤ 1048576) : Calls Tryz.prog 127 #[v] w fun e w' => e = .returned (.bool (noneB t)) ∧ w' = w := by
  obtain ⟨A, cap, rfl, hc⟩ := h.shape
  have H := Lib.hid h
  simp only [List.length_map] at H hc ⊢
  clear h
  obtain ⟨n, hn⟩ : ∃ n, t.length = n := ⟨_, rfl⟩
  rw [hn] at H hc hl ⊢
  have HN := Lib.hid hn
  clear hn
  go_enter Tryz.func127, Tryz.ntmps127
  go_wp2_with fail
  go_loop [3] (fun i => ∃ k : Nat, k ≤ n ∧ i = .int .i64 k ∧ Hid (true ∉ t.take k)) (fun i => n - (intOf i).toNat)
  case atStart => exact ⟨0, by omega, rfl, by show _ ∉ _; simp⟩
  case round =>
    obtain ⟨k, hk, rfl, HX⟩ := hrel
    by_cases hlt : k < n
    · have hlt' : (k : Int) < n := by omega
      have hk1 : k < t.length := by rw [HN.out]; exact hlt
      obtain ⟨b1, o1, rfl, d1⟩ := H.out.at k (by rw [List.length_map]; exact hk1)
      rw [List.getElem_map] at d1
      have TA : Hid (t.take (k + 1) = t.take k ++ [t[k]]) := List.take_succ_eq_append_getElem hk1
      have TM : Hid (t[k] ∈ t) := List.getElem_mem _
      unfold eb at d1
      generalize t[k] = y at *
      cases y with
      | true =>
        have E : Hid (noneB t = false) := by show _ = _; unfold noneB; rw [decide_eq_false_iff_not]; exact fun h => h TM.out
        go_wp2_with fail
        go_ret
        exact ⟨by rw [E.out]; rfl, rfl⟩
      | false =>
        have HX2 : Hid (true ∉ t.take (k + 1)) := by
          show _ ∉ _
          rw [TA.out]; simp; exact HX.out
        go_wp2_with fail
        go_round
        case rel => exact ⟨k + 1, by omega, by go_num, HX2⟩
        case measure => simp [intOf]; omega
    · obtain rfl : k = n := by omega
      have E : Hid (noneB t = true) := by
        show _ = _
        have h1 := HX.out
        rw [List.take_of_length_le (by rw [HN.out]; exact Nat.le_refl _)] at h1
        unfold noneB; rw [decide_eq_true_eq]; exact h1
      go_wp2_with fail
      go_ret
      exact ⟨by rw [E.out]; rfl, rfl⟩

set_option maxHeartbeats 1000000 in
theorem none15_c {w : World} {v : Value} {t : List Bool} {F : List Nat} (h : Rv w v (t.map eb) F) (hl : t.length ≤ 1048576) : Calls Tryz.prog 130 #[v] w fun e w' => e = .returned (.bool (noneB t)) ∧ w' = w := by
  obtain ⟨A, cap, rfl, hc⟩ := h.shape
  have H := Lib.hid h
  simp only [List.length_map] at H hc ⊢
  clear h
  obtain ⟨n, hn⟩ : ∃ n, t.length = n := ⟨_, rfl⟩
  rw [hn] at H hc hl ⊢
  have HN := Lib.hid hn
  clear hn
  go_enter Tryz.func130, Tryz.ntmps130
  go_wp2_with fail
  go_loop [3] (fun i => ∃ k : Nat, k ≤ n ∧ i = .int .i64 k ∧ Hid (true ∉ t.take k)) (fun i => n - (intOf i).toNat)
  case atStart => exact ⟨0, by omega, rfl, by show _ ∉ _; simp⟩
  case round =>
    obtain ⟨k, hk, rfl, HX⟩ := hrel
    by_cases hlt : k < n
    · have hlt' : (k : Int) < n := by omega
      have hk1 : k < t.length := by rw [HN.out]; exact hlt
      obtain ⟨b1, o1, rfl, d1⟩ := H.out.at k (by rw [List.length_map]; exact hk1)
      rw [List.getElem_map] at d1
      have TA : Hid (t.take (k + 1) = t.take k ++ [t[k]]) := List.take_succ_eq_append_getElem hk1
      have TM : Hid (t[k] ∈ t) := List.getElem_mem _
      unfold eb at d1
      generalize t[k] = y at *
      cases y with
      | true =>
        have E : Hid (noneB t = false) := by show _ = _; unfold noneB; rw [decide_eq_false_iff_not]; exact fun h => h TM.out
        go_wp2_with fail
        go_ret
        exact ⟨by rw [E.out]; rfl, rfl⟩
      | false =>
        have HX2 : Hid (true ∉ t.take (k + 1)) := by
          show _ ∉ _
          rw [TA.out]; simp; exact HX.out
        go_wp2_with fail
        go_round
        case rel => exact ⟨k + 1, by omega, by go_num, HX2⟩
        case measure => simp [intOf]; omega
    · obtain rfl : k = n := by omega
      have E : Hid (noneB t = true) := by
        show _ = _
        have h1 := HX.out
        rw [List.take_of_length_le (by rw [HN.out]; exact Nat.le_refl _)] at h1
        unfold noneB; rw [decide_eq_true_eq]; exact h1
      go_wp2_with fail
      go_ret
      exact ⟨by rw [E.out]; rfl, rfl⟩

set_option maxHeartbeats 1000000 in
theorem none16_c {w : World} {v : Value} {t : List Bool} {F : List Nat} (h : Rv w v (t.map eb) F) (hl : t.length ≤ 1048576) : Calls Tryz.prog 132 #[v] w fun e w' => e = .returned (.bool (noneB t)) ∧ w' = w := by
  obtain ⟨A, cap, rfl, hc⟩ := h.shape
  have H := Lib.hid h
  simp only [List.length_map] at H hc ⊢
  clear h
  obtain ⟨n, hn⟩ : ∃ n, t.length = n := ⟨_, rfl⟩
  rw [hn] at H hc hl ⊢
  have HN := Lib.hid hn
  clear hn
  go_enter Tryz.func132, Tryz.ntmps132
  go_wp2_with fail
  go_loop [3] (fun i => ∃ k : Nat, k ≤ n ∧ i = .int .i64 k ∧ Hid (true ∉ t.take k)) (fun i => n - (intOf i).toNat)
  case atStart => exact ⟨0, by omega, rfl, by show _ ∉ _; simp⟩
  case round =>
    obtain ⟨k, hk, rfl, HX⟩ := hrel
    by_cases hlt : k < n
    · have hlt' : (k : Int) < n := by omega
      have hk1 : k < t.length := by rw [HN.out]; exact hlt
      obtain ⟨b1, o1, rfl, d1⟩ := H.out.at k (by rw [List.length_map]; exact hk1)
      rw [List.getElem_map] at d1
      have TA : Hid (t.take (k + 1) = t.take k ++ [t[k]]) := List.take_succ_eq_append_getElem hk1
      have TM : Hid (t[k] ∈ t) := List.getElem_mem _
      unfold eb at d1
      generalize t[k] = y at *
      cases y with
      | true =>
        have E : Hid (noneB t = false) := by show _ = _; unfold noneB; rw [decide_eq_false_iff_not]; exact fun h => h TM.out
        go_wp2_with fail
        go_ret
        exact ⟨by rw [E.out]; rfl, rfl⟩
      | false =>
        have HX2 : Hid (true ∉ t.take (k + 1)) := by
          show _ ∉ _
          rw [TA.out]; simp; exact HX.out
        go_wp2_with fail
        go_round
        case rel => exact ⟨k + 1, by omega, by go_num, HX2⟩
        case measure => simp [intOf]; omega
    · obtain rfl : k = n := by omega
      have E : Hid (noneB t = true) := by
        show _ = _
        have h1 := HX.out
        rw [List.take_of_length_le (by rw [HN.out]; exact Nat.le_refl _)] at h1
        unfold noneB; rw [decide_eq_true_eq]; exact h1
      go_wp2_with fail
      go_ret
      exact ⟨by rw [E.out]; rfl, rfl⟩

/-- A digit's byte. -/
def dg (n : Nat) : UInt8 := UInt8.ofNat (48 + n)
theorem num_c (n : Nat) (hn : n < 10) (w : World) : Calls Tryz.prog 124 #[.int .i64 n] w fun e w' => e = .returned (sv [dg n]) ∧ Mod [] w w' := by
  have hn' : (n : Int) < 10 := by omega
  obtain ⟨gk, hgk⟩ : ∃ gk, w.heap.size = gk := ⟨_, rfl⟩
  have CV : (convert 96 9 (.slice (some ⟨gk, 0, none⟩) 1 1)).run Tryz.prog (w.alloc (.cells #[.int .u8 (48 + n)] 5)) = .ok (.string ⟨#[dg n]⟩) (w.alloc (.cells #[.int .u8 (48 + n)] 5)) := by
    refine run_convert_bytes_back _ 96 9 5 ⟨gk, 0, none⟩ 1 [dg n] Tryz.underlying96 Tryz.underlying5 Tryz.underlying9 (fun j hj => ?_)
    obtain rfl : j = 0 := by simpa using hj
    have := (Blk.new' w #[.int .u8 (48 + n)] 5 gk hgk.symm).cell 0
    have e : ((dg n).toNat : Int) = 48 + n := by
      have h1 : (dg n).toNat = 48 + n := by unfold dg; rw [UInt8.toNat_ofNat']; omega
      rw [h1]; simp
    simp only [List.getElem_cons_zero, e]
    exact this
  unfold sv
  generalize dg n = d at *
  go_enter Tryz.func124, Tryz.ntmps124
  go_wp2_with fail
  go_ret
  exact ⟨rfl, by (repeat (first | exact Mod.refl _ _ | apply Mod.drew | apply Mod.drewN | apply Mod.alloc | refine Mod.setCell ?_ _ _ (by first | simp | (simp; omega))))⟩
theorem ba_app (a b : List UInt8) : (⟨a.toArray⟩ : ByteArray) ++ ⟨b.toArray⟩ = ⟨(a ++ b).toArray⟩ := by
  apply ByteArray.ext
  rw [ByteArray.data_append]
  simp
theorem tag_c (n : Nat) (hn : n < 10) (w : World) : Calls Tryz.prog 135 #[.int .i64 n] w fun e w' => e = .returned (sv [dg n, 64]) ∧ Mod [] w w' := by
  have NU := Lib.hid (num_c n hn w)
  unfold sv at *
  go_enter Tryz.func135, Tryz.ntmps135
  go_wp2_with fail
  refine NU.out.mono ?_
  rintro e w' ⟨rfl, m⟩
  have M := Lib.hid m
  clear m
  go_wp2_with fail
  go_ret
  exact ⟨congrArg (fun x => Ending.returned (.string x)) (ba_app [dg n] [64]), M.out⟩
end Go.Proofs.YtcoljkigphnjfaaGreatDoor
set_option linter.unusedVariables false
set_option linter.unusedSimpArgs false
namespace Go.Proofs.YtcoljkigphnjfaaGreatDoor
open Go.RowKit

def endT (t : List Bool) : List UInt8 := [if t.headD false then 49 else 48]
def term1 : Nat → List Bool → Nat → List UInt8
  | 0, t, _ => endT t
  | k + 1, t, l =>
    if t.take (2 ^ k) = t.drop (2 ^ k) then term1 k (t.take (2 ^ k)) (l + 1)
    else [40] ++ [dg l] ++ [32] ++ term1 k (t.take (2 ^ k)) (l + 1) ++ [32] ++ term1 k (t.drop (2 ^ k)) (l + 1) ++ [41]
def term2 : Nat → List Bool → Nat → List UInt8
  | 0, t, _ => endT t
  | k + 1, t, l =>
    if noneB (t.drop (2 ^ k)) then term2 k (t.take (2 ^ k)) (l + 1)
    else [40] ++ [dg l] ++ [32] ++ term2 k (t.take (2 ^ k)) (l + 1) ++ [32] ++ term2 k (t.drop (2 ^ k)) (l + 1) ++ [41]
theorem term1_len : ∀ (k : Nat) (t : List Bool) (l : Nat), (term1 k t l).length + 7 ≤ 10 * 2 ^ k := by
  intro k
  induction k with
  | zero => intro t l; simp [term1, endT]
  | succ k ih =>
    intro t l
    have h1 := ih (t.take (2 ^ k)) (l + 1)
    have h2 := ih (t.drop (2 ^ k)) (l + 1)
    rw [term1, Nat.pow_succ]
    split
    · omega
    · simp only [List.length_append, List.length_cons, List.length_nil]; omega
theorem term2_len : ∀ (k : Nat) (t : List Bool) (l : Nat), (term2 k t l).length + 7 ≤ 10 * 2 ^ k := by
  intro k
  induction k with
  | zero => intro t l; simp [term2, endT]
  | succ k ih =>
    intro t l
    have h1 := ih (t.take (2 ^ k)) (l + 1)
    have h2 := ih (t.drop (2 ^ k)) (l + 1)
    rw [term2, Nat.pow_succ]
    split
    · omega
    · simp only [List.length_append, List.length_cons, List.length_nil]; omega
theorem pow64 {k : Nat} (h : k ≤ 6) : 2 ^ k ≤ 64 := by have := Nat.pow_le_pow_right (n := 2) (by omega) h; simpa using this
theorem cat7 (a b c d e f g : List UInt8) : (((((((⟨a.toArray⟩ : ByteArray) ++ ⟨b.toArray⟩) ++ ⟨c.toArray⟩) ++ ⟨d.toArray⟩) ++ ⟨e.toArray⟩) ++ ⟨f.toArray⟩) ++ ⟨g.toArray⟩) = ⟨(a ++ b ++ c ++ d ++ e ++ f ++ g).toArray⟩ := by
  simp only [ba_app]
theorem half_len {t : List Bool} {k : Nat} (h : t.length = 2 ^ (k + 1)) : t.length / 2 = 2 ^ k ∧ (t.take (2 ^ k)).length = 2 ^ k ∧ (t.drop (2 ^ k)).length = 2 ^ k ∧ 2 ≤ t.length := by
  have h1 : (2 : Nat) ^ (k + 1) = 2 * 2 ^ k := by rw [Nat.pow_succ]; omega
  have h2 := Nat.two_pow_pos k
  rw [List.length_take, List.length_drop]
  omega
theorem Rv.frame {w : World} {v : Value} {l : List Value} {F : List Nat} (h : Rv w v l F) : ∃ A cap, v = .slice A l.length cap := by
  obtain ⟨A, cap, e, _⟩ := h; exact ⟨A, cap, e⟩

set_option maxRecDepth 100000 in
set_option maxHeartbeats 1000000 in
theorem term12_c : ∀ (k : Nat) (t : List Bool) (l : Nat) (w : World) (v : Value) (F : List Nat), Rv w v (t.map eb) F → t.length = 2 ^ k → l + k < 10 → k ≤ 6 →
    Calls Tryz.prog 84 #[v, .int .i64 l] w fun e w' => e = .returned (sv (term1 k t l)) ∧ Mod [] w w' := by
  intro k
  induction k with
  | zero =>
    intro t l w v F h hl hlk hk
    obtain ⟨A, cap, rfl, hc⟩ := h.shape
    have h1 : t.length = 1 := by simpa using hl
    simp only [List.length_map, h1] at hc h ⊢
    obtain ⟨b, off, rfl, d⟩ := h.at 0 (by rw [List.length_map]; omega)
    obtain ⟨x, rfl⟩ : ∃ x, t = [x] := List.length_eq_one_iff.1 h1
    simp only [List.map_cons, List.map_nil, List.getElem_cons_zero] at d
    rw [Nat.add_zero] at d
    have EN := Lib.hid (end12_c x)
    unfold eb at *
    clear h hl h1
    cases x
    all_goals
      go_enter Tryz.func84, Tryz.ntmps84
      go_wp2_with fail
      refine (EN.out _).mono ?_
      rintro e w' ⟨rfl, rfl⟩
      unfold sv
      go_wp2_with fail
      go_ret
      exact ⟨rfl, Mod.refl _ _⟩
  | succ k ih =>
    intro t l w v F h hl hlk hk
    obtain ⟨hh, h3, h4, h5⟩ := half_len hl
    have h128 : t.length ≤ 128 := by rw [hl]; have := Nat.pow_le_pow_right (n := 2) (by omega) (show k + 1 ≤ 7 by omega); simpa using this
    obtain ⟨A, cap, rfl⟩ := h.frame
    have H := Lib.hid h
    simp only [List.length_map] at H ⊢
    have hne : ((t.length : Int) == 1) = false := by rw [beq_eq_false_iff_ne]; omega
    have NU := Lib.hid (num_c l (by omega))
    obtain ⟨n, hn⟩ : ∃ n, t.length = n := ⟨_, rfl⟩
    rw [hn] at H hne ⊢
    have hl1 : (l : Int) + 1 < 10 := by omega
    obtain ⟨lo, hlo⟩ : ∃ lo, t.take (2 ^ k) = lo := ⟨_, rfl⟩
    obtain ⟨hi, hhi⟩ : ∃ hi, t.drop (2 ^ k) = hi := ⟨_, rfl⟩
    have HV : Hid (∀ W, Mod [] w W → _) := fun W m => halves12_c (H.out.mod m (by simp)) h5 (by omega) lo hi (by rw [hh]; exact hlo) (by rw [hh]; exact hhi)
    have IH : Hid (∀ (x : List Bool) (W : World) (v' : Value), Rv W v' (x.map eb) F → x.length = 2 ^ k → Calls Tryz.prog 84 #[v', .int .i64 ((l : Int) + 1)] W fun e w' => e = .returned (sv (term1 k x (l + 1))) ∧ Mod [] W w') := fun x W v' a1 a2 => by
      have := ih x (l + 1) W v' F a1 a2 (by omega) (by omega)
      simpa using this
    have TE : Hid (term1 (k + 1) t l = if lo = hi then term1 k lo (l + 1) else [40] ++ [dg l] ++ [32] ++ term1 k lo (l + 1) ++ [32] ++ term1 k hi (l + 1) ++ [41]) := by
      show _ = _
      rw [term1, hlo, hhi]
    have SM : Hid (∀ (W : World) (v1 v2 : Value), Rv W v1 (lo.map eb) F → Rv W v2 (hi.map eb) F → _) := fun W v1 v2 a1 a2 => same05_c a1 a2 (by rw [← hlo, h3]; omega) (by rw [← hhi, h4]; omega)
    have L3 : Hid (lo.length = 2 ^ k ∧ hi.length = 2 ^ k) := ⟨by rw [← hlo]; exact h3, by rw [← hhi]; exact h4⟩
    have hn128 : n ≤ 128 := by omega
    have hp64 := pow64 (show k ≤ 6 by omega)
    obtain ⟨N0, hN0⟩ : ∃ N0, 2 ^ k = N0 := ⟨_, rfl⟩
    have LM : Hid ((lo.map eb).length = N0 ∧ (hi.map eb).length = N0) := ⟨by rw [List.length_map, L3.out.1, hN0], by rw [List.length_map, L3.out.2, hN0]⟩
    clear hN0
    clear h hl hh h3 h4 h5 h128 hn hlo hhi ih
    go_enter Tryz.func84, Tryz.ntmps84
    go_wp2_with fail
    refine (HV.out _ (by (repeat (first | exact Mod.refl _ _ | apply Mod.drew | apply Mod.drewN | apply Mod.alloc | refine Mod.setCell ?_ _ _ (by first | simp | (simp; omega)))))).mono ?_
    rintro e w1 ⟨v1, v2, rfl, m1, r1, r2⟩
    obtain ⟨A1, c1, rfl⟩ := r1.frame
    obtain ⟨A2, c2, rfl⟩ := r2.frame
    rw [LM.out.1] at r1 ⊢
    rw [LM.out.2] at r2 ⊢
    have M1 := Lib.hid m1
    have R1 := Lib.hid r1
    have R2 := Lib.hid r2
    clear m1 r1 r2 HV
    go_wp2_with fail
    refine (SM.out _ _ _ R1.out R2.out).mono ?_
    rintro e w2 ⟨rfl, m2⟩
    have M2 := Lib.hid (M1.out.trans' m2)
    have R1 := Lib.hid (R1.out.mod m2 (by simp))
    have R2 := Lib.hid (R2.out.mod m2 (by simp))
    clear m2 SM
    by_cases hq : lo = hi
    · have TE2 : Hid (term1 (k + 1) t l = term1 k lo (l + 1)) := by show _ = _; rw [TE.out, if_pos hq]
      rw [decide_eq_true hq]
      clear hq
      go_wp2_with fail
      refine (IH.out lo _ _ R1.out L3.out.1).mono ?_
      rintro e w3 ⟨rfl, m3⟩
      have M3 := Lib.hid (M2.out.trans' m3)
      clear m3
      unfold sv
      go_wp2_with fail
      go_ret
      exact ⟨by rw [TE2.out]; rfl, M3.out⟩
    · have TE2 : Hid (term1 (k + 1) t l = [40] ++ [dg l] ++ [32] ++ term1 k lo (l + 1) ++ [32] ++ term1 k hi (l + 1) ++ [41]) := by show _ = _; rw [TE.out, if_neg hq]
      rw [decide_eq_false hq]
      clear hq
      go_wp2_with fail
      refine (NU.out _).mono ?_
      rintro e w3 ⟨rfl, m3⟩
      have M3 := Lib.hid (M2.out.trans' m3)
      have R1 := Lib.hid (R1.out.mod m3 (by simp))
      have R2 := Lib.hid (R2.out.mod m3 (by simp))
      clear m3
      unfold sv
      go_wp2_with fail
      refine (IH.out lo _ _ R1.out L3.out.1).mono ?_
      rintro e w4 ⟨rfl, m4⟩
      have M4 := Lib.hid (M3.out.trans' m4)
      have R2 := Lib.hid (R2.out.mod m4 (by simp))
      clear m4
      unfold sv
      have hT1 : (term1 k lo (l + 1)).length ≤ 1000 := by have := term1_len k lo (l + 1); omega
      go_wp2_with fail
      refine (IH.out hi _ _ R2.out L3.out.2).mono ?_
      rintro e w5 ⟨rfl, m5⟩
      have M5 := Lib.hid (M4.out.trans' m5)
      clear m5
      unfold sv
      have hT2 : (term1 k hi (l + 1)).length ≤ 1000 := by have := term1_len k hi (l + 1); omega
      go_wp2_with fail
      go_ret
      exact ⟨by rw [TE2.out]; exact congrArg (fun x => Ending.returned (.string x)) (cat7 [40] [dg l] [32] _ [32] _ [41]), M5.out⟩
set_option maxRecDepth 100000 in
set_option maxHeartbeats 1000000 in
theorem term13_c : ∀ (k : Nat) (t : List Bool) (l : Nat) (w : World) (v : Value) (F : List Nat), Rv w v (t.map eb) F → t.length = 2 ^ k → l + k < 10 → k ≤ 6 →
    Calls Tryz.prog 85 #[v, .int .i64 l] w fun e w' => e = .returned (sv (term2 k t l)) ∧ Mod [] w w' := by
  intro k
  induction k with
  | zero =>
    intro t l w v F h hl hlk hk
    obtain ⟨A, cap, rfl, hc⟩ := h.shape
    have h1 : t.length = 1 := by simpa using hl
    simp only [List.length_map, h1] at hc h ⊢
    obtain ⟨b, off, rfl, d⟩ := h.at 0 (by rw [List.length_map]; omega)
    obtain ⟨x, rfl⟩ : ∃ x, t = [x] := List.length_eq_one_iff.1 h1
    simp only [List.map_cons, List.map_nil, List.getElem_cons_zero] at d
    rw [Nat.add_zero] at d
    have EN := Lib.hid (end13_c x)
    unfold eb at *
    clear h hl h1
    cases x
    all_goals
      go_enter Tryz.func85, Tryz.ntmps85
      go_wp2_with fail
      refine (EN.out _).mono ?_
      rintro e w' ⟨rfl, rfl⟩
      unfold sv
      go_wp2_with fail
      go_ret
      exact ⟨rfl, Mod.refl _ _⟩
  | succ k ih =>
    intro t l w v F h hl hlk hk
    obtain ⟨hh, h3, h4, h5⟩ := half_len hl
    have h128 : t.length ≤ 128 := by rw [hl]; have := Nat.pow_le_pow_right (n := 2) (by omega) (show k + 1 ≤ 7 by omega); simpa using this
    obtain ⟨A, cap, rfl⟩ := h.frame
    have H := Lib.hid h
    simp only [List.length_map] at H ⊢
    have hne : ((t.length : Int) == 1) = false := by rw [beq_eq_false_iff_ne]; omega
    have NU := Lib.hid (num_c l (by omega))
    obtain ⟨n, hn⟩ : ∃ n, t.length = n := ⟨_, rfl⟩
    rw [hn] at H hne ⊢
    have hl1 : (l : Int) + 1 < 10 := by omega
    obtain ⟨lo, hlo⟩ : ∃ lo, t.take (2 ^ k) = lo := ⟨_, rfl⟩
    obtain ⟨hi, hhi⟩ : ∃ hi, t.drop (2 ^ k) = hi := ⟨_, rfl⟩
    have HV : Hid (∀ W, Mod [] w W → _) := fun W m => halves13_c (H.out.mod m (by simp)) h5 (by omega) lo hi (by rw [hh]; exact hlo) (by rw [hh]; exact hhi)
    have IH : Hid (∀ (x : List Bool) (W : World) (v' : Value), Rv W v' (x.map eb) F → x.length = 2 ^ k → Calls Tryz.prog 85 #[v', .int .i64 ((l : Int) + 1)] W fun e w' => e = .returned (sv (term2 k x (l + 1))) ∧ Mod [] W w') := fun x W v' a1 a2 => by
      have := ih x (l + 1) W v' F a1 a2 (by omega) (by omega)
      simpa using this
    have TE : Hid (term2 (k + 1) t l = if noneB hi then term2 k lo (l + 1) else [40] ++ [dg l] ++ [32] ++ term2 k lo (l + 1) ++ [32] ++ term2 k hi (l + 1) ++ [41]) := by
      show _ = _
      rw [term2, hlo, hhi]
    have SM : Hid (∀ (W : World) (v2 : Value), Rv W v2 (hi.map eb) F → _) := fun W v2 a2 => none13_c a2 (by rw [← hhi, h4]; omega)
    have L3 : Hid (lo.length = 2 ^ k ∧ hi.length = 2 ^ k) := ⟨by rw [← hlo]; exact h3, by rw [← hhi]; exact h4⟩
    have hn128 : n ≤ 128 := by omega
    have hp64 := pow64 (show k ≤ 6 by omega)
    obtain ⟨N0, hN0⟩ : ∃ N0, 2 ^ k = N0 := ⟨_, rfl⟩
    have LM : Hid ((lo.map eb).length = N0 ∧ (hi.map eb).length = N0) := ⟨by rw [List.length_map, L3.out.1, hN0], by rw [List.length_map, L3.out.2, hN0]⟩
    clear hN0
    clear h hl hh h3 h4 h5 h128 hn hlo hhi ih
    go_enter Tryz.func85, Tryz.ntmps85
    go_wp2_with fail
    refine (HV.out _ (by (repeat (first | exact Mod.refl _ _ | apply Mod.drew | apply Mod.drewN | apply Mod.alloc | refine Mod.setCell ?_ _ _ (by first | simp | (simp; omega)))))).mono ?_
    rintro e w1 ⟨v1, v2, rfl, m1, r1, r2⟩
    obtain ⟨A1, c1, rfl⟩ := r1.frame
    obtain ⟨A2, c2, rfl⟩ := r2.frame
    rw [LM.out.1] at r1 ⊢
    rw [LM.out.2] at r2 ⊢
    have M1 := Lib.hid m1
    have R1 := Lib.hid r1
    have R2 := Lib.hid r2
    clear m1 r1 r2 HV
    go_wp2_with fail
    refine (SM.out _ _ R2.out).mono ?_
    rintro e w2 ⟨rfl, rfl⟩
    have M2 := M1
    clear SM
    by_cases hq : noneB hi = true
    · have TE2 : Hid (term2 (k + 1) t l = term2 k lo (l + 1)) := by show _ = _; rw [TE.out, if_pos hq]
      rw [hq]
      clear hq
      go_wp2_with fail
      refine (IH.out lo _ _ R1.out L3.out.1).mono ?_
      rintro e w3 ⟨rfl, m3⟩
      have M3 := Lib.hid (M2.out.trans' m3)
      clear m3
      unfold sv
      go_wp2_with fail
      go_ret
      exact ⟨by rw [TE2.out]; rfl, M3.out⟩
    · have TE2 : Hid (term2 (k + 1) t l = [40] ++ [dg l] ++ [32] ++ term2 k lo (l + 1) ++ [32] ++ term2 k hi (l + 1) ++ [41]) := by show _ = _; rw [TE.out, if_neg hq]
      rw [Bool.eq_false_iff.2 hq]
      clear hq
      go_wp2_with fail
      refine (NU.out _).mono ?_
      rintro e w3 ⟨rfl, m3⟩
      have M3 := Lib.hid (M2.out.trans' m3)
      have R1 := Lib.hid (R1.out.mod m3 (by simp))
      have R2 := Lib.hid (R2.out.mod m3 (by simp))
      clear m3
      unfold sv
      go_wp2_with fail
      refine (IH.out lo _ _ R1.out L3.out.1).mono ?_
      rintro e w4 ⟨rfl, m4⟩
      have M4 := Lib.hid (M3.out.trans' m4)
      have R2 := Lib.hid (R2.out.mod m4 (by simp))
      clear m4
      unfold sv
      have hT1 : (term2 k lo (l + 1)).length ≤ 1000 := by have := term2_len k lo (l + 1); omega
      go_wp2_with fail
      refine (IH.out hi _ _ R2.out L3.out.2).mono ?_
      rintro e w5 ⟨rfl, m5⟩
      have M5 := Lib.hid (M4.out.trans' m5)
      clear m5
      unfold sv
      have hT2 : (term2 k hi (l + 1)).length ≤ 1000 := by have := term2_len k hi (l + 1); omega
      go_wp2_with fail
      go_ret
      exact ⟨by rw [TE2.out]; exact congrArg (fun x => Ending.returned (.string x)) (cat7 [40] [dg l] [32] _ [32] _ [41]), M5.out⟩
end Go.Proofs.YtcoljkigphnjfaaGreatDoor
set_option linter.unusedVariables false
set_option linter.unusedSimpArgs false
namespace Go.Proofs.YtcoljkigphnjfaaGreatDoor
open Go.RowKit

def chain3 : Nat → List Bool → List Bool → Nat → Nat × List Bool × List Bool × Nat
  | 0, lo, hi, b => (0, lo, hi, b)
  | k + 1, lo, hi, b =>
    if lo.take (2 ^ k) = lo.drop (2 ^ k) ∨ ¬ hi.take (2 ^ k) = hi.drop (2 ^ k) ∨ ¬ hi.take (2 ^ k) = lo.drop (2 ^ k) then (k + 1, lo, hi, b)
    else chain3 k (lo.take (2 ^ k)) (lo.drop (2 ^ k)) (b + 1)
/-- A node's text. -/
def nodeT (rec : Nat → List Bool → Nat → List UInt8) (l : Nat) (c : Nat × List Bool × List Bool × Nat) : List UInt8 :=
  [40] ++ [dg l] ++ [58] ++ [dg c.2.2.2] ++ [32] ++ rec c.1 c.2.1 (c.2.2.2 + 1) ++ [32] ++ rec c.1 c.2.2.1 (c.2.2.2 + 1) ++ [41]
def term3 : Nat → Nat → List Bool → Nat → List UInt8
  | F + 1, k + 1, t, l => if t.take (2 ^ k) = t.drop (2 ^ k) then term3 F k (t.take (2 ^ k)) (l + 1) else nodeT (term3 F) l (chain3 k (t.take (2 ^ k)) (t.drop (2 ^ k)) l)
  | _, _, t, _ => endT t
theorem cat9 (a b c d e f g h i : List UInt8) : (((((((((⟨a.toArray⟩ : ByteArray) ++ ⟨b.toArray⟩) ++ ⟨c.toArray⟩) ++ ⟨d.toArray⟩) ++ ⟨e.toArray⟩) ++ ⟨f.toArray⟩) ++ ⟨g.toArray⟩) ++ ⟨h.toArray⟩) ++ ⟨i.toArray⟩) = ⟨(a ++ b ++ c ++ d ++ e ++ f ++ g ++ h ++ i).toArray⟩ := by
  simp only [ba_app]
theorem chain3_le : ∀ (k : Nat) (lo hi : List Bool) (b : Nat), (chain3 k lo hi b).1 ≤ k ∧ (chain3 k lo hi b).2.2.2 + (chain3 k lo hi b).1 = b + k := by
  intro k
  induction k with
  | zero => intro lo hi b; simp [chain3]
  | succ k ih =>
    intro lo hi b
    rw [chain3]
    split
    · simp
    · have := ih (lo.take (2 ^ k)) (lo.drop (2 ^ k)) (b + 1)
      omega
theorem pow_mono {a b : Nat} (h : a ≤ b) : 2 ^ a ≤ 2 ^ b := Nat.pow_le_pow_right (by omega) h
theorem term3_len : ∀ (F k : Nat) (t : List Bool) (l : Nat), k ≤ F → (term3 F k t l).length + 7 ≤ 10 * 2 ^ k := by
  intro F
  induction F with
  | zero => intro k t l hk; obtain rfl : k = 0 := by omega
            simp [term3, endT]
  | succ F ih =>
    intro k t l hk
    cases k with
    | zero => simp [term3, endT]
    | succ k =>
      rw [term3, Nat.pow_succ]
      split
      · have := ih k (t.take (2 ^ k)) (l + 1) (by omega); omega
      · have hc := chain3_le k (t.take (2 ^ k)) (t.drop (2 ^ k)) l
        generalize chain3 k (t.take (2 ^ k)) (t.drop (2 ^ k)) l = c at *
        have h1 := ih c.1 c.2.1 (c.2.2.2 + 1) (by omega)
        have h2 := ih c.1 c.2.2.1 (c.2.2.2 + 1) (by omega)
        have h3 := pow_mono hc.1
        unfold nodeT
        simp only [List.length_append, List.length_cons, List.length_nil]; omega

set_option maxRecDepth 100000 in
set_option maxHeartbeats 16000000 in
theorem term14_c : ∀ (G k : Nat) (t : List Bool) (l : Nat) (w : World) (v : Value) (F : List Nat), k ≤ G → Rv w v (t.map eb) F → t.length = 2 ^ k → l + k < 10 → k ≤ 6 →
    Calls Tryz.prog 86 #[v, .int .i64 l] w fun e w' => e = .returned (sv (term3 G k t l)) ∧ Mod [] w w' := by
  have base : ∀ (t : List Bool) (l : Nat) (w : World) (v : Value) (F : List Nat), Rv w v (t.map eb) F → t.length = 1 → Calls Tryz.prog 86 #[v, .int .i64 l] w fun e w' => e = .returned (sv (endT t)) ∧ Mod [] w w' := by
    intro t l w v F h h1
    obtain ⟨A, cap, rfl, hc⟩ := h.shape
    simp only [List.length_map, h1] at hc h ⊢
    obtain ⟨b, off, rfl, d⟩ := h.at 0 (by rw [List.length_map]; omega)
    obtain ⟨x, rfl⟩ : ∃ x, t = [x] := List.length_eq_one_iff.1 h1
    simp only [List.map_cons, List.map_nil, List.getElem_cons_zero] at d
    rw [Nat.add_zero] at d
    have EN := Lib.hid (end14_c x)
    unfold eb at *
    clear h h1
    cases x
    all_goals
      go_enter Tryz.func86, Tryz.ntmps86
      go_wp2_with fail
      refine (EN.out _).mono ?_
      rintro e w' ⟨rfl, rfl⟩
      unfold sv
      go_wp2_with fail
      go_ret
      exact ⟨rfl, Mod.refl _ _⟩
  intro G
  induction G with
  | zero =>
    intro k t l w v F hkG h hl hlk hk
    obtain rfl : k = 0 := by omega
    simpa [term3] using base t l w v F h (by simpa using hl)
  | succ G ih =>
    intro k t l w v F hkG h hl hlk hk
    cases k with
    | zero => simpa [term3] using base t l w v F h (by simpa using hl)
    | succ k =>
      obtain ⟨hh, h3, h4, h5⟩ := half_len hl
      have h128 : t.length ≤ 128 := by rw [hl]; have := Nat.pow_le_pow_right (n := 2) (by omega) (show k + 1 ≤ 7 by omega); simpa using this
      obtain ⟨A, cap, rfl⟩ := h.frame
      have H := Lib.hid h
      simp only [List.length_map] at H ⊢
      have hne : ((t.length : Int) == 1) = false := by rw [beq_eq_false_iff_ne]; omega
      have NUL := Lib.hid (num_c l (by omega))
      obtain ⟨n, hn⟩ : ∃ n, t.length = n := ⟨_, rfl⟩
      rw [hn] at H hne ⊢
      have hl1 : (l : Int) + 1 < 10 := by omega
      obtain ⟨lo, hlo⟩ : ∃ lo, t.take (2 ^ k) = lo := ⟨_, rfl⟩
      obtain ⟨hi, hhi⟩ : ∃ hi, t.drop (2 ^ k) = hi := ⟨_, rfl⟩
      have HV : Hid (∀ W, Mod [] w W → _) := fun W m => halves14_c (H.out.mod m (by simp)) h5 (by omega) lo hi (by rw [hh]; exact hlo) (by rw [hh]; exact hhi)
      have IH : Hid (∀ (j b : Nat) (x : List Bool) (W : World) (v' : Value), Rv W v' (x.map eb) F → x.length = 2 ^ j → j ≤ k → b + 1 + j < 10 → Calls Tryz.prog 86 #[v', .int .i64 ((b : Int) + 1)] W fun e w' => e = .returned (sv (term3 G j x (b + 1))) ∧ Mod [] W w') := fun j b x W v' a1 a2 a3 a4 => by
        have := ih j x (b + 1) W v' F (by omega) a1 a2 (by omega) (by omega)
        simpa using this
      have TE : Hid (term3 (G + 1) (k + 1) t l = if lo = hi then term3 G k lo (l + 1) else nodeT (term3 G) l (chain3 k lo hi l)) := by
        show _ = _
        rw [term3, hlo, hhi]
      have SM : Hid (∀ (W : World) (v1 v2 : Value), Rv W v1 (lo.map eb) F → Rv W v2 (hi.map eb) F → _) := fun W v1 v2 a1 a2 => same05_c a1 a2 (by rw [← hlo, h3]; omega) (by rw [← hhi, h4]; omega)
      have L3 : Hid (lo.length = 2 ^ k ∧ hi.length = 2 ^ k) := ⟨by rw [← hlo]; exact h3, by rw [← hhi]; exact h4⟩
      have hn128 : n ≤ 128 := by omega
      have hp64 := pow64 (show k ≤ 6 by omega)
      obtain ⟨N0, hN0⟩ : ∃ N0, 2 ^ k = N0 := ⟨_, rfl⟩
      have HN0 := Lib.hid hN0
      have LM : Hid ((lo.map eb).length = N0 ∧ (hi.map eb).length = N0) := ⟨by rw [List.length_map, L3.out.1, hN0], by rw [List.length_map, L3.out.2, hN0]⟩
      have hN064 : N0 ≤ 64 := by omega
      clear hN0 hp64
      clear h hl hh h3 h4 h5 h128 hn hlo hhi ih base
      go_enter Tryz.func86, Tryz.ntmps86
      go_wp2_with fail
      refine (HV.out _ (by (repeat (first | exact Mod.refl _ _ | apply Mod.drew | apply Mod.drewN | apply Mod.alloc | refine Mod.setCell ?_ _ _ (by first | simp | (simp; omega)))))).mono ?_
      rintro e w1 ⟨v1, v2, rfl, m1, r1, r2⟩
      obtain ⟨A1, c1, rfl⟩ := r1.frame
      obtain ⟨A2, c2, rfl⟩ := r2.frame
      rw [LM.out.1] at r1 ⊢
      rw [LM.out.2] at r2 ⊢
      have M1 := Lib.hid m1
      have R1 := Lib.hid r1
      have R2 := Lib.hid r2
      clear m1 r1 r2 HV
      go_wp2_with fail
      refine (SM.out _ _ _ R1.out R2.out).mono ?_
      rintro e w2 ⟨rfl, m2⟩
      have M2 := Lib.hid (M1.out.trans' m2)
      have R1 := Lib.hid (R1.out.mod m2 (by simp))
      have R2 := Lib.hid (R2.out.mod m2 (by simp))
      clear m2 SM
      by_cases hq : lo = hi
      · have TE2 : Hid (term3 (G + 1) (k + 1) t l = term3 G k lo (l + 1)) := by show _ = _; rw [TE.out, if_pos hq]
        rw [decide_eq_true hq]
        clear hq
        go_wp2_with fail
        refine (IH.out k l lo _ _ R1.out L3.out.1 (by omega) (by omega)).mono ?_
        rintro e w3 ⟨rfl, m3⟩
        have M3 := Lib.hid (M2.out.trans' m3)
        clear m3
        unfold sv
        go_wp2_with fail
        go_ret
        exact ⟨by rw [TE2.out]; rfl, M3.out⟩
      · have TE2 : Hid (term3 (G + 1) (k + 1) t l = nodeT (term3 G) l (chain3 k lo hi l)) := by show _ = _; rw [TE.out, if_neg hq]
        rw [decide_eq_false hq]
        clear hq TE
        go_wp2_with fail
        go_loopw [5, 6, 7] (fun v5 v6 v7 wr => ∃ (j N b : Nat) (x y : List Bool) (B1 B2 : Option Addr) (d1 d2 : Nat), v5 = .slice B1 N d1 ∧ v6 = .slice B2 N d2 ∧ v7 = .int .i64 b ∧ N ≤ 64 ∧ b < 10 ∧ Hid (N = 2 ^ j ∧ x.length = N ∧ y.length = N ∧ chain3 j x y b = chain3 k lo hi l ∧ b + j = l + k ∧ j ≤ k) ∧ Hid (Rv wr (.slice B1 N d1) (x.map eb) F) ∧ Hid (Rv wr (.slice B2 N d2) (y.map eb) F) ∧ Hid (Mod [] w wr)) (fun _ _ v7 _ => 10 - (intOf v7).toNat)
        case atStart => exact ⟨k, N0, l, lo, hi, _, _, _, _, rfl, rfl, rfl, hN064, by omega, ⟨HN0.out.symm, by rw [L3.out.1, HN0.out], by rw [L3.out.2, HN0.out], rfl, rfl, Nat.le_refl _⟩, R1, R2, M2⟩
        case round =>
          obtain ⟨j, N, b, x, y, B1, B2, d1, d2, rfl, rfl, rfl, hN, hb, HI, RX, RY, HM⟩ := hrel
          clear R1 R2 M1 M2
          have hb' : (b : Int) < 10 := by omega
          have hjk : j ≤ k := HI.out.2.2.2.2.2
          have hbj : b + j = l + k := HI.out.2.2.2.2.1
          have IHB : Hid (∀ (z : List Bool) (W : World) (v' : Value), Rv W v' (z.map eb) F → z.length = 2 ^ j → _) := fun z W v' a1 a2 => IH.out j b z W v' a1 a2 hjk (by omega)
          have NUB := Lib.hid (num_c b hb)
          have LEN : Hid (∀ z, (term3 G j z (b + 1)).length ≤ 1000) := fun z => by have := term3_len G j z (b + 1) (by omega); have := pow64 (show j ≤ 6 by omega); omega
          have TEND : Hid (chain3 j x y b = (j, x, y, b) → term3 (G + 1) (k + 1) t l = [40] ++ [dg l] ++ [58] ++ [dg b] ++ [32] ++ term3 G j x (b + 1) ++ [32] ++ term3 G j y (b + 1) ++ [41]) := fun h => by
            rw [TE2.out, ← HI.out.2.2.2.1, h]; rfl
          by_cases hj : j = 0
          · subst hj
            have hN1 : N = 1 := by rw [HI.out.1]
            subst hN1
            have TEc := Lib.hid (TEND.out (by rw [chain3]))
            have LX : Hid (x.length = 2 ^ 0 ∧ y.length = 2 ^ 0) := ⟨HI.out.2.1, HI.out.2.2.1⟩
            clear TEND hbj hjk
            go_wp2_with fail
            refine (NUL.out _).mono ?_
            rintro e w3 ⟨rfl, m3⟩
            have N3 := Lib.hid (HM.out.trans' m3)
            have RX := Lib.hid (RX.out.mod m3 (by simp))
            have RY := Lib.hid (RY.out.mod m3 (by simp))
            clear m3
            unfold sv
            go_wp2_with fail
            refine (NUB.out _).mono ?_
            rintro e w4 ⟨rfl, m4⟩
            have N4 := Lib.hid (N3.out.trans' m4)
            have RX := Lib.hid (RX.out.mod m4 (by simp))
            have RY := Lib.hid (RY.out.mod m4 (by simp))
            clear m4
            unfold sv
            go_wp2_with fail
            refine (IHB.out x _ _ RX.out LX.out.1).mono ?_
            rintro e w5 ⟨rfl, m5⟩
            have N5 := Lib.hid (N4.out.trans' m5)
            have RY := Lib.hid (RY.out.mod m5 (by simp))
            clear m5
            unfold sv
            have hT1 : (term3 G 0 x (b + 1)).length ≤ 1000 := LEN.out x
            go_wp2_with fail
            refine (IHB.out y _ _ RY.out LX.out.2).mono ?_
            rintro e w6 ⟨rfl, m6⟩
            have N6 := Lib.hid (N5.out.trans' m6)
            clear m6
            unfold sv
            have hT2 : (term3 G 0 y (b + 1)).length ≤ 1000 := LEN.out y
            go_wp2_with fail
            go_ret
            exact ⟨by rw [TEc.out]; exact congrArg (fun x => Ending.returned (.string x)) (cat9 [40] [dg l] [58] [dg b] [32] _ [32] _ [41]), N6.out⟩
          · obtain ⟨i, rfl⟩ : ∃ i, j = i + 1 := ⟨j - 1, by omega⟩
            have hx : x.length = 2 ^ (i + 1) := HI.out.2.1.trans HI.out.1
            have hy : y.length = 2 ^ (i + 1) := HI.out.2.2.1.trans HI.out.1
            obtain ⟨xh, x3, x4, x5⟩ := half_len hx
            obtain ⟨yh, y3, y4, y5⟩ := half_len hy
            have hN2 : (1 : Int) < N := by have := HI.out.2.1; omega
            obtain ⟨x1, hx1⟩ : ∃ x1, x.take (2 ^ i) = x1 := ⟨_, rfl⟩
            obtain ⟨x2, hx2⟩ : ∃ x2, x.drop (2 ^ i) = x2 := ⟨_, rfl⟩
            obtain ⟨y1, hy1⟩ : ∃ y1, y.take (2 ^ i) = y1 := ⟨_, rfl⟩
            obtain ⟨y2, hy2⟩ : ∃ y2, y.drop (2 ^ i) = y2 := ⟨_, rfl⟩
            obtain ⟨M, hM⟩ : ∃ M, 2 ^ i = M := ⟨_, rfl⟩
            have hM64 : M ≤ 64 := by have := pow64 (show i ≤ 6 by omega); omega
            have CH : Hid (chain3 (i + 1) x y b = if x1 = x2 ∨ ¬ y1 = y2 ∨ ¬ y1 = x2 then (i + 1, x, y, b) else chain3 i x1 x2 (b + 1)) := by
              show _ = _
              rw [chain3, hx1, hx2, hy1, hy2]
            have HX : Hid (∀ W, Mod [] wr W → _) := fun W m => halves14_c (RX.out.mod m (by simp)) x5 (by rw [HI.out.2.1]; omega) x1 x2 (by rw [xh]; exact hx1) (by rw [xh]; exact hx2)
            have HY : Hid (∀ W, Mod [] wr W → _) := fun W m => halves14_c (RY.out.mod m (by simp)) y5 (by rw [HI.out.2.2.1]; omega) y1 y2 (by rw [yh]; exact hy1) (by rw [yh]; exact hy2)
            have LX1 : Hid (x1.length = 2 ^ i ∧ x2.length = 2 ^ i) := ⟨by rw [← hx1]; exact x3, by rw [← hx2]; exact x4⟩
            have LY1 : Hid (y1.length = 2 ^ i ∧ y2.length = 2 ^ i) := ⟨by rw [← hy1]; exact y3, by rw [← hy2]; exact y4⟩
            have LMX : Hid ((x1.map eb).length = M ∧ (x2.map eb).length = M) := ⟨by rw [List.length_map, LX1.out.1, hM], by rw [List.length_map, LX1.out.2, hM]⟩
            have LMY : Hid ((y1.map eb).length = M ∧ (y2.map eb).length = M) := ⟨by rw [List.length_map, LY1.out.1, hM], by rw [List.length_map, LY1.out.2, hM]⟩
            have small : ∀ z : List Bool, z.length = 2 ^ i → z.length ≤ 1048576 := fun z hz => by rw [hz, hM]; omega
            have SA : Hid (∀ (W : World) (v1 v2 : Value), Rv W v1 (x1.map eb) F → Rv W v2 (x2.map eb) F → _) := fun W v1 v2 a1 a2 => same05_c a1 a2 (small _ LX1.out.1) (small _ LX1.out.2)
            have SB : Hid (∀ (W : World) (v1 v2 : Value), Rv W v1 (y1.map eb) F → Rv W v2 (y2.map eb) F → _) := fun W v1 v2 a1 a2 => same05_c a1 a2 (small _ LY1.out.1) (small _ LY1.out.2)
            have SC : Hid (∀ (W : World) (v1 v2 : Value), Rv W v1 (y1.map eb) F → Rv W v2 (x2.map eb) F → _) := fun W v1 v2 a1 a2 => same05_c a1 a2 (small _ LY1.out.1) (small _ LX1.out.2)
            have LX : Hid (x.length = 2 ^ (i + 1) ∧ y.length = 2 ^ (i + 1)) := ⟨hx, hy⟩
            have HMM := Lib.hid hM
            clear hx hy xh x3 x4 x5 yh y3 y4 y5 hx1 hx2 hy1 hy2 hM small
            go_wp2_with fail
            refine (HX.out _ (by (repeat (first | exact Mod.refl _ _ | apply Mod.drew | apply Mod.drewN | apply Mod.alloc | refine Mod.setCell ?_ _ _ (by first | simp | (simp; omega)))))).mono ?_
            rintro e w3 ⟨v1, v2, rfl, m1, r1, r2⟩
            obtain ⟨D1, g1, rfl⟩ := r1.frame
            obtain ⟨D2, g2, rfl⟩ := r2.frame
            rw [LMX.out.1] at r1 ⊢
            rw [LMX.out.2] at r2 ⊢
            have R1 := Lib.hid r1
            have R2 := Lib.hid r2
            have M1 := Lib.hid m1
            clear m1 r1 r2 HX
            go_wp2_with fail
            refine (HY.out _ M1.out).mono ?_
            rintro e w4 ⟨v3, v4, rfl, m1, r3, r4⟩
            obtain ⟨D3, g3, rfl⟩ := r3.frame
            obtain ⟨D4, g4, rfl⟩ := r4.frame
            rw [LMY.out.1] at r3 ⊢
            rw [LMY.out.2] at r4 ⊢
            have R1 := Lib.hid (R1.out.mod m1 (by simp))
            have R2 := Lib.hid (R2.out.mod m1 (by simp))
            have R3 := Lib.hid r3
            have R4 := Lib.hid r4
            have M1 := Lib.hid (M1.out.trans' m1)
            clear m1 r3 r4 HY
            go_wp2_with fail
            refine (SA.out _ _ _ R1.out R2.out).mono ?_
            rintro e w5 ⟨rfl, m1⟩
            have R1 := Lib.hid (R1.out.mod m1 (by simp))
            have R2 := Lib.hid (R2.out.mod m1 (by simp))
            have R3 := Lib.hid (R3.out.mod m1 (by simp))
            have R4 := Lib.hid (R4.out.mod m1 (by simp))
            have M1 := Lib.hid (M1.out.trans' m1)
            clear m1 SA
            by_cases h1 : x1 = x2
            · have TEc := Lib.hid (TEND.out (by rw [CH.out, if_pos (.inl h1)]))
              rw [decide_eq_true h1]
              have MZ := Lib.hid (HM.out.trans' M1.out)
              have RX := Lib.hid (RX.out.mod M1.out (by simp))
              have RY := Lib.hid (RY.out.mod M1.out (by simp))
              clear TEND hbj hjk h1 SB SC
              go_wp2_with fail
              refine (NUL.out _).mono ?_
              rintro e w3 ⟨rfl, m3⟩
              have N3 := Lib.hid (MZ.out.trans' m3)
              have RX := Lib.hid (RX.out.mod m3 (by simp))
              have RY := Lib.hid (RY.out.mod m3 (by simp))
              clear m3
              unfold sv
              go_wp2_with fail
              refine (NUB.out _).mono ?_
              rintro e w4 ⟨rfl, m4⟩
              have N4 := Lib.hid (N3.out.trans' m4)
              have RX := Lib.hid (RX.out.mod m4 (by simp))
              have RY := Lib.hid (RY.out.mod m4 (by simp))
              clear m4
              unfold sv
              go_wp2_with fail
              refine (IHB.out x _ _ RX.out LX.out.1).mono ?_
              rintro e w5 ⟨rfl, m5⟩
              have N5 := Lib.hid (N4.out.trans' m5)
              have RY := Lib.hid (RY.out.mod m5 (by simp))
              clear m5
              unfold sv
              have hT1 : (term3 G (i + 1) x (b + 1)).length ≤ 1000 := LEN.out x
              go_wp2_with fail
              refine (IHB.out y _ _ RY.out LX.out.2).mono ?_
              rintro e w6 ⟨rfl, m6⟩
              have N6 := Lib.hid (N5.out.trans' m6)
              clear m6
              unfold sv
              have hT2 : (term3 G (i + 1) y (b + 1)).length ≤ 1000 := LEN.out y
              go_wp2_with fail
              go_ret
              exact ⟨by rw [TEc.out]; exact congrArg (fun x => Ending.returned (.string x)) (cat9 [40] [dg l] [58] [dg b] [32] _ [32] _ [41]), N6.out⟩
            · rw [decide_eq_false h1]
              have H1 := Lib.hid h1
              clear h1
              go_wp2_with fail
              refine (SB.out _ _ _ R3.out R4.out).mono ?_
              rintro e w6 ⟨rfl, m1⟩
              have R1 := Lib.hid (R1.out.mod m1 (by simp))
              have R2 := Lib.hid (R2.out.mod m1 (by simp))
              have R3 := Lib.hid (R3.out.mod m1 (by simp))
              have M1 := Lib.hid (M1.out.trans' m1)
              clear m1 SB R4
              by_cases h2 : y1 = y2
              · rw [decide_eq_true h2]
                have H2 := Lib.hid h2
                clear h2
                go_wp2_with fail
                refine (SC.out _ _ _ R3.out R2.out).mono ?_
                rintro e w7 ⟨rfl, m1⟩
                have R1 := Lib.hid (R1.out.mod m1 (by simp))
                have R2 := Lib.hid (R2.out.mod m1 (by simp))
                have M1 := Lib.hid (M1.out.trans' m1)
                clear m1 SC R3
                by_cases h3 : y1 = x2
                · rw [decide_eq_true h3]
                  have CC : Hid (chain3 i x1 x2 (b + 1) = chain3 k lo hi l) := by
                    show _ = _
                    rw [← HI.out.2.2.2.1, CH.out, if_neg]
                    rintro (h | h | h)
                    · exact H1.out h
                    · exact h H2.out
                    · exact h h3
                  have MZ := Lib.hid (HM.out.trans' M1.out)
                  clear h3 TEND RX RY
                  go_wp2_with fail
                  go_roundw
                  case rel => exact ⟨i, M, b + 1, x1, x2, D1, D2, g1, g2, rfl, rfl, by go_num, hM64, by omega, ⟨HMM.out.symm, by rw [LX1.out.1, HMM.out], by rw [LX1.out.2, HMM.out], CC.out, by omega, by omega⟩, R1, R2, MZ⟩
                  case measure => simp [intOf]; omega
                · have TEc := Lib.hid (TEND.out (by rw [CH.out, if_pos (.inr (.inr h3))]))
                  rw [decide_eq_false h3]
                  have MZ := Lib.hid (HM.out.trans' M1.out)
                  have RX := Lib.hid (RX.out.mod M1.out (by simp))
                  have RY := Lib.hid (RY.out.mod M1.out (by simp))
                  clear TEND hbj hjk h3
                  go_wp2_with fail
                  refine (NUL.out _).mono ?_
                  rintro e w3 ⟨rfl, m3⟩
                  have N3 := Lib.hid (MZ.out.trans' m3)
                  have RX := Lib.hid (RX.out.mod m3 (by simp))
                  have RY := Lib.hid (RY.out.mod m3 (by simp))
                  clear m3
                  unfold sv
                  go_wp2_with fail
                  refine (NUB.out _).mono ?_
                  rintro e w4 ⟨rfl, m4⟩
                  have N4 := Lib.hid (N3.out.trans' m4)
                  have RX := Lib.hid (RX.out.mod m4 (by simp))
                  have RY := Lib.hid (RY.out.mod m4 (by simp))
                  clear m4
                  unfold sv
                  go_wp2_with fail
                  refine (IHB.out x _ _ RX.out LX.out.1).mono ?_
                  rintro e w5 ⟨rfl, m5⟩
                  have N5 := Lib.hid (N4.out.trans' m5)
                  have RY := Lib.hid (RY.out.mod m5 (by simp))
                  clear m5
                  unfold sv
                  have hT1 : (term3 G (i + 1) x (b + 1)).length ≤ 1000 := LEN.out x
                  go_wp2_with fail
                  refine (IHB.out y _ _ RY.out LX.out.2).mono ?_
                  rintro e w6 ⟨rfl, m6⟩
                  have N6 := Lib.hid (N5.out.trans' m6)
                  clear m6
                  unfold sv
                  have hT2 : (term3 G (i + 1) y (b + 1)).length ≤ 1000 := LEN.out y
                  go_wp2_with fail
                  go_ret
                  exact ⟨by rw [TEc.out]; exact congrArg (fun x => Ending.returned (.string x)) (cat9 [40] [dg l] [58] [dg b] [32] _ [32] _ [41]), N6.out⟩
              · have TEc := Lib.hid (TEND.out (by rw [CH.out, if_pos (.inr (.inl h2))]))
                rw [decide_eq_false h2]
                have MZ := Lib.hid (HM.out.trans' M1.out)
                have RX := Lib.hid (RX.out.mod M1.out (by simp))
                have RY := Lib.hid (RY.out.mod M1.out (by simp))
                clear TEND hbj hjk h2 SC
                go_wp2_with fail
                refine (NUL.out _).mono ?_
                rintro e w3 ⟨rfl, m3⟩
                have N3 := Lib.hid (MZ.out.trans' m3)
                have RX := Lib.hid (RX.out.mod m3 (by simp))
                have RY := Lib.hid (RY.out.mod m3 (by simp))
                clear m3
                unfold sv
                go_wp2_with fail
                refine (NUB.out _).mono ?_
                rintro e w4 ⟨rfl, m4⟩
                have N4 := Lib.hid (N3.out.trans' m4)
                have RX := Lib.hid (RX.out.mod m4 (by simp))
                have RY := Lib.hid (RY.out.mod m4 (by simp))
                clear m4
                unfold sv
                go_wp2_with fail
                refine (IHB.out x _ _ RX.out LX.out.1).mono ?_
                rintro e w5 ⟨rfl, m5⟩
                have N5 := Lib.hid (N4.out.trans' m5)
                have RY := Lib.hid (RY.out.mod m5 (by simp))
                clear m5
                unfold sv
                have hT1 : (term3 G (i + 1) x (b + 1)).length ≤ 1000 := LEN.out x
                go_wp2_with fail
                refine (IHB.out y _ _ RY.out LX.out.2).mono ?_
                rintro e w6 ⟨rfl, m6⟩
                have N6 := Lib.hid (N5.out.trans' m6)
                clear m6
                unfold sv
                have hT2 : (term3 G (i + 1) y (b + 1)).length ≤ 1000 := LEN.out y
                go_wp2_with fail
                go_ret
                exact ⟨by rw [TEc.out]; exact congrArg (fun x => Ending.returned (.string x)) (cat9 [40] [dg l] [58] [dg b] [32] _ [32] _ [41]), N6.out⟩
end Go.Proofs.YtcoljkigphnjfaaGreatDoor
set_option linter.unusedVariables false
set_option linter.unusedSimpArgs false
namespace Go.Proofs.YtcoljkigphnjfaaGreatDoor
open Go.RowKit

def chain4 : Nat → List Bool → List Bool → Nat → Nat × List Bool × List Bool × Nat
  | 0, lo, hi, b => (0, lo, hi, b)
  | k + 1, lo, hi, b =>
    if lo = hi ∧ noneB (lo.drop (2 ^ k)) = false then chain4 k (lo.take (2 ^ k)) (lo.drop (2 ^ k)) (b + 1) else (k + 1, lo, hi, b)
def term4 : Nat → Nat → List Bool → Nat → List UInt8
  | F + 1, k + 1, t, l => if noneB t then [48] else if noneB (t.drop (2 ^ k)) then term4 F k (t.take (2 ^ k)) (l + 1) else nodeT (term4 F) l (chain4 k (t.take (2 ^ k)) (t.drop (2 ^ k)) l)
  | _, _, t, _ => if noneB t then [48] else [49]
theorem chain4_le : ∀ (k : Nat) (lo hi : List Bool) (b : Nat), (chain4 k lo hi b).1 ≤ k ∧ (chain4 k lo hi b).2.2.2 + (chain4 k lo hi b).1 = b + k := by
  intro k
  induction k with
  | zero => intro lo hi b; simp [chain4]
  | succ k ih =>
    intro lo hi b
    rw [chain4]
    split
    · have := ih (lo.take (2 ^ k)) (lo.drop (2 ^ k)) (b + 1)
      omega
    · simp
theorem term4_base (F : Nat) (t : List Bool) (l : Nat) : term4 F 0 t l = if noneB t then [48] else [49] := by
  cases F <;> simp [term4]
theorem term4_len : ∀ (F k : Nat) (t : List Bool) (l : Nat), k ≤ F → (term4 F k t l).length + 7 ≤ 10 * 2 ^ k := by
  intro F
  induction F with
  | zero =>
    intro k t l hk
    obtain rfl : k = 0 := by omega
    rw [term4_base]
    split <;> simp
  | succ F ih =>
    intro k t l hk
    cases k with
    | zero => rw [term4_base]; split <;> simp
    | succ k =>
      rw [term4, Nat.pow_succ]
      have hp := Nat.two_pow_pos k
      split
      · simp; omega
      · split
        · have := ih k (t.take (2 ^ k)) (l + 1) (by omega); omega
        · have hc := chain4_le k (t.take (2 ^ k)) (t.drop (2 ^ k)) l
          generalize chain4 k (t.take (2 ^ k)) (t.drop (2 ^ k)) l = c at *
          have h1 := ih c.1 c.2.1 (c.2.2.2 + 1) (by omega)
          have h2 := ih c.1 c.2.2.1 (c.2.2.2 + 1) (by omega)
          have h3 := pow_mono hc.1
          unfold nodeT
          simp only [List.length_append, List.length_cons, List.length_nil]; omega

set_option maxRecDepth 100000 in
set_option maxHeartbeats 16000000 in
theorem term15_c : ∀ (G k : Nat) (t : List Bool) (l : Nat) (w : World) (v : Value) (F : List Nat), k ≤ G → Rv w v (t.map eb) F → t.length = 2 ^ k → l + k < 10 → k ≤ 6 →
    Calls Tryz.prog 87 #[v, .int .i64 l] w fun e w' => e = .returned (sv (term4 G k t l)) ∧ Mod [] w w' := by
  have nought : ∀ (t : List Bool) (l : Nat) (w : World) (v : Value) (F : List Nat), Rv w v (t.map eb) F → t.length ≤ 1000 → noneB t = true → Calls Tryz.prog 87 #[v, .int .i64 l] w fun e w' => e = .returned (sv [48]) ∧ Mod [] w w' := by
    intro t l w v F h h1 hz
    have NN := Lib.hid (none15_c h (by omega))
    rw [hz] at NN
    clear h hz
    go_enter Tryz.func87, Tryz.ntmps87
    go_wp2_with fail
    refine NN.out.mono ?_
    rintro e w' ⟨rfl, rfl⟩
    go_wp2_with fail
    go_ret
    exact ⟨rfl, Mod.refl _ _⟩
  have base : ∀ (t : List Bool) (l : Nat) (w : World) (v : Value) (F : List Nat), Rv w v (t.map eb) F → t.length = 1 → Calls Tryz.prog 87 #[v, .int .i64 l] w fun e w' => e = .returned (sv (if noneB t then [48] else [49])) ∧ Mod [] w w' := by
    intro t l w v F h h1
    cases hz : noneB t with
    | true => simpa using nought t l w v F h (by omega) hz
    | false =>
      have NN := Lib.hid (none15_c h (by omega))
      rw [hz] at NN
      obtain ⟨A, cap, rfl⟩ := h.frame
      simp only [List.length_map, h1] at NN ⊢
      clear h hz h1 nought
      go_enter Tryz.func87, Tryz.ntmps87
      go_wp2_with fail
      refine NN.out.mono ?_
      rintro e w' ⟨rfl, rfl⟩
      go_wp2_with fail
      go_ret
      exact ⟨rfl, Mod.refl _ _⟩
  intro G
  induction G with
  | zero =>
    intro k t l w v F hkG h hl hlk hk
    obtain rfl : k = 0 := by omega
    rw [term4_base]
    exact base t l w v F h (by simpa using hl)
  | succ G ih =>
    intro k t l w v F hkG h hl hlk hk
    cases k with
    | zero => rw [term4_base]; exact base t l w v F h (by simpa using hl)
    | succ k =>
      obtain ⟨hh, h3, h4, h5⟩ := half_len hl
      have h128 : t.length ≤ 128 := by rw [hl]; have := Nat.pow_le_pow_right (n := 2) (by omega) (show k + 1 ≤ 7 by omega); simpa using this
      cases hz : noneB t with
      | true =>
        have e : term4 (G + 1) (k + 1) t l = [48] := by rw [term4, if_pos hz]
        rw [e]
        exact nought t l w v F h (by omega) hz
      | false =>
        have NT := Lib.hid (none15_c h (by omega))
        rw [hz] at NT
        obtain ⟨A, cap, rfl⟩ := h.frame
        have H := Lib.hid h
        simp only [List.length_map] at H NT ⊢
        have hne : ((t.length : Int) == 1) = false := by rw [beq_eq_false_iff_ne]; omega
        have NUL := Lib.hid (num_c l (by omega))
        obtain ⟨n, hn⟩ : ∃ n, t.length = n := ⟨_, rfl⟩
        rw [hn] at H NT hne ⊢
        have hl1 : (l : Int) + 1 < 10 := by omega
        obtain ⟨lo, hlo⟩ : ∃ lo, t.take (2 ^ k) = lo := ⟨_, rfl⟩
        obtain ⟨hi, hhi⟩ : ∃ hi, t.drop (2 ^ k) = hi := ⟨_, rfl⟩
        have HV : Hid (∀ W, Mod [] w W → _) := fun W m => halves15_c (H.out.mod m (by simp)) h5 (by omega) lo hi (by rw [hh]; exact hlo) (by rw [hh]; exact hhi)
        have IH : Hid (∀ (j b : Nat) (x : List Bool) (W : World) (v' : Value), Rv W v' (x.map eb) F → x.length = 2 ^ j → j ≤ k → b + 1 + j < 10 → Calls Tryz.prog 87 #[v', .int .i64 ((b : Int) + 1)] W fun e w' => e = .returned (sv (term4 G j x (b + 1))) ∧ Mod [] W w') := fun j b x W v' a1 a2 a3 a4 => by
          have := ih j x (b + 1) W v' F (by omega) a1 a2 (by omega) (by omega)
          simpa using this
        have TE : Hid (term4 (G + 1) (k + 1) t l = if noneB hi then term4 G k lo (l + 1) else nodeT (term4 G) l (chain4 k lo hi l)) := by
          show _ = _
          rw [term4, hlo, hhi, hz]; rfl
        have NH : Hid (∀ (W : World) (v2 : Value), Rv W v2 (hi.map eb) F → _) := fun W v2 a2 => none15_c a2 (by rw [← hhi, h4]; omega)
        have L3 : Hid (lo.length = 2 ^ k ∧ hi.length = 2 ^ k) := ⟨by rw [← hlo]; exact h3, by rw [← hhi]; exact h4⟩
        have hn128 : n ≤ 128 := by omega
        have hp64 := pow64 (show k ≤ 6 by omega)
        obtain ⟨N0, hN0⟩ : ∃ N0, 2 ^ k = N0 := ⟨_, rfl⟩
        have HN0 := Lib.hid hN0
        have LM : Hid ((lo.map eb).length = N0 ∧ (hi.map eb).length = N0) := ⟨by rw [List.length_map, L3.out.1, hN0], by rw [List.length_map, L3.out.2, hN0]⟩
        have hN064 : N0 ≤ 64 := by omega
        clear hN0 hp64
        clear h hl hh h3 h4 h5 h128 hn hlo hhi ih base nought hz
        go_enter Tryz.func87, Tryz.ntmps87
        go_wp2_with fail
        refine NT.out.mono ?_
        rintro e w0 ⟨rfl, rfl⟩
        go_wp2_with fail
        refine (HV.out _ (by (repeat (first | exact Mod.refl _ _ | apply Mod.drew | apply Mod.drewN | apply Mod.alloc | refine Mod.setCell ?_ _ _ (by first | simp | (simp; omega)))))).mono ?_
        rintro e w1 ⟨v1, v2, rfl, m1, r1, r2⟩
        obtain ⟨A1, c1, rfl⟩ := r1.frame
        obtain ⟨A2, c2, rfl⟩ := r2.frame
        rw [LM.out.1] at r1 ⊢
        rw [LM.out.2] at r2 ⊢
        have M2 := Lib.hid m1
        have R1 := Lib.hid r1
        have R2 := Lib.hid r2
        clear m1 r1 r2 HV NT
        go_wp2_with fail
        refine (NH.out _ _ R2.out).mono ?_
        rintro e w2 ⟨rfl, rfl⟩
        clear NH
        by_cases hq : noneB hi = true
        · have TE2 : Hid (term4 (G + 1) (k + 1) t l = term4 G k lo (l + 1)) := by show _ = _; rw [TE.out, if_pos hq]
          rw [hq]
          clear hq
          go_wp2_with fail
          refine (IH.out k l lo _ _ R1.out L3.out.1 (by omega) (by omega)).mono ?_
          rintro e w3 ⟨rfl, m3⟩
          have M3 := Lib.hid (M2.out.trans' m3)
          clear m3
          unfold sv
          go_wp2_with fail
          go_ret
          exact ⟨by rw [TE2.out]; rfl, M3.out⟩
        · have TE2 : Hid (term4 (G + 1) (k + 1) t l = nodeT (term4 G) l (chain4 k lo hi l)) := by show _ = _; rw [TE.out, if_neg hq]
          rw [Bool.eq_false_iff.2 hq]
          clear hq TE
          go_wp2_with fail
          go_loopw [5, 6, 7] (fun v5 v6 v7 wr => ∃ (j N b : Nat) (x y : List Bool) (B1 B2 : Option Addr) (d1 d2 : Nat), v5 = .slice B1 N d1 ∧ v6 = .slice B2 N d2 ∧ v7 = .int .i64 b ∧ N ≤ 64 ∧ b < 10 ∧ Hid (N = 2 ^ j ∧ x.length = N ∧ y.length = N ∧ chain4 j x y b = chain4 k lo hi l ∧ b + j = l + k ∧ j ≤ k) ∧ Hid (Rv wr (.slice B1 N d1) (x.map eb) F) ∧ Hid (Rv wr (.slice B2 N d2) (y.map eb) F) ∧ Hid (Mod [] w0 wr)) (fun _ _ v7 _ => 10 - (intOf v7).toNat)
          case atStart => exact ⟨k, N0, l, lo, hi, _, _, _, _, rfl, rfl, rfl, hN064, by omega, ⟨HN0.out.symm, by rw [L3.out.1, HN0.out], by rw [L3.out.2, HN0.out], rfl, rfl, Nat.le_refl _⟩, R1, R2, M2⟩
          case round =>
            obtain ⟨j, N, b, x, y, B1, B2, d1, d2, rfl, rfl, rfl, hN, hb, HI, RX, RY, HM⟩ := hrel
            clear R1 R2 M2
            have hb' : (b : Int) < 10 := by omega
            have hjk : j ≤ k := HI.out.2.2.2.2.2
            have hbj : b + j = l + k := HI.out.2.2.2.2.1
            have IHB : Hid (∀ (z : List Bool) (W : World) (v' : Value), Rv W v' (z.map eb) F → z.length = 2 ^ j → _) := fun z W v' a1 a2 => IH.out j b z W v' a1 a2 hjk (by omega)
            have NUB := Lib.hid (num_c b hb)
            have LEN : Hid (∀ z, (term4 G j z (b + 1)).length ≤ 1000) := fun z => by have := term4_len G j z (b + 1) (by omega); have := pow64 (show j ≤ 6 by omega); omega
            have TEND : Hid (chain4 j x y b = (j, x, y, b) → term4 (G + 1) (k + 1) t l = [40] ++ [dg l] ++ [58] ++ [dg b] ++ [32] ++ term4 G j x (b + 1) ++ [32] ++ term4 G j y (b + 1) ++ [41]) := fun h => by
              rw [TE2.out, ← HI.out.2.2.2.1, h]; rfl
            have SA : Hid (∀ (W : World) (v1 v2 : Value), Rv W v1 (x.map eb) F → Rv W v2 (y.map eb) F → _) := fun W v1 v2 a1 a2 => same05_c a1 a2 (by rw [HI.out.2.1]; omega) (by rw [HI.out.2.2.1]; omega)
            have LX : Hid (x.length = 2 ^ j ∧ y.length = 2 ^ j) := ⟨HI.out.2.1.trans HI.out.1, HI.out.2.2.1.trans HI.out.1⟩
            go_wp2_with fail
            refine (SA.out _ _ _ RX.out RY.out).mono ?_
            rintro e w3 ⟨rfl, m1⟩
            have RX := Lib.hid (RX.out.mod m1 (by simp))
            have RY := Lib.hid (RY.out.mod m1 (by simp))
            have HM := Lib.hid (HM.out.trans' m1)
            clear m1 SA
            by_cases hxy : x = y
            · by_cases hj : j = 0
              · subst hj
                have hN1 : N = 1 := by rw [HI.out.1]
                subst hN1
                have TEc := Lib.hid (TEND.out (by rw [chain4]))
                rw [decide_eq_true hxy]
                clear TEND hbj hjk hxy
                go_wp2_with fail
                refine (NUL.out _).mono ?_
                rintro e w3 ⟨rfl, m3⟩
                have N3 := Lib.hid (HM.out.trans' m3)
                have RX := Lib.hid (RX.out.mod m3 (by simp))
                have RY := Lib.hid (RY.out.mod m3 (by simp))
                clear m3
                unfold sv
                go_wp2_with fail
                refine (NUB.out _).mono ?_
                rintro e w4 ⟨rfl, m4⟩
                have N4 := Lib.hid (N3.out.trans' m4)
                have RX := Lib.hid (RX.out.mod m4 (by simp))
                have RY := Lib.hid (RY.out.mod m4 (by simp))
                clear m4
                unfold sv
                go_wp2_with fail
                refine (IHB.out x _ _ RX.out LX.out.1).mono ?_
                rintro e w5 ⟨rfl, m5⟩
                have N5 := Lib.hid (N4.out.trans' m5)
                have RY := Lib.hid (RY.out.mod m5 (by simp))
                clear m5
                unfold sv
                have hT1 : (term4 G 0 x (b + 1)).length ≤ 1000 := LEN.out x
                go_wp2_with fail
                refine (IHB.out y _ _ RY.out LX.out.2).mono ?_
                rintro e w6 ⟨rfl, m6⟩
                have N6 := Lib.hid (N5.out.trans' m6)
                clear m6
                unfold sv
                have hT2 : (term4 G 0 y (b + 1)).length ≤ 1000 := LEN.out y
                go_wp2_with fail
                go_ret
                exact ⟨by rw [TEc.out]; exact congrArg (fun x => Ending.returned (.string x)) (cat9 [40] [dg l] [58] [dg b] [32] _ [32] _ [41]), N6.out⟩
              · obtain ⟨i, rfl⟩ : ∃ i, j = i + 1 := ⟨j - 1, by omega⟩
                obtain ⟨xh, x3, x4, x5⟩ := half_len LX.out.1
                have hN2 : (1 : Int) < N := by have := HI.out.2.1; omega
                obtain ⟨x1, hx1⟩ : ∃ x1, x.take (2 ^ i) = x1 := ⟨_, rfl⟩
                obtain ⟨x2, hx2⟩ : ∃ x2, x.drop (2 ^ i) = x2 := ⟨_, rfl⟩
                obtain ⟨M, hM⟩ : ∃ M, 2 ^ i = M := ⟨_, rfl⟩
                have hM64 : M ≤ 64 := by have := pow64 (show i ≤ 6 by omega); omega
                have CH : Hid (chain4 (i + 1) x y b = if x = y ∧ noneB x2 = false then chain4 i x1 x2 (b + 1) else (i + 1, x, y, b)) := by
                  show _ = _
                  rw [chain4, hx1, hx2]
                have HX : Hid (∀ W, Mod [] w3 W → _) := fun W m => halves15_c (RX.out.mod m (by simp)) x5 (by rw [HI.out.2.1]; omega) x1 x2 (by rw [xh]; exact hx1) (by rw [xh]; exact hx2)
                have LX1 : Hid (x1.length = 2 ^ i ∧ x2.length = 2 ^ i) := ⟨by rw [← hx1]; exact x3, by rw [← hx2]; exact x4⟩
                have LMX : Hid ((x1.map eb).length = M ∧ (x2.map eb).length = M) := ⟨by rw [List.length_map, LX1.out.1, hM], by rw [List.length_map, LX1.out.2, hM]⟩
                have N2 : Hid (∀ (W : World) (v2 : Value), Rv W v2 (x2.map eb) F → _) := fun W v2 a2 => none15_c a2 (by rw [LX1.out.2, hM]; omega)
                have HMM := Lib.hid hM
                have HXY := Lib.hid hxy
                rw [decide_eq_true hxy]
                clear xh x3 x4 x5 hx1 hx2 hM hxy
                go_wp2_with fail
                refine (HX.out _ (by (repeat (first | exact Mod.refl _ _ | apply Mod.drew | apply Mod.drewN | apply Mod.alloc | refine Mod.setCell ?_ _ _ (by first | simp | (simp; omega)))))).mono ?_
                rintro e w4 ⟨v1, v2, rfl, m1, r1, r2⟩
                obtain ⟨D1, g1, rfl⟩ := r1.frame
                obtain ⟨D2, g2, rfl⟩ := r2.frame
                rw [LMX.out.1] at r1 ⊢
                rw [LMX.out.2] at r2 ⊢
                have R1 := Lib.hid r1
                have R2 := Lib.hid r2
                have MZ := Lib.hid (HM.out.trans' m1)
                have RX := Lib.hid (RX.out.mod m1 (by simp))
                have RY := Lib.hid (RY.out.mod m1 (by simp))
                clear m1 r1 r2 HX
                go_wp2_with fail
                refine (N2.out _ _ R2.out).mono ?_
                rintro e w5 ⟨rfl, rfl⟩
                clear N2
                cases hz : noneB x2 with
                | false =>
                  have CC : Hid (chain4 i x1 x2 (b + 1) = chain4 k lo hi l) := by
                    show _ = _
                    rw [← HI.out.2.2.2.1, CH.out, if_pos ⟨HXY.out, hz⟩]
                  clear hz TEND RX RY
                  go_wp2_with fail
                  go_roundw
                  case rel => exact ⟨i, M, b + 1, x1, x2, D1, D2, g1, g2, rfl, rfl, by go_num, hM64, by omega, ⟨HMM.out.symm, by rw [LX1.out.1, HMM.out], by rw [LX1.out.2, HMM.out], CC.out, by omega, by omega⟩, R1, R2, MZ⟩
                  case measure => simp [intOf]; omega
                | true =>
                  have TEc := Lib.hid (TEND.out (by rw [CH.out, if_neg (fun h => by rw [hz] at h; exact absurd h.2 (by simp))]))
                  clear TEND hbj hjk hz
                  go_wp2_with fail
                  refine (NUL.out _).mono ?_
                  rintro e w3 ⟨rfl, m3⟩
                  have N3 := Lib.hid (MZ.out.trans' m3)
                  have RX := Lib.hid (RX.out.mod m3 (by simp))
                  have RY := Lib.hid (RY.out.mod m3 (by simp))
                  clear m3
                  unfold sv
                  go_wp2_with fail
                  refine (NUB.out _).mono ?_
                  rintro e w4 ⟨rfl, m4⟩
                  have N4 := Lib.hid (N3.out.trans' m4)
                  have RX := Lib.hid (RX.out.mod m4 (by simp))
                  have RY := Lib.hid (RY.out.mod m4 (by simp))
                  clear m4
                  unfold sv
                  go_wp2_with fail
                  refine (IHB.out x _ _ RX.out LX.out.1).mono ?_
                  rintro e w5 ⟨rfl, m5⟩
                  have N5 := Lib.hid (N4.out.trans' m5)
                  have RY := Lib.hid (RY.out.mod m5 (by simp))
                  clear m5
                  unfold sv
                  have hT1 : (term4 G (i + 1) x (b + 1)).length ≤ 1000 := LEN.out x
                  go_wp2_with fail
                  refine (IHB.out y _ _ RY.out LX.out.2).mono ?_
                  rintro e w6 ⟨rfl, m6⟩
                  have N6 := Lib.hid (N5.out.trans' m6)
                  clear m6
                  unfold sv
                  have hT2 : (term4 G (i + 1) y (b + 1)).length ≤ 1000 := LEN.out y
                  go_wp2_with fail
                  go_ret
                  exact ⟨by rw [TEc.out]; exact congrArg (fun x => Ending.returned (.string x)) (cat9 [40] [dg l] [58] [dg b] [32] _ [32] _ [41]), N6.out⟩
            · have TEc := Lib.hid (TEND.out (by
                cases j with
                | zero => rw [chain4]
                | succ i => rw [chain4, if_neg (fun h => hxy h.1)]))
              rw [decide_eq_false hxy]
              clear TEND hbj hjk hxy
              go_wp2_with fail
              refine (NUL.out _).mono ?_
              rintro e w3 ⟨rfl, m3⟩
              have N3 := Lib.hid (HM.out.trans' m3)
              have RX := Lib.hid (RX.out.mod m3 (by simp))
              have RY := Lib.hid (RY.out.mod m3 (by simp))
              clear m3
              unfold sv
              go_wp2_with fail
              refine (NUB.out _).mono ?_
              rintro e w4 ⟨rfl, m4⟩
              have N4 := Lib.hid (N3.out.trans' m4)
              have RX := Lib.hid (RX.out.mod m4 (by simp))
              have RY := Lib.hid (RY.out.mod m4 (by simp))
              clear m4
              unfold sv
              go_wp2_with fail
              refine (IHB.out x _ _ RX.out LX.out.1).mono ?_
              rintro e w5 ⟨rfl, m5⟩
              have N5 := Lib.hid (N4.out.trans' m5)
              have RY := Lib.hid (RY.out.mod m5 (by simp))
              clear m5
              unfold sv
              have hT1 : (term4 G j x (b + 1)).length ≤ 1000 := LEN.out x
              go_wp2_with fail
              refine (IHB.out y _ _ RY.out LX.out.2).mono ?_
              rintro e w6 ⟨rfl, m6⟩
              have N6 := Lib.hid (N5.out.trans' m6)
              clear m6
              unfold sv
              have hT2 : (term4 G j y (b + 1)).length ≤ 1000 := LEN.out y
              go_wp2_with fail
              go_ret
              exact ⟨by rw [TEc.out]; exact congrArg (fun x => Ending.returned (.string x)) (cat9 [40] [dg l] [58] [dg b] [32] _ [32] _ [41]), N6.out⟩
end Go.Proofs.YtcoljkigphnjfaaGreatDoor

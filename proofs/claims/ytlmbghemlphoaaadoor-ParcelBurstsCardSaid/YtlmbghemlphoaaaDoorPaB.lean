/- The walks of slices.IndexFunc and ContainsFunc, and of Find. -/
import Derived.Test.YtlmbghemlphoaaaDoorPaA
namespace Go.Proofs.YtlmbghemlphoaaaDoor.Pa
open Go.RowKit Go.Proofs.YtlmbghemlphoaaaDoor.Kit Go.Proofs.YtlmbghemlphoaaaDoor.PaM Go.IntWalk
set_option linter.unusedVariables false
set_option linter.unusedSimpArgs false
/-- Where the first one is. -/
def idx (p : SecM → Bool) (l : List SecM) : Int := match l.findIdx? p with | some i => i | none => -1
theorem idx_some {p : SecM → Bool} {l : List SecM} {i : Nat} (hi : i < l.length) (h0 : ∀ s ∈ l.take i, p s = false) (h1 : p l[i] = true) : idx p l = i := by
  have : l.findIdx? p = some i := by
    rw [List.findIdx?_eq_some_iff_getElem]
    refine ⟨hi, h1, fun j hj => ?_⟩
    have := h0 l[j] (by rw [List.mem_take_iff_getElem]; exact ⟨j, by omega, rfl⟩)
    simp [this]
  unfold idx
  rw [this]
theorem idx_none {p : SecM → Bool} {l : List SecM} (h0 : ∀ s ∈ l, p s = false) : idx p l = -1 := by
  have : l.findIdx? p = none := by
    rw [List.findIdx?_eq_none_iff]
    exact h0
  unfold idx
  rw [this]
theorem kind_any (s : SecM) (k : Int) (g : Nat) (w : World) (hk : w.cell? ⟨g, 0, none⟩ = some (.int .i64 k)) :
    Calls Tryd.prog 32 #[s.val, .pointer (some ⟨g, 0, none⟩)] w fun e w' => e = .returned (.bool (decide (s.kind = k))) ∧ Below w.heap.size w w' := by
  obtain ⟨kd, A, b, cap⟩ := s
  have hne : (w.alloc (.cells #[.int .i64 kd, .slice A b.length cap] 39)).cell? ⟨g, 0, none⟩ = some (.int .i64 k) := (((Below.refl _ _).alloc (Nat.le_refl _) _).cell (cell_lt hk)).trans hk
  unfold SecM.val SecM.body
  show Calls _ _ _ _ fun e w' => e = .returned (.bool (decide (kd = k))) ∧ _
  have hd : (kd == k) = decide (kd = k) := by by_cases h : kd = k <;> simp [h]
  go_enter Tryd.func32, Tryd.ntmps32
  go_wp2
  go_ret
  exact ⟨by simp [hd], (Below.refl _ _).alloc (Nat.le_refl _) _⟩
theorem hid_below {w w1 w2 : World} (h : Hid (Below w.heap.size w w1)) (hd : Below w1.heap.size w1 w2) : Hid (Below w.heap.size w w2) := Kit.hid (h.out.trans (hd.mono h.out.size))
set_option maxHeartbeats 800000 in
theorem index_long (A : Option Addr) (l : List SecM) (cap : Nat) (w : World) (hs : Hid (Secs w A l)) (hl : l.length ≤ 9223372036854775807) :
    Calls Tryd.prog 31 #[.slice A l.length cap, .func (.func 27) #[] #[]] w fun e w' => e = .returned (.int .i64 (idx (isLong) l)) ∧ Below w.heap.size w w' := by
  have HD : Hid (Below w.heap.size w w) := Kit.hid (Below.refl _ _)
  go_enter Tryd.func31, Tryd.ntmps31
  go_wp2
  go_loopw [8] (fun v8 wr => ∃ i : Nat, i ≤ l.length ∧ v8 = .int .i64 i ∧ (∀ s ∈ l.take i, (isLong) s = false) ∧ Hid (Below w.heap.size w wr)) (fun i _ => l.length - (intOf i).toNat)
  case atStart => exact ⟨0, by omega, rfl, (by simp), HD⟩
  case round =>
    obtain ⟨i, hi, rfl, hr, hbw⟩ := hrel
    by_cases hlt : i < l.length
    · obtain ⟨s, hss⟩ : ∃ s, s = l[i] := ⟨_, rfl⟩
      obtain ⟨ad, hA, k0, k1, _⟩ := sec_at (secs_below hs hbw.out) hlt hss
      subst hA
      have hT : l.take (i + 1) = l.take i ++ [s] := by rw [List.take_succ_eq_append_getElem hlt, hss]
      have HC := Kit.hid (long_any s wr)
      obtain ⟨q, hq⟩ : ∃ q, q = (isLong) s := ⟨_, rfl⟩
      have e0 : (isLong) s = q := hq.symm
      try simp only at e0
      unfold SecM.val at HC
      try rw [e0] at HC
      unfold SecM.body at HC k1
      cases q with
      | true =>
        have e := idx_some (p := isLong) hlt hr (by rw [← hss]; exact hq.symm)
        have E := Kit.hid e
        clear hr hT hss e hq e0
        go_wp2_with (go_at_call 27; refine HC.out.mono ?_; rintro e w1 ⟨rfl, hd1⟩; have hb1 := hid_below hbw hd1)
        go_ret
        exact ⟨congrArg (fun b => Ending.returned (.int .i64 b)) E.out.symm, hb1.out⟩
      | false =>
        have hr2 : ∀ x ∈ l.take (i + 1), (isLong) x = false := by
          intro x hx
          rw [hT, List.mem_append] at hx
          rcases hx with hx | hx
          · exact hr x hx
          · rw [List.mem_singleton.1 hx]; exact hq.symm
        have HR := Kit.hid hr2
        clear hr hT hss hr2 hq e0
        go_wp2_with (go_at_call 27; refine HC.out.mono ?_; rintro e w1 ⟨rfl, hd1⟩; have hb1 := hid_below hbw hd1)
        go_roundw
        case rel => exact ⟨i + 1, by omega, by go_num, HR.out, hb1⟩
        case measure => simp [intOf]; omega
    · obtain rfl : i = l.length := by omega
      rw [List.take_length] at hr
      have E := Kit.hid (idx_none (p := isLong) hr)
      clear hr
      go_wp2
      go_ret
      exact ⟨congrArg (fun b => Ending.returned (.int .i64 b)) E.out.symm, hbw.out⟩
set_option maxHeartbeats 800000 in
theorem index_kind (A : Option Addr) (l : List SecM) (cap : Nat) (k : Int) (g : Nat) (w : World) (hs : Hid (Secs w A l)) (hl : l.length ≤ 9223372036854775807) (hk : w.cell? ⟨g, 0, none⟩ = some (.int .i64 k)) :
    Calls Tryd.prog 31 #[.slice A l.length cap, .func (.func 32) #[] #[.pointer (some ⟨g, 0, none⟩)]] w fun e w' => e = .returned (.int .i64 (idx (fun s => decide (s.kind = k)) l)) ∧ Below w.heap.size w w' := by
  have HD : Hid (Below w.heap.size w w) := Kit.hid (Below.refl _ _)
  go_enter Tryd.func31, Tryd.ntmps31
  go_wp2
  go_loopw [8] (fun v8 wr => ∃ i : Nat, i ≤ l.length ∧ v8 = .int .i64 i ∧ (∀ s ∈ l.take i, (fun s => decide (s.kind = k)) s = false) ∧ Hid (Below w.heap.size w wr)) (fun i _ => l.length - (intOf i).toNat)
  case atStart => exact ⟨0, by omega, rfl, (by simp), HD⟩
  case round =>
    obtain ⟨i, hi, rfl, hr, hbw⟩ := hrel
    by_cases hlt : i < l.length
    · obtain ⟨s, hss⟩ : ∃ s, s = l[i] := ⟨_, rfl⟩
      obtain ⟨ad, hA, k0, k1, _⟩ := sec_at (secs_below hs hbw.out) hlt hss
      subst hA
      have hT : l.take (i + 1) = l.take i ++ [s] := by rw [List.take_succ_eq_append_getElem hlt, hss]
      have HC := Kit.hid (kind_any s k g wr ((hbw.out.cell (cell_lt hk)).trans hk))
      obtain ⟨q, hq⟩ : ∃ q, q = (fun s => decide (s.kind = k)) s := ⟨_, rfl⟩
      have e0 : (fun s => decide (s.kind = k)) s = q := hq.symm
      try simp only at e0
      unfold SecM.val at HC
      try rw [e0] at HC
      unfold SecM.body at HC k1
      cases q with
      | true =>
        have e := idx_some (p := fun s => decide (s.kind = k)) hlt hr (by rw [← hss]; exact hq.symm)
        have E := Kit.hid e
        clear hr hT hss e hq e0
        go_wp2_with (go_at_call 32; refine HC.out.mono ?_; rintro e w1 ⟨rfl, hd1⟩; have hb1 := hid_below hbw hd1)
        go_ret
        exact ⟨congrArg (fun b => Ending.returned (.int .i64 b)) E.out.symm, hb1.out⟩
      | false =>
        have hr2 : ∀ x ∈ l.take (i + 1), (fun s => decide (s.kind = k)) x = false := by
          intro x hx
          rw [hT, List.mem_append] at hx
          rcases hx with hx | hx
          · exact hr x hx
          · rw [List.mem_singleton.1 hx]; exact hq.symm
        have HR := Kit.hid hr2
        clear hr hT hss hr2 hq e0
        go_wp2_with (go_at_call 32; refine HC.out.mono ?_; rintro e w1 ⟨rfl, hd1⟩; have hb1 := hid_below hbw hd1)
        go_roundw
        case rel => exact ⟨i + 1, by omega, by go_num, HR.out, hb1⟩
        case measure => simp [intOf]; omega
    · obtain rfl : i = l.length := by omega
      rw [List.take_length] at hr
      have E := Kit.hid (idx_none (p := fun s => decide (s.kind = k)) hr)
      clear hr
      go_wp2
      go_ret
      exact ⟨congrArg (fun b => Ending.returned (.int .i64 b)) E.out.symm, hbw.out⟩
theorem idx_find (l : List SecM) (k : Int) : (findM l k = none ∧ idx (fun s => decide (s.kind = k)) l = -1) ∨ ∃ (i : Nat) (h : i < l.length), idx (fun s => decide (s.kind = k)) l = i ∧ findM l k = some l[i] := by
  cases hf : l.findIdx? (fun s => decide (s.kind = k)) with
  | none =>
    left
    rw [List.findIdx?_eq_none_iff] at hf
    exact ⟨List.find?_eq_none.2 (fun x hx => by simpa using hf x hx), idx_none hf⟩
  | some i =>
    right
    have h := hf
    rw [List.findIdx?_eq_some_iff_getElem] at hf
    obtain ⟨hi, h1, h2⟩ := hf
    refine ⟨i, hi, by unfold idx; rw [h], ?_⟩
    have hsp : l = l.take i ++ l[i] :: l.drop (i + 1) := by simp
    have hn : (l.take i).find? (fun s => decide (s.kind = k)) = none := by
      rw [List.find?_eq_none]
      intro x hx
      obtain ⟨j, hj, rfl⟩ := List.mem_take_iff_getElem.1 hx
      have := h2 j (by omega)
      simpa using this
    unfold findM
    conv => lhs; rw [hsp]
    rw [List.find?_append, hn, Option.none_or]
    exact List.find?_cons_of_pos (p := fun s => decide (SecM.kind s = k)) h1
theorem idx_long (l : List SecM) : decide (0 ≤ idx isLong l) = l.any isLong := by
  cases hf : l.findIdx? isLong with
  | none =>
    rw [List.findIdx?_eq_none_iff] at hf
    rw [idx_none hf]
    have : l.any isLong = false := by rw [List.any_eq_false]; intro x hx; simp [hf x hx]
    rw [this]
    decide
  | some i =>
    have h := hf
    rw [List.findIdx?_eq_some_iff_getElem] at hf
    obtain ⟨hi, h1, h2⟩ := hf
    have : l.any isLong = true := List.any_eq_true.2 ⟨l[i], List.getElem_mem hi, h1⟩
    rw [this]
    unfold idx
    rw [h]
    simp
theorem contains_any (A : Option Addr) (l : List SecM) (cap : Nat) (w : World) (hs : Hid (Secs w A l)) (hl : l.length ≤ 9223372036854775807) :
    Calls Tryd.prog 26 #[.slice A l.length cap, .func (.func 27) #[] #[]] w fun e w' => e = .returned (.bool (l.any isLong)) ∧ Below w.heap.size w w' := by
  have HC := Kit.hid (index_long A l cap w hs hl)
  have h := idx_long l
  obtain ⟨x, hx⟩ : ∃ x, x = idx isLong l := ⟨_, rfl⟩
  rw [← hx] at HC h
  rw [← h]
  clear hx h
  go_enter Tryd.func26, Tryd.ntmps26
  go_wp2_with (go_at_call 31; refine HC.out.mono ?_; rintro e w1 ⟨rfl, hd1⟩)
  go_ret
  exact ⟨rfl, hd1⟩
theorem find_any (A : Option Addr) (l : List SecM) (cap : Nat) (k : Int) (w : World) (hs : Hid (Secs w A l)) (hl : l.length ≤ 9223372036854775807) :
    Calls Tryd.prog 17 #[.slice A l.length cap, .int .i64 k] w fun e w' => e = .returned (.tuple #[foundV l k, .bool (findM l k).isSome]) ∧ Below w.heap.size w w' := by
  have hbA := (Below.refl w.heap.size w).alloc (Nat.le_refl _) (.cells #[.int .i64 k] 3)
  have HC := Kit.hid (index_kind A l cap k w.heap.size (w.alloc (.cells #[.int .i64 k] 3)) (secs_below hs hbA) hl ((blk_cell (blk_new w (.cells #[.int .i64 k] 3)) 0).trans rfl))
  rcases idx_find l k with ⟨h1, h2⟩ | ⟨i, hi, h2, h1⟩
  · rw [h2] at HC
    have E := Kit.hid h1
    clear h1 h2
    go_enter Tryd.func17, Tryd.ntmps17
    go_wp2_with (go_at_call 31; refine HC.out.mono ?_; rintro e w1 ⟨rfl, hd1⟩; have hb1 := Kit.hid (hbA.trans (hd1.mono (by simp))))
    go_ret2
    refine ⟨?_, hb1.out⟩
    simp only [foundV, E.out]
    rfl
  · rw [h2] at HC
    obtain ⟨s, hss⟩ : ∃ s, s = l[i] := ⟨_, rfl⟩
    rw [← hss] at h1
    have E := Kit.hid h1
    have HS := Kit.hid hss
    have g0 : ¬ (i : Int) < 0 := by omega
    have g1 : (0 : Int) ≤ (i : Int) := by omega
    have g2 : (i : Int) < (l.length : Int) := by omega
    clear h1 h2 hss
    go_enter Tryd.func17, Tryd.ntmps17
    go_wp2_with (go_at_call 31; refine HC.out.mono ?_; rintro e w1 ⟨rfl, hd1⟩; have hb1 := Kit.hid (hbA.trans (hd1.mono (by simp))); obtain ⟨ad, hA, k0, k1, _⟩ := sec_at (secs_below hs hb1.out) hi HS.out; subst hA; unfold SecM.body at k1)
    go_ret2
    refine ⟨?_, hb1.out⟩
    simp only [foundV, E.out]
    rfl
end Go.Proofs.YtlmbghemlphoaaaDoor.Pa

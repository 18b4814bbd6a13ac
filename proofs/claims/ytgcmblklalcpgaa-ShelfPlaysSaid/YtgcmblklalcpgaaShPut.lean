/- The reference's Put over a row of items in memory. -/
import Derived.Test.YtgcmblklalcpgaaShZ
import Derived.Deep.Cut
namespace Go.Proofs.Ytgcmblklalcpgaa.Sh
open Go.RowKit Go.Proofs.Ytgcmblklalcpgaa.Kit Go.Proofs.Ytgcmblklalcpgaa.ShM
set_option linter.unusedVariables false
set_option linter.unusedSimpArgs false
theorem flatI_len : ∀ l : List It, (flatI l).length = l.length * 2
  | [] => rfl
  | x :: l => by
    have := flatI_len l
    have e : flatI (x :: l) = .int .i64 x.key :: .int .i64 x.id :: flatI l := rfl
    rw [e]; simp only [List.length_cons, this]; omega
theorem flatI_app (l m : List It) : flatI (l ++ m) = flatI l ++ flatI m := by
  induction l with
  | nil => rfl
  | cons x l ih =>
    have e : ∀ y (k : List It), flatI (y :: k) = .int .i64 y.key :: .int .i64 y.id :: flatI k := fun _ _ => rfl
    rw [List.cons_append, e, e, ih]; rfl
theorem flatI_one : ∀ (l : List It), ∀ u ∈ flatI l, u.oneCell' = true
  | [], u, h => by cases h
  | x :: l, u, h => by
    have e : flatI (x :: l) = .int .i64 x.key :: .int .i64 x.id :: flatI l := rfl
    rw [e] at h
    rcases List.mem_cons.1 h with rfl | h
    · rfl
    · rcases List.mem_cons.1 h with rfl | h
      · rfl
      · exact flatI_one l u h
theorem cells_itrow {w : World} {A : Option Addr} {l : List It} (h : Hid (ItRow w A l)) : Cells w A (flatI l) := by
  intro i hi
  rw [flatI_len] at hi
  obtain ⟨ad, rfl, h0, h1⟩ := h.out (i / 2) (by omega)
  obtain ⟨g0, g1⟩ := flatI_get l (i / 2) (by omega)
  obtain ⟨q0, e0⟩ := List.getElem?_eq_some_iff.1 g0
  obtain ⟨q1, e1⟩ := List.getElem?_eq_some_iff.1 g1
  refine ⟨ad, rfl, ?_⟩
  by_cases hp : i % 2 = 0
  · have : i = i / 2 * 2 := by omega
    rw [← this] at h0
    rw [h0, ← e0]
    congr 2
    exact this.symm
  · have : i = i / 2 * 2 + 1 := by omega
    rw [← this] at h1
    rw [h1, ← e1]
    congr 2
    exact this.symm
theorem itrow_take {w : World} {A : Option Addr} {l : List It} (k : Nat) (h : Hid (ItRow w A l)) : Hid (ItRow w A (l.take k)) := by
  intro i hi
  rw [List.length_take] at hi
  obtain ⟨ad, rfl, h0, h1⟩ := h.out i (by omega)
  refine ⟨ad, rfl, ?_, ?_⟩
  · rw [h0, List.getElem_take]
  · rw [h1, List.getElem_take]
theorem itrow_drop {w : World} {ad : Addr} {l : List It} (k : Nat) (h : Hid (ItRow w (some ad) l)) : Hid (ItRow w (some (ad.add (k * 2))) (l.drop k)) := by
  intro i hi
  rw [List.length_drop] at hi
  obtain ⟨ad', e, h0, h1⟩ := h.out (k + i) (by omega)
  cases e
  refine ⟨_, rfl, ?_, ?_⟩
  · rw [Kit.add_add, ← Nat.add_mul, h0, List.getElem_drop]
  · rw [Kit.add_add, ← Nat.add_assoc, ← Nat.add_mul, h1, List.getElem_drop]
set_option maxHeartbeats 1600000 in
theorem rput_any (A : Option Addr) (l : List It) (ca : Nat) (x : It) (w : World) (ha : Hid (ItRow w A l)) (hr : Rises l) (hc : l.length ≤ ca) (h1 : l.length ≤ 1000000) :
    Calls Try.prog 23 #[.slice A l.length ca, .agg #[.int .i64 x.key, .int .i64 x.id]] w fun e w' => ∃ A' c', e = .returned (.slice A' (putL x l).length c') ∧ Hid (ItRow w' A' (putL x l)) ∧ (putL x l).length ≤ c' ∧ (A' = A ∨ ∀ ad, A' = some ad → w.heap.size ≤ ad.block ∧ ad.block < w'.heap.size) ∧ Below w.heap.size w w' := by
  have HHS : Hid (∀ w', Hid (ItRow w' A l) → Calls Try.prog 20 #[.slice A l.length ca, .agg #[.int .i64 x.key, .int .i64 x.id]] w' fun e w'' => e = .returned (.bool (decide (x ∈ l))) ∧ Below w'.heap.size w' w'') := Kit.hid (fun w' h => rhas_any A l ca x w' h h1)
  have HRK : Hid (∀ w', Hid (ItRow w' A l) → Calls Try.prog 28 #[.slice A l.length ca, .agg #[.int .i64 x.key, .int .i64 x.id]] w' fun e w'' => e = .returned (.int .i64 (rankL x l : Int)) ∧ Below w'.heap.size w' w'') := Kit.hid (fun w' h => rrank_any A l ca x w' h h1)
  have hrk := rankL_le x l
  obtain ⟨rk, hrk2⟩ : ∃ rk, rk = rankL x l := ⟨_, rfl⟩
  rw [← hrk2] at HRK hrk
  have HPL : Hid (x ∉ l → putL x l = l.take rk ++ x :: l.drop rk) := Kit.hid (fun h => by rw [putL, if_neg h, hrk2]; exact insL_rank x l hr h)
  clear hrk2
  have HRS := Kit.hid hr
  have HHA := ha
  clear hr ha
  go_enter Try.func23, Try.ntmps23
  go_wp2_with fail
  have hb0 : Below w.heap.size w (w.alloc (.cells #[.int .i64 x.key, .int .i64 x.id] 24)) := (Below.refl _ w).alloc (Nat.le_refl _) _
  have hx0 := World.alloc_heap_new w (.cells #[.int .i64 x.key, .int .i64 x.id] 24)
  generalize World.alloc w (.cells #[.int .i64 x.key, .int .i64 x.id] 24) = wb at hb0 hx0
  have HB0 := Kit.hid hb0
  have HX0 := Kit.hid hx0
  clear hb0 hx0
  (with_reducible refine (HHS.out _ (itrow_below HHA HB0.out)).mono ?_); rintro e w1 ⟨rfl, hd1⟩
  have HB1 := Kit.hid (HB0.out.trans (hd1.mono HB0.out.size))
  have hx1 := blk_below HX0.out hd1
  have x0 := blk_cell hx1 0
  have x1 := blk_cell hx1 1
  have lx := blk_lt hx1
  have HX1 := Kit.hid hx1
  clear hd1 hx1
  by_cases hin : x ∈ l
  · have hd : decide (x ∈ l) = true := decide_eq_true hin
    have HP2 : Hid (putL x l = l) := Kit.hid (by rw [putL, if_pos hin])
    rw [hd]
    clear hin hd
    go_wp2
    go_ret
    rw [HP2.out]
    exact ⟨A, ca, rfl, itrow_below HHA HB1.out, hc, .inl rfl, HB1.out⟩
  have hd : decide (x ∈ l) = false := decide_eq_false hin
  have HP2 := Kit.hid (HPL.out hin)
  rw [hd]
  clear hin hd HPL HHS
  go_wp2_with fail
  (with_reducible refine (HRK.out _ (itrow_below HHA HB1.out)).mono ?_); rintro e w2 ⟨rfl, hd2⟩
  have HB2 := Kit.hid (HB1.out.trans (hd2.mono HB1.out.size))
  have hx2 := blk_below HX1.out hd2
  have HX2 := Kit.hid hx2
  have HA2 := itrow_below HHA HB2.out
  clear hd2 hx2 x0 x1 lx
  have hown0 : (w2.alloc (.cells #[] 24)).ownsRow w2.heap.size 24 2 (.slice (some ⟨w2.heap.size, 0, none⟩) 0 0) 0 [] := World.ownsRow_lit w2 #[] 0 (Nat.le_refl _) (by decide) rfl
  have hd0 : Below w2.heap.size w2 (w2.alloc (.cells #[] 24)) := (Below.refl _ _).alloc (Nat.le_refl _) _
  have HCL : Hid (∀ {wd : World}, Below w2.heap.size w2 wd → Cells wd A (flatI (l.take rk))) := Kit.hid (fun hd => cells_itrow (itrow_take rk (itrow_below HA2 hd)))
  have HLT : Hid ((l.take rk).length = rk) := Kit.hid (by rw [List.length_take]; omega)
  have hkc : (rk : Int) ≤ (ca : Int) := by omega
  have hkl : (rk : Int) ≤ (l.length : Int) := by omega
  have HOWN := Kit.hid hown0
  have HD0 := Kit.hid hd0
  clear hown0 hd0
  go_wp2_with (at_builtin; refine wpList_append_srcS rfl _ _ 39 rfl w2.heap.size 24 (.agg #[.int .i64 0, .int .i64 0]) 2 16 (by decide) Try.underlying39 infoIt rfl _ 0 _ rfl HOWN.out A rk ca (flatI (l.take rk)) rfl (by rw [flatI_len, HLT.out]) (HCL.out HD0.out) (flatI_one _) (by unfold maxLen; omega) (by omega) (by simp) ?_; intro v5 w5 hown5 hg5 _; have hd5 := below_ownS (B := w2.heap.size) (w0 := w2) HD0.out HOWN.out hg5 (by simp))
  rw [Nat.zero_add, List.nil_append] at hown5
  obtain ⟨A5, c5, rfl, _, hc5, _⟩ := own_readsS (by decide) hown5
  have HD5 := Kit.hid hd5
  have HX5 := Kit.hid (blk_below HX2.out hd5)
  have HO5 : Hid (((w5.drew).alloc (.cells #[.int .i64 x.key, .int .i64 x.id] 24)).ownsRow w2.heap.size 24 2 (.slice A5 rk c5) rk (flatI (l.take rk))) := Kit.hid (own_belowS hown5 ((Below.refl _ w5).drew.alloc (Nat.le_refl _) _))
  have HBX : Hid (w.heap.size < w2.heap.size) := Kit.hid (blk_lt HX2.out)
  have HX6 : Hid (((w5.drew).alloc (.cells #[.int .i64 x.key, .int .i64 x.id] 24)).heap[w.heap.size]? = some (.cells #[.int .i64 x.key, .int .i64 x.id] 24 (0, 0))) := Kit.hid (blk_below HX5.out ((Below.refl _ w5).drew.alloc (Nat.le_refl _) _))
  clear hown5 hd5 hg5 hc5
  have HFIN : Hid (∀ A7 c7 w7, Below w2.heap.size w2 w7 → w7.ownsRow w2.heap.size 24 2 (.slice A7 (rk + 1 + (l.length - rk)) c7) (rk + 1 + (l.length - rk)) (flatI (l.take rk) ++ [.int .i64 x.key, .int .i64 x.id] ++ flatI (l.drop rk)) → ∃ A' c', Ending.returned (.slice A7 (rk + 1 + (l.length - rk)) c7) = .returned (.slice A' (putL x l).length c') ∧ Hid (ItRow w7 A' (putL x l)) ∧ (putL x l).length ≤ c' ∧ (A' = A ∨ ∀ ad, A' = some ad → w.heap.size ≤ ad.block ∧ ad.block < w7.heap.size) ∧ Below w.heap.size w w7) := Kit.hid (fun A7 c7 w7 hb hown => by
    have hlen : (putL x l).length = rk + 1 + (l.length - rk) := by rw [HP2.out, List.length_append, HLT.out, List.length_cons, List.length_drop]; omega
    obtain ⟨A7', c7', e7, hc7, hn7, hA7⟩ := own_readsS (by decide) hown
    cases e7
    have e : flatI (l.take rk) ++ [.int .i64 x.key, .int .i64 x.id] ++ flatI (l.drop rk) = flatI (putL x l) := by
      rw [HP2.out, flatI_app, List.append_assoc]; rfl
    rw [e] at hc7
    rw [← hlen] at hn7 ⊢
    refine ⟨A7, c7, rfl, itrow_cells hc7, hn7, .inr (fun ad he => ?_), HB2.out.trans (hb.mono HB2.out.size)⟩
    rcases hA7 with ⟨h0, _⟩ | ⟨g', h0, h1, h2⟩
    · rw [h0] at he; cases he
    · rw [h0] at he
      cases he
      exact ⟨Nat.le_trans HB2.out.size h1, h2⟩)
  rcases A with _ | ad
  · have hl0 : l = [] := by
      cases l with
      | nil => rfl
      | cons y l =>
        obtain ⟨ad, h, _⟩ := HHA.out 0 (by simp)
        cases h
    have hl1 : l.length - rk = 0 := by rw [hl0]; simp
    have hl2 : flatI (l.drop rk) = [] := by rw [hl0]; simp [flatI]
    have hl3 : (l.length : Int) = 0 := by rw [hl0]; rfl
    have hl4 : rk = 0 := by rw [hl0] at hrk; simpa using hrk
    rw [hl1, hl2] at HFIN
    subst hl4
    have HL0 := Kit.hid hl0
    clear hl0 hl1 hl2
    go_wp2_with fail
    refine wp_region_noPanic ?_
    refine wp_region_held_drew (S := fun w' => Hid (w'.heap[w.heap.size]? = some (.cells #[.int .i64 x.key, .int .i64 x.id] 24 (0, 0)))) (by kernel_rfl) HX5 (fun hHeld => ?_)
    refine wpAnyH_take (i := 0) (hi := by simp only [List.getElem?_toArray, List.getElem?_cons_succ, List.getElem?_cons_zero]; rfl) (v := ?_) (by kernel_rfl) (by kernel_rfl) (by kernel_rfl) (fun _ _ _ h => h) (Or.inl ⟨by rfl, ?_⟩) (by assumption) ?_
    rotate_left
    · (intro w hSw; (try dsimp only at hSw); go_simp; first | done | with_reducible rfl)
    try simp only [Act.put, List.setIfInBounds_toArray, List.set_cons_zero, List.set_cons_succ]
    refine wpAnyH_take (i := 1) (hi := by simp only [List.getElem?_toArray, List.getElem?_cons_succ, List.getElem?_cons_zero]; rfl) (v := ?_) (by kernel_rfl) (by kernel_rfl) (by kernel_rfl) (fun _ _ _ h => h) (Or.inl ⟨by rfl, ?_⟩) (by assumption) ?_
    rotate_left
    · (intro w hSw; (try dsimp only at hSw); (have x0 := blk_cell hSw.out 0; have x1 := blk_cell hSw.out 1); go_simp; first | done | with_reducible rfl)
    try simp only [Act.put, List.setIfInBounds_toArray, List.set_cons_zero, List.set_cons_succ]
    refine wpAnyH_take (i := 4) (hi := by simp only [List.getElem?_toArray, List.getElem?_cons_succ, List.getElem?_cons_zero]; rfl) (v := ?_) (by kernel_rfl) (by kernel_rfl) (by kernel_rfl) (fun _ _ _ h => h) (Or.inl ⟨by rfl, ?_⟩) (by assumption) ?_
    rotate_left
    · (intro w hSw; (try dsimp only at hSw); go_simp; first | done | with_reducible rfl)
    try simp only [Act.put, List.setIfInBounds_toArray, List.set_cons_zero, List.set_cons_succ]
    refine wpAnyH_take (i := 5) (hi := by simp only [List.getElem?_toArray, List.getElem?_cons_succ, List.getElem?_cons_zero]; rfl) (v := ?_) (by kernel_rfl) (by kernel_rfl) (by kernel_rfl) (fun _ _ _ h => h) (Or.inl ⟨by rfl, ?_⟩) (by assumption) ?_
    rotate_left
    · (intro w hSw; (try dsimp only at hSw); go_simp; first | done | with_reducible rfl)
    try simp only [Act.put, List.setIfInBounds_toArray, List.set_cons_zero, List.set_cons_succ]
    refine wpAnyH_take (i := 6) (hi := by simp only [List.getElem?_toArray, List.getElem?_cons_succ, List.getElem?_cons_zero]; rfl) (v := ?_) (by kernel_rfl) (by kernel_rfl) (by kernel_rfl) (fun _ _ _ h => h) (Or.inl ⟨by rfl, ?_⟩) (by assumption) ?_
    rotate_left
    · (intro w hSw; (try dsimp only at hSw); go_simp; first | done | with_reducible rfl)
    try simp only [Act.put, List.setIfInBounds_toArray, List.set_cons_zero, List.set_cons_succ]
    refine wpAnyH_ready (rs := [2]) (by kernel_rfl) (by simp) ?_
    refine AllReadyH.cons (ho := by simp only [List.getElem?_toArray, List.getElem?_cons_succ, List.getElem?_cons_zero]; rfl) (fun K hK => ?_) (AllReadyH.nil)
    go_simp
    go_wp2_with fail
    refine hK.out _ _ ?_ (fun hHeldN => ?_)
    · exact HX6
    clear hHeld
    have hHeld := hHeldN
    clear hHeldN
    clear hK K
    try simp only [Act.put, List.setIfInBounds_toArray, List.set_cons_zero, List.set_cons_succ]
    refine wpAnyH_ready (rs := [3]) (by kernel_rfl) (by simp) ?_
    refine AllReadyH.cons (ho := by simp only [List.getElem?_toArray, List.getElem?_cons_succ, List.getElem?_cons_zero]; rfl) (fun K hK => ?_) (AllReadyH.nil)
    refine step_append_srcS rfl _ _ 39 rfl w2.heap.size 24 (.agg #[.int .i64 0, .int .i64 0]) 2 16 (by decide) Try.underlying39 infoIt rfl _ 0 _ (by simp [Act.eval, Act.put]) HO5.out (some ⟨w5.heap.size, 0, none⟩) 1 1 [.int .i64 x.key, .int .i64 x.id] (by simp [Act.eval, Act.put]) rfl (litIt _ x) (flatI_one [x]) (by unfold maxLen; omega) (by omega) (by have := HD5.out.size; simp; omega) ?_
    intro v6 w6 hown6 hg6 _
    have HX7 : Hid (w6.heap[w.heap.size]? = some (.cells #[.int .i64 x.key, .int .i64 x.id] 24 (0, 0))) := Kit.hid (blk_grown' HX6.out hg6 (fun e => by have := (HO5.out.lt _ e).1; have := HBX.out; omega))
    have HD6 : Hid (Below w2.heap.size w2 w6) := Kit.hid (((HD5.out.drew).alloc HD5.out.size _).grown hg6 (by have := HD5.out.size; simp; omega) (fun k hk => (HO5.out.lt k hk).1))
    have HO6 := Kit.hid hown6
    clear hown6 hg6
    refine hK.out _ _ ?_ (fun hHeldN => ?_)
    · exact HX7
    clear hHeld
    have hHeld := hHeldN
    clear hHeldN
    clear hK K
    try simp only [Act.put, List.setIfInBounds_toArray, List.set_cons_zero, List.set_cons_succ]
    refine wpAnyH_ready (rs := [7]) (by kernel_rfl) (by simp) ?_
    refine AllReadyH.cons (ho := by simp only [List.getElem?_toArray, List.getElem?_cons_succ, List.getElem?_cons_zero]; rfl) (fun K hK => ?_) (AllReadyH.nil)
    refine step_append_srcS rfl _ _ 39 rfl w2.heap.size 24 (.agg #[.int .i64 0, .int .i64 0]) 2 16 (by decide) Try.underlying39 infoIt rfl _ (0 + 1) _ (by simp [Act.eval, Act.put]) HO6.out none 0 ca [] (by simp [Act.eval, Act.put, HL0.out]) rfl (fun i h => by cases h) (fun u h => by cases h) (by unfold maxLen; omega) (by omega) HD6.out.size ?_
    intro v7 w7 hown7 hg7 _
    have HD7 : Hid (Below w2.heap.size w2 w7) := Kit.hid (HD6.out.grown hg7 HD6.out.size (fun k hk => (HO6.out.lt k hk).1))
    have HX8 : Hid (w7.heap[w.heap.size]? = some (.cells #[.int .i64 x.key, .int .i64 x.id] 24 (0, 0))) := Kit.hid (blk_grown' HX7.out hg7 (fun e => by have := (HO6.out.lt _ e).1; have := HBX.out; omega))
    have HO7 := Kit.hid hown7
    clear hown7 hg7
    refine hK.out _ _ ?_ (fun hHeldN => ?_)
    · exact HX8
    clear hHeld
    have hHeld := hHeldN
    clear hHeldN
    clear hK K
    try simp only [Act.put, List.setIfInBounds_toArray, List.set_cons_zero, List.set_cons_succ]
    refine wpAnyH_take (i := 8) (hi := by simp only [List.getElem?_toArray, List.getElem?_cons_succ, List.getElem?_cons_zero]; rfl) (v := ?_) (by kernel_rfl) (by kernel_rfl) (by kernel_rfl) (fun _ _ _ h => h) (Or.inl ⟨by rfl, ?_⟩) (by assumption) ?_
    rotate_left
    · (intro w hSw; (try dsimp only at hSw); go_simp; first | done | with_reducible rfl)
    try simp only [Act.put, List.setIfInBounds_toArray, List.set_cons_zero, List.set_cons_succ]
    clear hHeld
    refine wpAnyH_done (by kernel_rfl) ?_ _
    refine NoPanic.normal ?_
    skip
    obtain ⟨A7, c7, rfl, _, _, _⟩ := own_readsS (by decide) HO7.out
    go_wp2
    go_ret
    exact HFIN.out _ _ _ HD7.out HO7.out
  · by_cases hz : ca = rk
    · have hl1 : l.length - rk = 0 := by omega
      have hl2 : flatI (l.drop rk) = [] := by rw [List.drop_eq_nil_iff.2 (by omega)]; rfl
      rw [hl1, hl2] at HFIN
      have HZ := Kit.hid hz
      have HZ1 := Kit.hid hl1
      have hz1 : ca - rk = 0 := by omega
      clear hz hl2 hl1
      go_wp2_with fail
      refine wp_region_noPanic ?_
      refine wp_region_held_drew (S := fun w' => Hid (w'.heap[w.heap.size]? = some (.cells #[.int .i64 x.key, .int .i64 x.id] 24 (0, 0)))) (by kernel_rfl) HX5 (fun hHeld => ?_)
      refine wpAnyH_take (i := 0) (hi := by simp only [List.getElem?_toArray, List.getElem?_cons_succ, List.getElem?_cons_zero]; rfl) (v := ?_) (by kernel_rfl) (by kernel_rfl) (by kernel_rfl) (fun _ _ _ h => h) (Or.inl ⟨by rfl, ?_⟩) (by assumption) ?_
      rotate_left
      · (intro w hSw; (try dsimp only at hSw); go_simp; first | done | with_reducible rfl)
      try simp only [Act.put, List.setIfInBounds_toArray, List.set_cons_zero, List.set_cons_succ]
      refine wpAnyH_take (i := 1) (hi := by simp only [List.getElem?_toArray, List.getElem?_cons_succ, List.getElem?_cons_zero]; rfl) (v := ?_) (by kernel_rfl) (by kernel_rfl) (by kernel_rfl) (fun _ _ _ h => h) (Or.inl ⟨by rfl, ?_⟩) (by assumption) ?_
      rotate_left
      · (intro w hSw; (try dsimp only at hSw); (have x0 := blk_cell hSw.out 0; have x1 := blk_cell hSw.out 1); go_simp; first | done | with_reducible rfl)
      try simp only [Act.put, List.setIfInBounds_toArray, List.set_cons_zero, List.set_cons_succ]
      refine wpAnyH_take (i := 4) (hi := by simp only [List.getElem?_toArray, List.getElem?_cons_succ, List.getElem?_cons_zero]; rfl) (v := ?_) (by kernel_rfl) (by kernel_rfl) (by kernel_rfl) (fun _ _ _ h => h) (Or.inl ⟨by rfl, ?_⟩) (by assumption) ?_
      rotate_left
      · (intro w hSw; (try dsimp only at hSw); go_simp; first | done | with_reducible rfl)
      try simp only [Act.put, List.setIfInBounds_toArray, List.set_cons_zero, List.set_cons_succ]
      refine wpAnyH_take (i := 5) (hi := by simp only [List.getElem?_toArray, List.getElem?_cons_succ, List.getElem?_cons_zero]; rfl) (v := ?_) (by kernel_rfl) (by kernel_rfl) (by kernel_rfl) (fun _ _ _ h => h) (Or.inl ⟨by rfl, ?_⟩) (by assumption) ?_
      rotate_left
      · (intro w hSw; (try dsimp only at hSw); go_simp; first | done | with_reducible rfl)
      try simp only [Act.put, List.setIfInBounds_toArray, List.set_cons_zero, List.set_cons_succ]
      refine wpAnyH_take (i := 6) (hi := by simp only [List.getElem?_toArray, List.getElem?_cons_succ, List.getElem?_cons_zero]; rfl) (v := ?_) (by kernel_rfl) (by kernel_rfl) (by kernel_rfl) (fun _ _ _ h => h) (Or.inl ⟨by rfl, ?_⟩) (by assumption) ?_
      rotate_left
      · (intro w hSw; (try dsimp only at hSw); go_simp; first | done | with_reducible rfl)
      try simp only [Act.put, List.setIfInBounds_toArray, List.set_cons_zero, List.set_cons_succ]
      refine wpAnyH_ready (rs := [2]) (by kernel_rfl) (by simp) ?_
      refine AllReadyH.cons (ho := by simp only [List.getElem?_toArray, List.getElem?_cons_succ, List.getElem?_cons_zero]; rfl) (fun K hK => ?_) (AllReadyH.nil)
      go_simp
      go_wp2_with fail
      refine hK.out _ _ ?_ (fun hHeldN => ?_)
      · exact HX6
      clear hHeld
      have hHeld := hHeldN
      clear hHeldN
      clear hK K
      try simp only [Act.put, List.setIfInBounds_toArray, List.set_cons_zero, List.set_cons_succ]
      refine wpAnyH_ready (rs := [3]) (by kernel_rfl) (by simp) ?_
      refine AllReadyH.cons (ho := by simp only [List.getElem?_toArray, List.getElem?_cons_succ, List.getElem?_cons_zero]; rfl) (fun K hK => ?_) (AllReadyH.nil)
      refine step_append_srcS rfl _ _ 39 rfl w2.heap.size 24 (.agg #[.int .i64 0, .int .i64 0]) 2 16 (by decide) Try.underlying39 infoIt rfl _ rk _ (by simp [Act.eval, Act.put]) HO5.out (some ⟨w5.heap.size, 0, none⟩) 1 1 [.int .i64 x.key, .int .i64 x.id] (by simp [Act.eval, Act.put]) rfl (litIt _ x) (flatI_one [x]) (by unfold maxLen; omega) (by omega) (by have := HD5.out.size; simp; omega) ?_
      intro v6 w6 hown6 hg6 _
      have HX7 : Hid (w6.heap[w.heap.size]? = some (.cells #[.int .i64 x.key, .int .i64 x.id] 24 (0, 0))) := Kit.hid (blk_grown' HX6.out hg6 (fun e => by have := (HO5.out.lt _ e).1; have := HBX.out; omega))
      have HD6 : Hid (Below w2.heap.size w2 w6) := Kit.hid (((HD5.out.drew).alloc HD5.out.size _).grown hg6 (by have := HD5.out.size; simp; omega) (fun k hk => (HO5.out.lt k hk).1))
      have HO6 := Kit.hid hown6
      clear hown6 hg6
      refine hK.out _ _ ?_ (fun hHeldN => ?_)
      · exact HX7
      clear hHeld
      have hHeld := hHeldN
      clear hHeldN
      clear hK K
      try simp only [Act.put, List.setIfInBounds_toArray, List.set_cons_zero, List.set_cons_succ]
      refine wpAnyH_ready (rs := [7]) (by kernel_rfl) (by simp) ?_
      refine AllReadyH.cons (ho := by simp only [List.getElem?_toArray, List.getElem?_cons_succ, List.getElem?_cons_zero]; rfl) (fun K hK => ?_) (AllReadyH.nil)
      refine step_append_srcS rfl _ _ 39 rfl w2.heap.size 24 (.agg #[.int .i64 0, .int .i64 0]) 2 16 (by decide) Try.underlying39 infoIt rfl _ (rk + 1) _ (by simp [Act.eval, Act.put]) HO6.out (some ad) 0 0 [] (by simp [Act.eval, Act.put, HZ1.out, HZ.out]) rfl (fun i h => by cases h) (fun u h => by cases h) (by unfold maxLen; omega) (by omega) HD6.out.size ?_
      intro v7 w7 hown7 hg7 _
      have HD7 : Hid (Below w2.heap.size w2 w7) := Kit.hid (HD6.out.grown hg7 HD6.out.size (fun k hk => (HO6.out.lt k hk).1))
      have HX8 : Hid (w7.heap[w.heap.size]? = some (.cells #[.int .i64 x.key, .int .i64 x.id] 24 (0, 0))) := Kit.hid (blk_grown' HX7.out hg7 (fun e => by have := (HO6.out.lt _ e).1; have := HBX.out; omega))
      have HO7 := Kit.hid hown7
      clear hown7 hg7
      refine hK.out _ _ ?_ (fun hHeldN => ?_)
      · exact HX8
      clear hHeld
      have hHeld := hHeldN
      clear hHeldN
      clear hK K
      try simp only [Act.put, List.setIfInBounds_toArray, List.set_cons_zero, List.set_cons_succ]
      refine wpAnyH_take (i := 8) (hi := by simp only [List.getElem?_toArray, List.getElem?_cons_succ, List.getElem?_cons_zero]; rfl) (v := ?_) (by kernel_rfl) (by kernel_rfl) (by kernel_rfl) (fun _ _ _ h => h) (Or.inl ⟨by rfl, ?_⟩) (by assumption) ?_
      rotate_left
      · (intro w hSw; (try dsimp only at hSw); go_simp; first | done | with_reducible rfl)
      try simp only [Act.put, List.setIfInBounds_toArray, List.set_cons_zero, List.set_cons_succ]
      clear hHeld
      refine wpAnyH_done (by kernel_rfl) ?_ _
      refine NoPanic.normal ?_
      skip
      obtain ⟨A7, c7, rfl, _, _, _⟩ := own_readsS (by decide) HO7.out
      go_wp2
      go_ret
      exact HFIN.out _ _ _ HD7.out HO7.out
    · have hz1 : ¬ ca - rk = 0 := by omega
      have hz2 : ¬ 0 = ca - rk := by omega
      have hz3 : rk < ca := by omega
      have hz4 : ¬ ca ≤ rk := by omega
      clear hz
      go_wp2_with fail
      refine wp_region_noPanic ?_
      refine wp_region_held_drew (S := fun w' => Hid (w'.heap[w.heap.size]? = some (.cells #[.int .i64 x.key, .int .i64 x.id] 24 (0, 0)))) (by kernel_rfl) HX5 (fun hHeld => ?_)
      refine wpAnyH_take (i := 0) (hi := by simp only [List.getElem?_toArray, List.getElem?_cons_succ, List.getElem?_cons_zero]; rfl) (v := ?_) (by kernel_rfl) (by kernel_rfl) (by kernel_rfl) (fun _ _ _ h => h) (Or.inl ⟨by rfl, ?_⟩) (by assumption) ?_
      rotate_left
      · (intro w hSw; (try dsimp only at hSw); go_simp; first | done | with_reducible rfl)
      try simp only [Act.put, List.setIfInBounds_toArray, List.set_cons_zero, List.set_cons_succ]
      refine wpAnyH_take (i := 1) (hi := by simp only [List.getElem?_toArray, List.getElem?_cons_succ, List.getElem?_cons_zero]; rfl) (v := ?_) (by kernel_rfl) (by kernel_rfl) (by kernel_rfl) (fun _ _ _ h => h) (Or.inl ⟨by rfl, ?_⟩) (by assumption) ?_
      rotate_left
      · (intro w hSw; (try dsimp only at hSw); (have x0 := blk_cell hSw.out 0; have x1 := blk_cell hSw.out 1); go_simp; first | done | with_reducible rfl)
      try simp only [Act.put, List.setIfInBounds_toArray, List.set_cons_zero, List.set_cons_succ]
      refine wpAnyH_take (i := 4) (hi := by simp only [List.getElem?_toArray, List.getElem?_cons_succ, List.getElem?_cons_zero]; rfl) (v := ?_) (by kernel_rfl) (by kernel_rfl) (by kernel_rfl) (fun _ _ _ h => h) (Or.inl ⟨by rfl, ?_⟩) (by assumption) ?_
      rotate_left
      · (intro w hSw; (try dsimp only at hSw); go_simp; first | done | with_reducible rfl)
      try simp only [Act.put, List.setIfInBounds_toArray, List.set_cons_zero, List.set_cons_succ]
      refine wpAnyH_take (i := 5) (hi := by simp only [List.getElem?_toArray, List.getElem?_cons_succ, List.getElem?_cons_zero]; rfl) (v := ?_) (by kernel_rfl) (by kernel_rfl) (by kernel_rfl) (fun _ _ _ h => h) (Or.inl ⟨by rfl, ?_⟩) (by assumption) ?_
      rotate_left
      · (intro w hSw; (try dsimp only at hSw); go_simp; first | done | with_reducible rfl)
      try simp only [Act.put, List.setIfInBounds_toArray, List.set_cons_zero, List.set_cons_succ]
      refine wpAnyH_take (i := 6) (hi := by simp only [List.getElem?_toArray, List.getElem?_cons_succ, List.getElem?_cons_zero]; rfl) (v := ?_) (by kernel_rfl) (by kernel_rfl) (by kernel_rfl) (fun _ _ _ h => h) (Or.inl ⟨by rfl, ?_⟩) (by assumption) ?_
      rotate_left
      · (intro w hSw; (try dsimp only at hSw); go_simp; first | done | with_reducible rfl)
      try simp only [Act.put, List.setIfInBounds_toArray, List.set_cons_zero, List.set_cons_succ]
      refine wpAnyH_ready (rs := [2]) (by kernel_rfl) (by simp) ?_
      refine AllReadyH.cons (ho := by simp only [List.getElem?_toArray, List.getElem?_cons_succ, List.getElem?_cons_zero]; rfl) (fun K hK => ?_) (AllReadyH.nil)
      go_simp
      go_wp2_with fail
      refine hK.out _ _ ?_ (fun hHeldN => ?_)
      · exact HX6
      clear hHeld
      have hHeld := hHeldN
      clear hHeldN
      clear hK K
      try simp only [Act.put, List.setIfInBounds_toArray, List.set_cons_zero, List.set_cons_succ]
      refine wpAnyH_ready (rs := [3]) (by kernel_rfl) (by simp) ?_
      refine AllReadyH.cons (ho := by simp only [List.getElem?_toArray, List.getElem?_cons_succ, List.getElem?_cons_zero]; rfl) (fun K hK => ?_) (AllReadyH.nil)
      refine step_append_srcS rfl _ _ 39 rfl w2.heap.size 24 (.agg #[.int .i64 0, .int .i64 0]) 2 16 (by decide) Try.underlying39 infoIt rfl _ rk _ (by simp [Act.eval, Act.put]) HO5.out (some ⟨w5.heap.size, 0, none⟩) 1 1 [.int .i64 x.key, .int .i64 x.id] (by simp [Act.eval, Act.put]) rfl (litIt _ x) (flatI_one [x]) (by unfold maxLen; omega) (by omega) (by have := HD5.out.size; simp; omega) ?_
      intro v6 w6 hown6 hg6 _
      have HX7 : Hid (w6.heap[w.heap.size]? = some (.cells #[.int .i64 x.key, .int .i64 x.id] 24 (0, 0))) := Kit.hid (blk_grown' HX6.out hg6 (fun e => by have := (HO5.out.lt _ e).1; have := HBX.out; omega))
      have HD6 : Hid (Below w2.heap.size w2 w6) := Kit.hid (((HD5.out.drew).alloc HD5.out.size _).grown hg6 (by have := HD5.out.size; simp; omega) (fun k hk => (HO5.out.lt k hk).1))
      have HO6 := Kit.hid hown6
      clear hown6 hg6
      refine hK.out _ _ ?_ (fun hHeldN => ?_)
      · exact HX7
      clear hHeld
      have hHeld := hHeldN
      clear hHeldN
      clear hK K
      try simp only [Act.put, List.setIfInBounds_toArray, List.set_cons_zero, List.set_cons_succ]
      refine wpAnyH_ready (rs := [7]) (by kernel_rfl) (by simp) ?_
      refine AllReadyH.cons (ho := by simp only [List.getElem?_toArray, List.getElem?_cons_succ, List.getElem?_cons_zero]; rfl) (fun K hK => ?_) (AllReadyH.nil)
      refine step_append_srcS rfl _ _ 39 rfl w2.heap.size 24 (.agg #[.int .i64 0, .int .i64 0]) 2 16 (by decide) Try.underlying39 infoIt rfl _ (rk + 1) _ (by simp [Act.eval, Act.put]) HO6.out (some (ad.add (rk * 2))) (l.length - rk) (ca - rk) (flatI (l.drop rk)) (by simp [Act.eval, Act.put]) (by rw [flatI_len, List.length_drop]) (cells_itrow (itrow_drop rk (itrow_below HA2 HD6.out))) (flatI_one _) (by unfold maxLen; omega) (by omega) HD6.out.size ?_
      intro v7 w7 hown7 hg7 _
      have HD7 : Hid (Below w2.heap.size w2 w7) := Kit.hid (HD6.out.grown hg7 HD6.out.size (fun k hk => (HO6.out.lt k hk).1))
      have HX8 : Hid (w7.heap[w.heap.size]? = some (.cells #[.int .i64 x.key, .int .i64 x.id] 24 (0, 0))) := Kit.hid (blk_grown' HX7.out hg7 (fun e => by have := (HO6.out.lt _ e).1; have := HBX.out; omega))
      have HO7 := Kit.hid hown7
      clear hown7 hg7
      refine hK.out _ _ ?_ (fun hHeldN => ?_)
      · exact HX8
      clear hHeld
      have hHeld := hHeldN
      clear hHeldN
      clear hK K
      try simp only [Act.put, List.setIfInBounds_toArray, List.set_cons_zero, List.set_cons_succ]
      refine wpAnyH_take (i := 8) (hi := by simp only [List.getElem?_toArray, List.getElem?_cons_succ, List.getElem?_cons_zero]; rfl) (v := ?_) (by kernel_rfl) (by kernel_rfl) (by kernel_rfl) (fun _ _ _ h => h) (Or.inl ⟨by rfl, ?_⟩) (by assumption) ?_
      rotate_left
      · (intro w hSw; (try dsimp only at hSw); go_simp; first | done | with_reducible rfl)
      try simp only [Act.put, List.setIfInBounds_toArray, List.set_cons_zero, List.set_cons_succ]
      clear hHeld
      refine wpAnyH_done (by kernel_rfl) ?_ _
      refine NoPanic.normal ?_
      skip
      obtain ⟨A7, c7, rfl, _, _, _⟩ := own_readsS (by decide) HO7.out
      go_wp2
      go_ret
      exact HFIN.out _ _ _ HD7.out HO7.out
end Go.Proofs.Ytgcmblklalcpgaa.Sh

/- The reference's Rank, At and Put, over rows of items in memory. -/
import Derived.Test.YtgcmblklalcpgaaShY
namespace Go.Proofs.Ytgcmblklalcpgaa.ShM
theorem rankL_take (x : It) (l : List It) (i : Nat) (y : It) (hy : l[i]? = some y) : rankL x (l.take (i + 1)) = rankL x (l.take i) + (if less y x = true then 1 else 0) := by
  obtain ⟨h1, rfl⟩ := List.getElem?_eq_some_iff.1 hy
  rw [List.take_succ_eq_append_getElem h1]
  unfold rankL
  rw [List.filter_append, List.length_append]
  cases h : less l[i] x <;> simp [h]
theorem rankL_le (x : It) (l : List It) : rankL x l ≤ l.length := List.length_filter_le _ _
theorem insL_rank (x : It) : ∀ l : List It, Rises l → x ∉ l → insL x l = l.take (rankL x l) ++ x :: l.drop (rankL x l)
  | [], _, _ => rfl
  | y :: l, hr, hx => by
    obtain ⟨h1, h2⟩ := List.pairwise_cons.1 hr
    have hne : y ≠ x := fun e => hx (by rw [e]; simp)
    cases hl : less y x
    · have h0 : rankL x (y :: l) = 0 := by
        unfold rankL
        rw [List.filter_cons_of_neg (by rw [hl]; decide), filter_none (fun a ha => by
          cases hq : less a x
          · rfl
          · have := less_trans (h1 a ha) hq
            rw [hl] at this; cases this)]
        rfl
      have hxy : less x y = true := by
        simp only [less, Bool.or_eq_false_iff, decide_eq_false_iff_not, Bool.and_eq_false_iff] at hl
        simp only [less, Bool.or_eq_true, decide_eq_true_eq, Bool.and_eq_true]
        have : y.key ≠ x.key ∨ y.id ≠ x.id := by
          by_cases e : y.key = x.key
          · right; intro e2; apply hne; cases y; cases x; simp_all
          · exact .inl e
        omega
      rw [h0]
      simp [insL, hxy]
    · have hs : rankL x (y :: l) = rankL x l + 1 := by
        unfold rankL
        rw [List.filter_cons_of_pos (p := fun y => less y x) hl]
        rfl
      have hxy : less x y = false := by
        cases h : less x y
        · rfl
        · have := less_trans h hl
          simp [less] at this
      rw [hs]
      simp only [insL, hxy, List.take_succ_cons, List.drop_succ_cons, List.cons_append]
      rw [insL_rank x l h2 (fun h => hx (List.mem_cons_of_mem _ h))]
      rfl
end Go.Proofs.Ytgcmblklalcpgaa.ShM
namespace Go.Proofs.Ytgcmblklalcpgaa.Sh
open Go.RowKit Go.Proofs.Ytgcmblklalcpgaa.Kit Go.Proofs.Ytgcmblklalcpgaa.ShM
set_option linter.unusedVariables false
set_option linter.unusedSimpArgs false
set_option maxHeartbeats 800000 in
theorem rrank_any (A : Option Addr) (l : List It) (ca : Nat) (x : It) (w : World) (ha : Hid (ItRow w A l)) (h1 : l.length ≤ 1000000) :
    Calls Try.prog 28 #[.slice A l.length ca, .agg #[.int .i64 x.key, .int .i64 x.id]] w fun e w' => e = .returned (.int .i64 (rankL x l : Int)) ∧ Below w.heap.size w w' := by
  have HLS : Hid (∀ (y : It) w', Calls Try.prog 15 #[.agg #[.int .i64 y.key, .int .i64 y.id], .agg #[.int .i64 x.key, .int .i64 x.id]] w' fun e w'' => e = .returned (.bool (less y x)) ∧ Below w'.heap.size w' w'') := Kit.hid (fun y w' => rless_any y x w')
  go_enter Try.func28, Try.ntmps28
  go_wp2
  have hb0 : Below w.heap.size w (w.alloc (.cells #[.int .i64 x.key, .int .i64 x.id] 24)) := (Below.refl _ w).alloc (Nat.le_refl _) _
  go_loopw [5, 6] (fun v5 v6 wr => ∃ i r : Nat, i ≤ l.length ∧ v6 = .int .i64 i ∧ v5 = .int .i64 r ∧ r ≤ i ∧ Hid (r = rankL x (l.take i)) ∧ Hid (Below w.heap.size w wr) ∧ Hid (wr.heap[w.heap.size]? = some (.cells #[.int .i64 x.key, .int .i64 x.id] 24 (0, 0)))) (fun _ i _ => l.length - (intOf i).toNat)
  case atStart => exact ⟨0, 0, by omega, rfl, rfl, by omega, Kit.hid rfl, Kit.hid hb0, Kit.hid (World.alloc_heap_new w _)⟩
  case round =>
    obtain ⟨i, r, hi, rfl, rfl, hri, HO, HB, HX⟩ := hrel
    by_cases hlt : i < l.length
    · obtain ⟨y, hy⟩ : ∃ y, l[i]? = some y := ⟨_, List.getElem?_eq_getElem hlt⟩
      obtain ⟨ad, hA, c0, c1⟩ := it_at (itrow_below ha HB.out) hy
      have HS := Kit.hid (rankL_take x l i y hy)
      subst hA
      have d0 : wr.cell? ⟨w.heap.size, 0, none⟩ = some (.int .i64 x.key) := blk_at HX.out 0
      have d1 : wr.cell? ⟨w.heap.size, 1, none⟩ = some (.int .i64 x.id) := blk_at HX.out 1
      have lx := blk_lt HX.out
      obtain ⟨b, hb⟩ : ∃ b, b = less y x := ⟨_, rfl⟩
      have HL : Hid (∀ w', Calls Try.prog 15 #[.agg #[.int .i64 y.key, .int .i64 y.id], .agg #[.int .i64 x.key, .int .i64 x.id]] w' fun e w'' => e = .returned (.bool b) ∧ Below w'.heap.size w' w'') := Kit.hid (fun w' => by rw [hb]; exact HLS.out y w')
      have HO2 : Hid (r + (if b = true then 1 else 0) = rankL x (l.take (i + 1))) := Kit.hid (by rw [HS.out, ← HO.out, hb])
      have HC : Hid (∀ w', Below wr.heap.size wr w' → w'.cell? ⟨w.heap.size, 0, none⟩ = some (.int .i64 x.key) ∧ w'.cell? ⟨w.heap.size, 1, none⟩ = some (.int .i64 x.id) ∧ w'.cell? (ad.add (i * 2)) = some (.int .i64 y.key) ∧ w'.cell? ⟨(ad.add (i * 2)).block, (ad.add (i * 2)).off + 1, none⟩ = some (.int .i64 y.id)) := Kit.hid (fun w' hb =>
        ⟨(hb.cell (cell_lt d0)).trans d0, (hb.cell (cell_lt d1)).trans d1, (hb.cell (cell_lt c0)).trans c0, (hb.cell (cell_lt c1)).trans c1⟩)
      clear hy hb HS HLS
      go_wp2
      refine wp_region_noPanic ?_
      refine wp_region_held_drew (S := fun w' => Below wr.heap.size wr w') (by kernel_rfl) (Below.refl _ _).drew (fun hHeld => ?_)
      refine wpAnyH_take (i := 0) (hi := by simp only [List.getElem?_toArray, List.getElem?_cons_succ, List.getElem?_cons_zero]; rfl) (v := ?_) (by kernel_rfl) (by kernel_rfl) (by kernel_rfl) (fun _ _ _ h => h) (Or.inl ⟨by rfl, ?_⟩) (by assumption) ?_
      rotate_left
      · (intro w hSw; (try dsimp only at hSw); go_simp; first | done | with_reducible rfl)
      try simp only [Act.put, List.setIfInBounds_toArray, List.set_cons_zero, List.set_cons_succ]
      refine wpAnyH_take (i := 1) (hi := by simp only [List.getElem?_toArray, List.getElem?_cons_succ, List.getElem?_cons_zero]; rfl) (v := ?_) (by kernel_rfl) (by kernel_rfl) (by kernel_rfl) (fun _ _ _ h => h) (Or.inl ⟨by rfl, ?_⟩) (by assumption) ?_
      rotate_left
      · (intro w hSw; (try dsimp only at hSw); go_simp; first | done | with_reducible rfl)
      try simp only [Act.put, List.setIfInBounds_toArray, List.set_cons_zero, List.set_cons_succ]
      refine wpAnyH_take (i := 2) (hi := by simp only [List.getElem?_toArray, List.getElem?_cons_succ, List.getElem?_cons_zero]; rfl) (v := ?_) (by kernel_rfl) (by kernel_rfl) (by kernel_rfl) (fun _ _ _ h => h) (Or.inl ⟨by rfl, ?_⟩) (by assumption) ?_
      rotate_left
      · (intro w hSw; (try dsimp only at hSw); (obtain ⟨x0, x1, a0, a1⟩ := HC.out _ hSw); go_simp; first | done | with_reducible rfl)
      try simp only [Act.put, List.setIfInBounds_toArray, List.set_cons_zero, List.set_cons_succ]
      refine wpAnyH_take (i := 3) (hi := by simp only [List.getElem?_toArray, List.getElem?_cons_succ, List.getElem?_cons_zero]; rfl) (v := ?_) (by kernel_rfl) (by kernel_rfl) (by kernel_rfl) (fun _ _ _ h => h) (Or.inl ⟨by rfl, ?_⟩) (by assumption) ?_
      rotate_left
      · (intro w hSw; (try dsimp only at hSw); (obtain ⟨x0, x1, a0, a1⟩ := HC.out _ hSw); go_simp; first | done | with_reducible rfl)
      try simp only [Act.put, List.setIfInBounds_toArray, List.set_cons_zero, List.set_cons_succ]
      refine wpAnyH_take (i := 4) (hi := by simp only [List.getElem?_toArray, List.getElem?_cons_succ, List.getElem?_cons_zero]; rfl) (v := ?_) (by kernel_rfl) (by kernel_rfl) (by kernel_rfl) (fun _ _ _ h => h) (Or.inl ⟨by rfl, ?_⟩) (by assumption) ?_
      rotate_left
      · (intro w hSw; (try dsimp only at hSw); (obtain ⟨x0, x1, a0, a1⟩ := HC.out _ hSw); go_simp; first | done | with_reducible rfl)
      try simp only [Act.put, List.setIfInBounds_toArray, List.set_cons_zero, List.set_cons_succ]
      refine wpAnyH_ready (rs := [5]) (by kernel_rfl) (by simp) ?_
      refine AllReadyH.cons (ho := by simp only [List.getElem?_toArray, List.getElem?_cons_succ, List.getElem?_cons_zero]; rfl) (fun K hK => ?_) (AllReadyH.nil)
      go_simp
      go_at_call 15; (with_reducible refine (HL.out _).mono ?_); rintro e w5 ⟨rfl, hd5⟩
      have hb5 := Kit.hid (hHeld.trans (hd5.mono hHeld.size))
      go_wp2_with fail
      refine hK.out _ _ ?_ (fun hHeldN => ?_)
      · exact hb5.out
      clear hHeld
      have hHeld := hHeldN
      clear hHeldN
      clear hK K
      try simp only [Act.put, List.setIfInBounds_toArray, List.set_cons_zero, List.set_cons_succ]
      refine wpAnyH_take (i := 6) (hi := by simp only [List.getElem?_toArray, List.getElem?_cons_succ, List.getElem?_cons_zero]; rfl) (v := ?_) (by kernel_rfl) (by kernel_rfl) (by kernel_rfl) (fun _ _ _ h => h) (Or.inl ⟨by rfl, ?_⟩) (by assumption) ?_
      rotate_left
      · (intro w hSw; (try dsimp only at hSw); go_simp; first | done | with_reducible rfl)
      try simp only [Act.put, List.setIfInBounds_toArray, List.set_cons_zero, List.set_cons_succ]
      clear hHeld
      refine wpAnyH_done (by kernel_rfl) ?_ _
      refine NoPanic.normal ?_
      skip
      have HB5 := Kit.hid (HB.out.trans (hb5.out.mono HB.out.size))
      have HX5 := Kit.hid (blk_below HX.out hb5.out)
      clear HC hb5 c0 c1 d0 d1
      cases b
      · have HO3 : Hid (r = rankL x (l.take (i + 1))) := Kit.hid (by have := HO2.out; simpa using this)
        go_wp2
        go_roundw
        case rel => exact ⟨i + 1, r, by omega, by go_num, rfl, by omega, HO3, HB5, HX5⟩
        case measure => simp [intOf]; omega
      · have HO3 : Hid (r + 1 = rankL x (l.take (i + 1))) := Kit.hid (by have := HO2.out; simpa using this)
        go_wp2
        go_roundw
        case rel => exact ⟨i + 1, r + 1, by omega, by go_num, by go_num, by omega, HO3, HB5, HX5⟩
        case measure => simp [intOf]; omega
    · obtain rfl : i = l.length := by omega
      rw [List.take_length] at HO
      have HO2 : (rankL x l : Int) = (r : Int) := by rw [HO.out]
      go_wp2
      go_ret
      exact ⟨by rw [HO2]; rfl, HB.out⟩
theorem rat_ret {w wf : World} {rb : Nat} {x : It} {b : Bool} {a : Act} (hb : wf.heap[rb]? = some (.cells #[.int .i64 x.key, .int .i64 x.id] 24 (0, 0))) (ha : a.tmps.getD 4 undef = .pointer (some ⟨rb, 0, none⟩)) (h5 : a.tmps.getD 5 undef = .bool b) (hd : a.defers = []) (hbel : Below w.heap.size w wf) :
    bodyPost Try.prog Try.f26 (AtPost w x b) .ret a wf := by
  have ha' : a.tmps[4]?.getD undef = .pointer (some ⟨rb, 0, none⟩) := by simpa using ha
  refine bodyPost_ret (v := .tuple #[.agg #[.int .i64 x.key, .int .i64 x.id], .bool b]) ?_ hd ⟨rfl, hbel⟩
  rw [results_cell_tmp (fn := Try.f26) rfl]
  simp [ha', h5, asAddr, run_loadVar_row wf rb 24 24 #[.int .i64 x.key, .int .i64 x.id] (0, 0) _ hb Try.underlying24 rfl (by kernel_rfl)]
def atL (l : List It) (rank : Int) : It × Bool := if rank < 0 ∨ (l.length : Int) ≤ rank then (⟨0, 0⟩, false) else ((l[rank.toNat]?).getD ⟨0, 0⟩, true)
set_option maxHeartbeats 800000 in
theorem rat_any (A : Option Addr) (l : List It) (ca : Nat) (rank : Int) (w : World) (ha : Hid (ItRow w A l)) (h1 : l.length ≤ 1000000) :
    Calls Try.prog 26 #[.slice A l.length ca, .int .i64 rank] w (AtPost w (atL l rank).1 (atL l rank).2) := by
  have HB : Hid (∀ o, Below w.heap.size w (w.alloc o)) := Kit.hid (fun o => (Below.refl _ w).alloc (Nat.le_refl _) o)
  by_cases hn : rank < 0
  · have g1 : decide (rank < 0) = true := decide_eq_true hn
    have HE : Hid (atL l rank = (⟨0, 0⟩, false)) := Kit.hid (if_pos (.inl hn))
    rw [HE.out]
    clear hn
    go_enter Try.func26, Try.ntmps26
    go_wp2
    exact rat_ret (x := ⟨0, 0⟩) (blk_new _ _) rfl rfl rfl (HB.out _)
  have g1 : decide (rank < 0) = false := decide_eq_false hn
  by_cases hh : (l.length : Int) ≤ rank
  · have g2 : decide ((l.length : Int) ≤ rank) = true := decide_eq_true hh
    have HE : Hid (atL l rank = (⟨0, 0⟩, false)) := Kit.hid (if_pos (.inr hh))
    rw [HE.out]
    clear hn hh
    go_enter Try.func26, Try.ntmps26
    go_wp2
    exact rat_ret (x := ⟨0, 0⟩) (blk_new _ _) rfl rfl rfl (HB.out _)
  · obtain ⟨k, rfl⟩ := Int.eq_ofNat_of_zero_le (show 0 ≤ rank by omega)
    have hk : k < l.length := by omega
    obtain ⟨y, hy⟩ : ∃ y, l[k]? = some y := ⟨_, List.getElem?_eq_getElem hk⟩
    have HE : Hid (atL l (k : Int) = (y, true)) := Kit.hid (by unfold atL; rw [if_neg (by omega)]; simp [hy])
    rw [HE.out]
    obtain ⟨ad, hA, c0, c1⟩ := it_at ha hy
    subst hA
    have l0 := cell_lt c0
    have l1 := cell_lt c1
    clear hn hh hy
    go_enter Try.func26, Try.ntmps26
    go_wp2
    exact rat_ret (x := y) (blk_new _ _) rfl rfl rfl (HB.out _)
end Go.Proofs.Ytgcmblklalcpgaa.Sh

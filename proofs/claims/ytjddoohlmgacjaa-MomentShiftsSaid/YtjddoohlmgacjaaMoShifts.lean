/- The law MomentShifts. -/
import Derived.Test.YtjddoohlmgacjaaMoE
import Derived.Test.YtjddoohlmgacjaaMoMeans
namespace Go.Proofs.Ytjddoohlmgacjaa.Mo
open Go.RowKit Go.Proofs.Ytjddoohlmgacjaa.Kit Go.Proofs.Ytjddoohlmgacjaa.Flo Go.IntWalk
set_option linter.unusedVariables false
set_option linter.unusedSimpArgs false
theorem mul_le_abs {x y : Int} {m n : Nat} (hx : x.natAbs ≤ m) (hy : y.natAbs ≤ n) : x.natAbs * y.natAbs ≤ m * n := Nat.mul_le_mul hx hy
set_option maxHeartbeats 8000000 in
theorem shiftsLaw_any (n : Int) (A : Option Addr) (l : List One) (cap : Nat) (by_ at_ : Int) (w : World) (ho : Hid (Ones w A l)) (hwf : ∀ o ∈ l, o.Wf) (hy : -2147483648 ≤ by_ ∧ by_ ≤ 2147483647) (ht : -2147483648 ≤ at_ ∧ at_ ≤ 2147483647) :
    Calls Try.prog 7 #[.int .i64 n, .slice A l.length cap, .int .i32 by_, .int .i32 at_] w (ValPost w (.bool true)) := by
  have HAW := Kit.hid awake_any
  by_cases hl : 60 < l.length
  · have g1 : (60 : Int) < (l.length : Int) := by omega
    go_enter Try.func7, Try.ntmps7
    go_wp2_with (go_at_call 9; refine (HAW.out _).mono ?_; rintro e w1 ⟨rfl, hd1⟩)
    go_ret
    exact ⟨rfl, hd1⟩
  · have g1 : ¬ (60 : Int) < (l.length : Int) := by omega
    have HB := Kit.hid (based_any n)
    have hb := based_bd n
    obtain ⟨b, hb'⟩ : ∃ b, b = basedOf n := ⟨_, rfl⟩
    rw [← hb'] at HB hb
    clear hb'
    obtain ⟨W, hW⟩ : ∃ W, W = sumW l := ⟨_, rfl⟩
    obtain ⟨P, hP⟩ : ∃ P, P = sumP l := ⟨_, rfl⟩
    have hbd := sum_bd l
    rw [← hW, ← hP] at hbd
    have hbs : 0 ≤ W ∧ W ≤ 62914560 ∧ -65970697666560 ≤ P ∧ P ≤ 65970697666560 := by omega
    clear hbd
    have HS : Hid (∀ w', Hid (Ones w' A l) → Calls Try.prog 11 #[.int .i64 b, .slice A l.length cap] w' (ValPost w' (mo b W P))) :=
      Kit.hid (fun w' h => by rw [hW, hP]; exact summed_any b A l cap w' h hwf (by omega) (by omega))
    obtain ⟨d, hd⟩ : ∃ d, d = by_.tmod 500000 := ⟨_, rfl⟩
    obtain ⟨a, ha⟩ : ∃ a, a = at_.tmod 500000 := ⟨_, rfl⟩
    have db := tmod_bd by_ 500000 (by decide)
    have ab := tmod_bd at_ 500000 (by decide)
    rw [← hd] at db
    rw [← ha] at ab
    have e1 := hd.symm
    have e2 := ha.symm
    have hdW : d.natAbs * W.natAbs ≤ 500000 * 62914560 := mul_le_abs (by omega) (by omega)
    have hdW1 : -31457280000000 ≤ d * W ∧ d * W ≤ 31457280000000 := by rw [← Int.natAbs_mul] at hdW; omega
    obtain ⟨P2, hP2⟩ : ∃ P2, P2 = P + -d * W := ⟨_, rfl⟩
    have hP2b : P2 = P - d * W := by rw [hP2, Int.neg_mul]; omega
    have hWG1 := gap_small (W := W) (d := a) hbs.1 (by omega) (by omega) (by omega)
    have hWG2 := gap_small (W := W) (d := d + a) hbs.1 (by omega) (by omega) (by omega)
    have HSH : Hid (∀ w', Calls Try.prog 24 #[mo b W P, .int .i64 (b + d)] w' (ValPost w' (mo (b + d) W P2))) :=
      Kit.hid (fun w' => by rw [hP2]; exact shift_any b W P (b + d) (-d) w' (by omega) (by omega) (by omega) (by omega) (by rw [Int.natAbs_neg]; omega) (by rw [← hP2]; omega))
    have HSB : Hid (∀ w', Calls Try.prog 24 #[mo (b + d) W P2, .int .i64 b] w' (ValPost w' (mo b W P))) :=
      Kit.hid (fun w' => by rw [show P = P2 + d * W by omega]; exact shift_any (b + d) W P2 b d w' (by omega) (by omega) (by omega) (by omega) (by omega) (by omega))
    have HWM := Kit.hid (fun w' => weight_any b W (fi P) w' (by omega))
    have HWS := Kit.hid (fun w' => weight_any (b + d) W (fi P2) w' (by omega))
    have HMM := Kit.hid (fun w' => mean_any b W P w' (by omega) (by omega) (by omega))
    have HMS := Kit.hid (fun w' => mean_any (b + d) W P2 w' (by omega) (by omega) (by omega))
    have hx : P - W * (d + a) = P2 - W * a := by rw [Int.mul_add, Int.mul_comm W d]; omega
    have HGM := Kit.hid (fun w' => gap_any b W P (b + d + a) (d + a) w' (by omega) (by omega) (by omega) (by omega) hWG2)
    have HGS := Kit.hid (fun w' => gap_any (b + d) W P2 (b + d + a) a w' (by omega) (by omega) (by omega) (by omega) hWG1)
    rw [hx] at HGM
    obtain ⟨x, hx'⟩ : ∃ x, x = P2 - W * a := ⟨_, rfl⟩
    rw [← hx'] at HGM HGS
    have HEQ := Kit.hid (fun w' => mo_eql b W P (by omega) (by omega) w')
    have hmm : 0 < W → meanOf (b + d) W P2 = meanOf b W P := by
      intro h
      unfold meanOf
      rw [if_neg (by omega), if_neg (by omega), hP2, Int.add_mul_ediv_right _ _ (by omega)]
      omega
    have hst := store_complex
    have r1 : IntKind.i64.wrap (b + d) = b + d := i64_in _ (by omega)
    have r2 : wrap64 (b + d) = b + d := by unfold wrap64; omega
    have r3 : IntKind.i64.wrap (b + d + a) = b + d + a := i64_in _ (by omega)
    have r4 : wrap64 (b + d + a) = b + d + a := by unfold wrap64; omega
    have W0 := hbs.1
    have HMME := Kit.hid hmm
    clear hwf hbs hW hP hdW hdW1 hP2b hP2 hWG1 hWG2 hx hx' hmm hb hd ha
    unfold mo at HS HSH HSB HMM HMS HGM HGS HEQ
    go_enter Try.func7, Try.ntmps7
    go_wp2_with (first
      | (go_at_call 9; refine (HAW.out _).mono ?_; rintro e w1 ⟨rfl, hd1⟩; have hb1 := Kit.hid hd1)
      | (go_at_call 10; refine (HB.out _).mono ?_; rintro e w9 ⟨rfl, rfl⟩)
      | (go_at_call 11; refine (HS.out _ (ones_below ho hb1.out)).mono ?_; rintro e w2 ⟨rfl, hd2⟩; have hb2 := hid_below hb1 hd2; have HM2 := Kit.hid (blk_new w2 (.cells #[.int .i64 b, .complex .f64 (fi W) (fi P)] 27)); obtain ⟨c0, c1, _, _, _, _⟩ := own_block HM2.out (.int .i64 b))
      | (go_at_call 24; refine (HSH.out _).mono ?_; rintro e w3 ⟨rfl, hd3⟩))
    have HM3 := Kit.hid (blk_alloc (blk_below HM2.out hd3) (.cells #[.int .i64 (b + d), .complex .f64 (fi W) (fi P2)] 27))
    have HS3 := Kit.hid (blk_new w3 (.cells #[.int .i64 (b + d), .complex .f64 (fi W) (fi P2)] 27))
    have hb3 : Hid (Below w.heap.size w (w3.alloc (.cells #[.int .i64 (b + d), .complex .f64 (fi W) (fi P2)] 27))) :=
      Kit.hid (((hb2.out.alloc hb2.out.size _).trans (hd3.mono (by have := hb2.out.size; simp; omega))).alloc (by have h1 := hb2.out.size; have h2 := hd3.size; simp at h2; omega) _)
    obtain ⟨g, hg⟩ : ∃ g, g = w2.heap.size := ⟨_, rfl⟩
    obtain ⟨gs, hgs⟩ : ∃ g, g = w3.heap.size := ⟨_, rfl⟩
    rw [← hg] at HM3 ⊢
    rw [← hgs] at HS3 ⊢
    obtain ⟨wq, hwq⟩ : ∃ wq, wq = w3.alloc (.cells #[.int .i64 (b + d), .complex .f64 (fi W) (fi P2)] 27) := ⟨_, rfl⟩
    rw [← hwq] at HM3 HS3 hb3 ⊢
    clear hwq hgs hg HM2 c0 c1
    obtain ⟨c0, c1, _, _, _, _⟩ := own_block HM3.out (.int .i64 b)
    obtain ⟨s0, s1, _, _, _, _⟩ := own_block HS3.out (.int .i64 b)
    by_cases hW0 : W = 0
    · subst hW0
      have heq := HEQ.out
      clear HMM HMS HMME
      refine wp_region_noPanic ?_
      refine wp_region_held_drew (S := fun w' => w'.cell? ⟨g, 0, none⟩ = some (.int .i64 b) ∧ w'.cell? ⟨g, 1, none⟩ = some (.complex .f64 (fi 0) (fi P)) ∧ w'.cell? ⟨gs, 0, none⟩ = some (.int .i64 (b + d)) ∧ w'.cell? ⟨gs, 1, none⟩ = some (.complex .f64 (fi 0) (fi P2)) ∧ Hid (Below w.heap.size w w')) (by kernel_rfl) ⟨c0, c1, s0, s1, Kit.hid hb3.out.drew⟩ (fun hHeld => ?_)
      refine wpAnyH_take (i := 0) (hi := by simp only [List.getElem?_toArray, List.getElem?_cons_succ, List.getElem?_cons_zero]; rfl) (v := ?_) (by kernel_rfl) (by kernel_rfl) (by kernel_rfl) (fun _ _ _ h => h) (Or.inl ⟨by rfl, ?_⟩) (by assumption) ?_
      rotate_left
      · (intro w hSw; (try dsimp only at hSw); go_simp; first | done | with_reducible rfl)
      try simp only [Act.put, List.setIfInBounds_toArray, List.set_cons_zero, List.set_cons_succ]
      refine wpAnyH_take (i := 1) (hi := by simp only [List.getElem?_toArray, List.getElem?_cons_succ, List.getElem?_cons_zero]; rfl) (v := ?_) (by kernel_rfl) (by kernel_rfl) (by kernel_rfl) (fun _ _ _ h => h) (Or.inl ⟨by rfl, ?_⟩) (by assumption) ?_
      rotate_left
      · (intro w hSw; (try dsimp only at hSw); go_simp; first | done | with_reducible rfl)
      try simp only [Act.put, List.setIfInBounds_toArray, List.set_cons_zero, List.set_cons_succ]
      refine wpAnyH_take (i := 2) (hi := by simp only [List.getElem?_toArray, List.getElem?_cons_succ, List.getElem?_cons_zero]; rfl) (v := ?_) (by kernel_rfl) (by kernel_rfl) (by kernel_rfl) (fun _ _ _ h => h) (Or.inl ⟨by rfl, ?_⟩) (by assumption) ?_
      rotate_left
      · (intro w hSw; (try dsimp only at hSw); go_simp; first | done | with_reducible rfl)
      try simp only [Act.put, List.setIfInBounds_toArray, List.set_cons_zero, List.set_cons_succ]
      refine wpAnyH_take (i := 4) (hi := by simp only [List.getElem?_toArray, List.getElem?_cons_succ, List.getElem?_cons_zero]; rfl) (v := ?_) (by kernel_rfl) (by kernel_rfl) (by kernel_rfl) (fun _ _ _ h => h) (Or.inl ⟨by rfl, ?_⟩) (by assumption) ?_
      rotate_left
      · (intro w hSw; (try dsimp only at hSw); go_simp; first | done | with_reducible rfl)
      try simp only [Act.put, List.setIfInBounds_toArray, List.set_cons_zero, List.set_cons_succ]
      refine wpAnyH_ready (rs := [3]) (by kernel_rfl) (by simp) ?_
      refine AllReadyH.cons (ho := by simp only [List.getElem?_toArray, List.getElem?_cons_succ, List.getElem?_cons_zero]; rfl) (fun K hK => ?_) AllReadyH.nil
      go_simp
      first
        | (go_at_call 14; (with_reducible refine (HWM.out _).mono ?_); rintro e w2 ⟨rfl, hd2⟩)
        | (go_at_call 14; (with_reducible refine (HWS.out _).mono ?_); rintro e w2 ⟨rfl, hd2⟩)
        | (go_at_call 16; (with_reducible refine (HGM.out _).mono ?_); rintro e w2 ⟨rfl, hd2⟩)
        | (go_at_call 16; (with_reducible refine (HGS.out _).mono ?_); rintro e w2 ⟨rfl, hd2⟩)
        | (go_at_call 24; refine (HSB.out _).mono ?_; rintro e w2 ⟨rfl, hd2⟩)
      go_wp2_with fail
      refine hK.out _ _ ?_ (fun hHeld => ?_)
      · ((try dsimp only); go_split_ands; exact ⟨(hd2.cell (cell_lt (by assumption))).trans (by assumption), (hd2.cell (cell_lt (by assumption))).trans (by assumption), (hd2.cell (cell_lt (by assumption))).trans (by assumption), (hd2.cell (cell_lt (by assumption))).trans (by assumption), hid_below (by assumption) hd2⟩)
      clear hK K
      try simp only [Act.put, List.setIfInBounds_toArray, List.set_cons_zero, List.set_cons_succ]
      refine wpAnyH_ready (rs := [5]) (by kernel_rfl) (by simp) ?_
      refine AllReadyH.cons (ho := by simp only [List.getElem?_toArray, List.getElem?_cons_succ, List.getElem?_cons_zero]; rfl) (fun K hK => ?_) AllReadyH.nil
      go_simp
      first
        | (go_at_call 14; (with_reducible refine (HWM.out _).mono ?_); rintro e w2 ⟨rfl, hd2⟩)
        | (go_at_call 14; (with_reducible refine (HWS.out _).mono ?_); rintro e w2 ⟨rfl, hd2⟩)
        | (go_at_call 16; (with_reducible refine (HGM.out _).mono ?_); rintro e w2 ⟨rfl, hd2⟩)
        | (go_at_call 16; (with_reducible refine (HGS.out _).mono ?_); rintro e w2 ⟨rfl, hd2⟩)
        | (go_at_call 24; refine (HSB.out _).mono ?_; rintro e w2 ⟨rfl, hd2⟩)
      go_wp2_with fail
      refine hK.out _ _ ?_ (fun hHeld => ?_)
      · ((try dsimp only); go_split_ands; exact ⟨(hd2.cell (cell_lt (by assumption))).trans (by assumption), (hd2.cell (cell_lt (by assumption))).trans (by assumption), (hd2.cell (cell_lt (by assumption))).trans (by assumption), (hd2.cell (cell_lt (by assumption))).trans (by assumption), hid_below (by assumption) hd2⟩)
      clear hK K
      try simp only [Act.put, List.setIfInBounds_toArray, List.set_cons_zero, List.set_cons_succ]
      refine wpAnyH_take (i := 6) (hi := by simp only [List.getElem?_toArray, List.getElem?_cons_succ, List.getElem?_cons_zero]; rfl) (v := ?_) (by kernel_rfl) (by kernel_rfl) (by kernel_rfl) (fun _ _ _ h => h) (Or.inl ⟨by rfl, ?_⟩) (by assumption) ?_
      rotate_left
      · (intro w hSw; (try dsimp only at hSw); go_simp; first | done | with_reducible rfl)
      try simp only [Act.put, List.setIfInBounds_toArray, List.set_cons_zero, List.set_cons_succ]
      refine wpAnyH_take (i := 7) (hi := by simp only [List.getElem?_toArray, List.getElem?_cons_succ, List.getElem?_cons_zero]; rfl) (v := ?_) (by kernel_rfl) (by kernel_rfl) (by kernel_rfl) (fun _ _ _ h => h) (Or.inl ⟨by rfl, ?_⟩) (by assumption) ?_
      rotate_left
      · (intro w hSw; (try dsimp only at hSw); go_simp; first | done | with_reducible rfl)
      try simp only [Act.put, List.setIfInBounds_toArray, List.set_cons_zero, List.set_cons_succ]
      refine wpAnyH_take (i := 8) (hi := by simp only [List.getElem?_toArray, List.getElem?_cons_succ, List.getElem?_cons_zero]; rfl) (v := ?_) (by kernel_rfl) (by kernel_rfl) (by kernel_rfl) (fun _ _ _ h => h) (Or.inl ⟨by rfl, ?_⟩) (by assumption) ?_
      rotate_left
      · (intro w hSw; (try dsimp only at hSw); go_simp; first | done | with_reducible rfl)
      try simp only [Act.put, List.setIfInBounds_toArray, List.set_cons_zero, List.set_cons_succ]
      refine wpAnyH_take (i := 9) (hi := by simp only [List.getElem?_toArray, List.getElem?_cons_succ, List.getElem?_cons_zero]; rfl) (v := ?_) (by kernel_rfl) (by kernel_rfl) (by kernel_rfl) (fun _ _ _ h => h) (Or.inl ⟨by rfl, ?_⟩) (by assumption) ?_
      rotate_left
      · (intro w hSw; (try dsimp only at hSw); go_simp; first | done | with_reducible rfl)
      try simp only [Act.put, List.setIfInBounds_toArray, List.set_cons_zero, List.set_cons_succ]
      refine wpAnyH_take (i := 10) (hi := by simp only [List.getElem?_toArray, List.getElem?_cons_succ, List.getElem?_cons_zero]; rfl) (v := ?_) (by kernel_rfl) (by kernel_rfl) (by kernel_rfl) (fun _ _ _ h => h) (Or.inl ⟨by rfl, ?_⟩) (by assumption) ?_
      rotate_left
      · (intro w hSw; (try dsimp only at hSw); go_simp; first | done | with_reducible rfl)
      try simp only [Act.put, List.setIfInBounds_toArray, List.set_cons_zero, List.set_cons_succ]
      refine wpAnyH_take (i := 12) (hi := by simp only [List.getElem?_toArray, List.getElem?_cons_succ, List.getElem?_cons_zero]; rfl) (v := ?_) (by kernel_rfl) (by kernel_rfl) (by kernel_rfl) (fun _ _ _ h => h) (Or.inl ⟨by rfl, ?_⟩) (by assumption) ?_
      rotate_left
      · (intro w hSw; (try dsimp only at hSw); go_simp; first | done | with_reducible rfl)
      try simp only [Act.put, List.setIfInBounds_toArray, List.set_cons_zero, List.set_cons_succ]
      refine wpAnyH_take (i := 13) (hi := by simp only [List.getElem?_toArray, List.getElem?_cons_succ, List.getElem?_cons_zero]; rfl) (v := ?_) (by kernel_rfl) (by kernel_rfl) (by kernel_rfl) (fun _ _ _ h => h) (Or.inl ⟨by rfl, ?_⟩) (by assumption) ?_
      rotate_left
      · (intro w hSw; (try dsimp only at hSw); go_simp; first | done | with_reducible rfl)
      try simp only [Act.put, List.setIfInBounds_toArray, List.set_cons_zero, List.set_cons_succ]
      refine wpAnyH_ready (rs := [11]) (by kernel_rfl) (by simp) ?_
      refine AllReadyH.cons (ho := by simp only [List.getElem?_toArray, List.getElem?_cons_succ, List.getElem?_cons_zero]; rfl) (fun K hK => ?_) AllReadyH.nil
      go_simp
      first
        | (go_at_call 14; (with_reducible refine (HWM.out _).mono ?_); rintro e w2 ⟨rfl, hd2⟩)
        | (go_at_call 14; (with_reducible refine (HWS.out _).mono ?_); rintro e w2 ⟨rfl, hd2⟩)
        | (go_at_call 16; (with_reducible refine (HGM.out _).mono ?_); rintro e w2 ⟨rfl, hd2⟩)
        | (go_at_call 16; (with_reducible refine (HGS.out _).mono ?_); rintro e w2 ⟨rfl, hd2⟩)
        | (go_at_call 24; refine (HSB.out _).mono ?_; rintro e w2 ⟨rfl, hd2⟩)
      go_wp2_with fail
      refine hK.out _ _ ?_ (fun hHeld => ?_)
      · ((try dsimp only); go_split_ands; exact ⟨(hd2.cell (cell_lt (by assumption))).trans (by assumption), (hd2.cell (cell_lt (by assumption))).trans (by assumption), (hd2.cell (cell_lt (by assumption))).trans (by assumption), (hd2.cell (cell_lt (by assumption))).trans (by assumption), hid_below (by assumption) hd2⟩)
      clear hK K
      try simp only [Act.put, List.setIfInBounds_toArray, List.set_cons_zero, List.set_cons_succ]
      refine wpAnyH_ready (rs := [14]) (by kernel_rfl) (by simp) ?_
      refine AllReadyH.cons (ho := by simp only [List.getElem?_toArray, List.getElem?_cons_succ, List.getElem?_cons_zero]; rfl) (fun K hK => ?_) AllReadyH.nil
      go_simp
      first
        | (go_at_call 14; (with_reducible refine (HWM.out _).mono ?_); rintro e w2 ⟨rfl, hd2⟩)
        | (go_at_call 14; (with_reducible refine (HWS.out _).mono ?_); rintro e w2 ⟨rfl, hd2⟩)
        | (go_at_call 16; (with_reducible refine (HGM.out _).mono ?_); rintro e w2 ⟨rfl, hd2⟩)
        | (go_at_call 16; (with_reducible refine (HGS.out _).mono ?_); rintro e w2 ⟨rfl, hd2⟩)
        | (go_at_call 24; refine (HSB.out _).mono ?_; rintro e w2 ⟨rfl, hd2⟩)
      go_wp2_with fail
      refine hK.out _ _ ?_ (fun hHeld => ?_)
      · ((try dsimp only); go_split_ands; exact ⟨(hd2.cell (cell_lt (by assumption))).trans (by assumption), (hd2.cell (cell_lt (by assumption))).trans (by assumption), (hd2.cell (cell_lt (by assumption))).trans (by assumption), (hd2.cell (cell_lt (by assumption))).trans (by assumption), hid_below (by assumption) hd2⟩)
      clear hK K
      try simp only [Act.put, List.setIfInBounds_toArray, List.set_cons_zero, List.set_cons_succ]
      refine wpAnyH_take (i := 15) (hi := by simp only [List.getElem?_toArray, List.getElem?_cons_succ, List.getElem?_cons_zero]; rfl) (v := ?_) (by kernel_rfl) (by kernel_rfl) (by kernel_rfl) (fun _ _ _ h => h) (Or.inl ⟨by rfl, ?_⟩) (by assumption) ?_
      rotate_left
      · (intro w hSw; (try dsimp only at hSw); go_simp; first | done | with_reducible rfl)
      try simp only [Act.put, List.setIfInBounds_toArray, List.set_cons_zero, List.set_cons_succ]
      refine wpAnyH_take (i := 16) (hi := by simp only [List.getElem?_toArray, List.getElem?_cons_succ, List.getElem?_cons_zero]; rfl) (v := ?_) (by kernel_rfl) (by kernel_rfl) (by kernel_rfl) (fun _ _ _ h => h) (Or.inl ⟨by rfl, ?_⟩) (by assumption) ?_
      rotate_left
      · (intro w hSw; (try dsimp only at hSw); go_simp; first | done | with_reducible rfl)
      try simp only [Act.put, List.setIfInBounds_toArray, List.set_cons_zero, List.set_cons_succ]
      refine wpAnyH_take (i := 17) (hi := by simp only [List.getElem?_toArray, List.getElem?_cons_succ, List.getElem?_cons_zero]; rfl) (v := ?_) (by kernel_rfl) (by kernel_rfl) (by kernel_rfl) (fun _ _ _ h => h) (Or.inl ⟨by rfl, ?_⟩) (by assumption) ?_
      rotate_left
      · (intro w hSw; (try dsimp only at hSw); go_simp; first | done | with_reducible rfl)
      try simp only [Act.put, List.setIfInBounds_toArray, List.set_cons_zero, List.set_cons_succ]
      refine wpAnyH_take (i := 18) (hi := by simp only [List.getElem?_toArray, List.getElem?_cons_succ, List.getElem?_cons_zero]; rfl) (v := ?_) (by kernel_rfl) (by kernel_rfl) (by kernel_rfl) (fun _ _ _ h => h) (Or.inl ⟨by rfl, ?_⟩) (by assumption) ?_
      rotate_left
      · (intro w hSw; (try dsimp only at hSw); go_simp; first | done | with_reducible rfl)
      try simp only [Act.put, List.setIfInBounds_toArray, List.set_cons_zero, List.set_cons_succ]
      refine wpAnyH_ready (rs := [19]) (by kernel_rfl) (by simp) ?_
      refine AllReadyH.cons (ho := by simp only [List.getElem?_toArray, List.getElem?_cons_succ, List.getElem?_cons_zero]; rfl) (fun K hK => ?_) AllReadyH.nil
      go_simp
      first
        | (go_at_call 14; (with_reducible refine (HWM.out _).mono ?_); rintro e w2 ⟨rfl, hd2⟩)
        | (go_at_call 14; (with_reducible refine (HWS.out _).mono ?_); rintro e w2 ⟨rfl, hd2⟩)
        | (go_at_call 16; (with_reducible refine (HGM.out _).mono ?_); rintro e w2 ⟨rfl, hd2⟩)
        | (go_at_call 16; (with_reducible refine (HGS.out _).mono ?_); rintro e w2 ⟨rfl, hd2⟩)
        | (go_at_call 24; refine (HSB.out _).mono ?_; rintro e w2 ⟨rfl, hd2⟩)
      go_wp2_with fail
      refine hK.out _ _ ?_ (fun hHeld => ?_)
      · ((try dsimp only); go_split_ands; exact ⟨(hd2.cell (cell_lt (by assumption))).trans (by assumption), (hd2.cell (cell_lt (by assumption))).trans (by assumption), (hd2.cell (cell_lt (by assumption))).trans (by assumption), (hd2.cell (cell_lt (by assumption))).trans (by assumption), hid_below (by assumption) hd2⟩)
      clear hK K
      try simp only [Act.put, List.setIfInBounds_toArray, List.set_cons_zero, List.set_cons_succ]
      refine wpAnyH_take (i := 20) (hi := by simp only [List.getElem?_toArray, List.getElem?_cons_succ, List.getElem?_cons_zero]; rfl) (v := ?_) (by kernel_rfl) (by kernel_rfl) (by kernel_rfl) (fun _ _ _ h => h) (Or.inl ⟨by rfl, ?_⟩) (by assumption) ?_
      rotate_left
      · (intro w hSw; (try dsimp only at hSw); go_simp; first | done | with_reducible rfl)
      try simp only [Act.put, List.setIfInBounds_toArray, List.set_cons_zero, List.set_cons_succ]
      refine wpAnyH_take (i := 21) (hi := by simp only [List.getElem?_toArray, List.getElem?_cons_succ, List.getElem?_cons_zero]; rfl) (v := ?_) (by kernel_rfl) (by kernel_rfl) (by kernel_rfl) (fun _ _ _ h => h) (Or.inl ⟨by rfl, ?_⟩) (by assumption) ?_
      rotate_left
      · (intro w hSw; (try dsimp only at hSw); go_simp; first | done | with_reducible rfl)
      try simp only [Act.put, List.setIfInBounds_toArray, List.set_cons_zero, List.set_cons_succ]
      refine wpAnyH_take (i := 22) (hi := by simp only [List.getElem?_toArray, List.getElem?_cons_succ, List.getElem?_cons_zero]; rfl) (v := undef) (by kernel_rfl) (by kernel_rfl) (by kernel_rfl) (fun _ _ _ h => h) (Or.inr ⟨by rfl, rfl⟩) (by assumption) ?_
      try simp only [Act.put, List.setIfInBounds_toArray, List.set_cons_zero, List.set_cons_succ]
      refine wpAnyH_take (i := 23) (hi := by simp only [List.getElem?_toArray, List.getElem?_cons_succ, List.getElem?_cons_zero]; rfl) (v := undef) (by kernel_rfl) (by kernel_rfl) (by kernel_rfl) (fun _ _ _ h => h) (Or.inr ⟨by rfl, rfl⟩) (by assumption) ?_
      try simp only [Act.put, List.setIfInBounds_toArray, List.set_cons_zero, List.set_cons_succ]
      refine wpAnyH_take (i := 24) (hi := by simp only [List.getElem?_toArray, List.getElem?_cons_succ, List.getElem?_cons_zero]; rfl) (v := undef) (by kernel_rfl) (by kernel_rfl) (by kernel_rfl) (fun _ _ _ h => h) (Or.inr ⟨by rfl, rfl⟩) (by assumption) ?_
      try simp only [Act.put, List.setIfInBounds_toArray, List.set_cons_zero, List.set_cons_succ]
      refine wpAnyH_take (i := 25) (hi := by simp only [List.getElem?_toArray, List.getElem?_cons_succ, List.getElem?_cons_zero]; rfl) (v := undef) (by kernel_rfl) (by kernel_rfl) (by kernel_rfl) (fun _ _ _ h => h) (Or.inr ⟨by rfl, rfl⟩) (by assumption) ?_
      try simp only [Act.put, List.setIfInBounds_toArray, List.set_cons_zero, List.set_cons_succ]
      refine wpAnyH_take (i := 26) (hi := by simp only [List.getElem?_toArray, List.getElem?_cons_succ, List.getElem?_cons_zero]; rfl) (v := undef) (by kernel_rfl) (by kernel_rfl) (by kernel_rfl) (fun _ _ _ h => h) (Or.inr ⟨by rfl, rfl⟩) (by assumption) ?_
      try simp only [Act.put, List.setIfInBounds_toArray, List.set_cons_zero, List.set_cons_succ]
      refine wpAnyH_take (i := 27) (hi := by simp only [List.getElem?_toArray, List.getElem?_cons_succ, List.getElem?_cons_zero]; rfl) (v := ?_) (by kernel_rfl) (by kernel_rfl) (by kernel_rfl) (fun _ _ _ h => h) (Or.inl ⟨by rfl, ?_⟩) (by assumption) ?_
      rotate_left
      · (intro w hSw; (try dsimp only at hSw); go_simp; first | done | with_reducible rfl)
      try simp only [Act.put, List.setIfInBounds_toArray, List.set_cons_zero, List.set_cons_succ]
      refine wpAnyH_take (i := 28) (hi := by simp only [List.getElem?_toArray, List.getElem?_cons_succ, List.getElem?_cons_zero]; rfl) (v := ?_) (by kernel_rfl) (by kernel_rfl) (by kernel_rfl) (fun _ _ _ h => h) (Or.inl ⟨by rfl, ?_⟩) (by assumption) ?_
      rotate_left
      · (intro w hSw; (try dsimp only at hSw); go_simp; first | done | with_reducible rfl)
      try simp only [Act.put, List.setIfInBounds_toArray, List.set_cons_zero, List.set_cons_succ]
      refine wpAnyH_take (i := 29) (hi := by simp only [List.getElem?_toArray, List.getElem?_cons_succ, List.getElem?_cons_zero]; rfl) (v := ?_) (by kernel_rfl) (by kernel_rfl) (by kernel_rfl) (fun _ _ _ h => h) (Or.inl ⟨by rfl, ?_⟩) (by assumption) ?_
      rotate_left
      · (intro w hSw; (try dsimp only at hSw); go_simp; first | done | with_reducible rfl)
      try simp only [Act.put, List.setIfInBounds_toArray, List.set_cons_zero, List.set_cons_succ]
      refine wpAnyH_take (i := 30) (hi := by simp only [List.getElem?_toArray, List.getElem?_cons_succ, List.getElem?_cons_zero]; rfl) (v := ?_) (by kernel_rfl) (by kernel_rfl) (by kernel_rfl) (fun _ _ _ h => h) (Or.inl ⟨by rfl, ?_⟩) (by assumption) ?_
      rotate_left
      · (intro w hSw; (try dsimp only at hSw); go_simp; first | done | with_reducible rfl)
      try simp only [Act.put, List.setIfInBounds_toArray, List.set_cons_zero, List.set_cons_succ]
      refine wpAnyH_take (i := 31) (hi := by simp only [List.getElem?_toArray, List.getElem?_cons_succ, List.getElem?_cons_zero]; rfl) (v := ?_) (by kernel_rfl) (by kernel_rfl) (by kernel_rfl) (fun _ _ _ h => h) (Or.inl ⟨by rfl, ?_⟩) (by assumption) ?_
      rotate_left
      · (intro w hSw; (try dsimp only at hSw); go_simp; first | done | with_reducible rfl)
      try simp only [Act.put, List.setIfInBounds_toArray, List.set_cons_zero, List.set_cons_succ]
      refine wpAnyH_take (i := 33) (hi := by simp only [List.getElem?_toArray, List.getElem?_cons_succ, List.getElem?_cons_zero]; rfl) (v := ?_) (by kernel_rfl) (by kernel_rfl) (by kernel_rfl) (fun _ _ _ h => h) (Or.inl ⟨by rfl, ?_⟩) (by assumption) ?_
      rotate_left
      · (intro w hSw; (try dsimp only at hSw); go_simp; first | done | with_reducible rfl)
      try simp only [Act.put, List.setIfInBounds_toArray, List.set_cons_zero, List.set_cons_succ]
      refine wpAnyH_ready (rs := [32]) (by kernel_rfl) (by simp) ?_
      refine AllReadyH.cons (ho := by simp only [List.getElem?_toArray, List.getElem?_cons_succ, List.getElem?_cons_zero]; rfl) (fun K hK => ?_) AllReadyH.nil
      go_simp
      first
        | (go_at_call 14; (with_reducible refine (HWM.out _).mono ?_); rintro e w2 ⟨rfl, hd2⟩)
        | (go_at_call 14; (with_reducible refine (HWS.out _).mono ?_); rintro e w2 ⟨rfl, hd2⟩)
        | (go_at_call 16; (with_reducible refine (HGM.out _).mono ?_); rintro e w2 ⟨rfl, hd2⟩)
        | (go_at_call 16; (with_reducible refine (HGS.out _).mono ?_); rintro e w2 ⟨rfl, hd2⟩)
        | (go_at_call 24; refine (HSB.out _).mono ?_; rintro e w2 ⟨rfl, hd2⟩)
      go_wp2_with fail
      refine hK.out _ _ ?_ (fun hHeld => ?_)
      · ((try dsimp only); go_split_ands; exact ⟨(hd2.cell (cell_lt (by assumption))).trans (by assumption), (hd2.cell (cell_lt (by assumption))).trans (by assumption), (hd2.cell (cell_lt (by assumption))).trans (by assumption), (hd2.cell (cell_lt (by assumption))).trans (by assumption), hid_below (by assumption) hd2⟩)
      clear hK K
      try simp only [Act.put, List.setIfInBounds_toArray, List.set_cons_zero, List.set_cons_succ]
      refine wpAnyH_take (i := 34) (hi := by simp only [List.getElem?_toArray, List.getElem?_cons_succ, List.getElem?_cons_zero]; rfl) (v := ?_) (by kernel_rfl) (by kernel_rfl) (by kernel_rfl) (fun _ _ _ h => h) (Or.inl ⟨by rfl, ?_⟩) (by assumption) ?_
      rotate_left
      · (intro w hSw; (try dsimp only at hSw); go_simp; first | done | with_reducible rfl)
      try simp only [Act.put, List.setIfInBounds_toArray, List.set_cons_zero, List.set_cons_succ]
      refine wpAnyH_take (i := 35) (hi := by simp only [List.getElem?_toArray, List.getElem?_cons_succ, List.getElem?_cons_zero]; rfl) (v := ?_) (by kernel_rfl) (by kernel_rfl) (by kernel_rfl) (fun _ _ _ h => h) (Or.inl ⟨by rfl, ?_⟩) (by assumption) ?_
      rotate_left
      · (intro w hSw; (try dsimp only at hSw); go_simp; first | done | with_reducible rfl)
      try simp only [Act.put, List.setIfInBounds_toArray, List.set_cons_zero, List.set_cons_succ]
      refine wpAnyH_take (i := 36) (hi := by simp only [List.getElem?_toArray, List.getElem?_cons_succ, List.getElem?_cons_zero]; rfl) (v := ?_) (by kernel_rfl) (by kernel_rfl) (by kernel_rfl) (fun _ _ _ h => h) (Or.inl ⟨by rfl, ?_⟩) (by assumption) ?_
      rotate_left
      · (intro w hSw; (try dsimp only at hSw); go_simp; first | done | with_reducible rfl)
      try simp only [Act.put, List.setIfInBounds_toArray, List.set_cons_zero, List.set_cons_succ]
      refine wpAnyH_take (i := 37) (hi := by simp only [List.getElem?_toArray, List.getElem?_cons_succ, List.getElem?_cons_zero]; rfl) (v := ?_) (by kernel_rfl) (by kernel_rfl) (by kernel_rfl) (fun _ _ _ h => h) (Or.inl ⟨by rfl, ?_⟩) (by assumption) ?_
      rotate_left
      · (intro w hSw; (try dsimp only at hSw); go_simp; first | done | with_reducible rfl)
      try simp only [Act.put, List.setIfInBounds_toArray, List.set_cons_zero, List.set_cons_succ]
      refine wpAnyH_take (i := 38) (hi := by simp only [List.getElem?_toArray, List.getElem?_cons_succ, List.getElem?_cons_zero]; rfl) (v := ?_) (by kernel_rfl) (by kernel_rfl) (by kernel_rfl) (fun _ _ _ h => h) (Or.inl ⟨by rfl, ?_⟩) (by assumption) ?_
      rotate_left
      · (intro w hSw; (try dsimp only at hSw); go_simp; first | done | with_reducible rfl)
      try simp only [Act.put, List.setIfInBounds_toArray, List.set_cons_zero, List.set_cons_succ]
      refine wpAnyH_take (i := 39) (hi := by simp only [List.getElem?_toArray, List.getElem?_cons_succ, List.getElem?_cons_zero]; rfl) (v := ?_) (by kernel_rfl) (by kernel_rfl) (by kernel_rfl) (fun _ _ _ h => h) (Or.inl ⟨by rfl, ?_⟩) (by assumption) ?_
      rotate_left
      · (intro w hSw; (try dsimp only at hSw); go_simp; first | done | with_reducible rfl)
      try simp only [Act.put, List.setIfInBounds_toArray, List.set_cons_zero, List.set_cons_succ]
      refine wpAnyH_take (i := 40) (hi := by simp only [List.getElem?_toArray, List.getElem?_cons_succ, List.getElem?_cons_zero]; rfl) (v := ?_) (by kernel_rfl) (by kernel_rfl) (by kernel_rfl) (fun _ _ _ h => h) (Or.inl ⟨by rfl, ?_⟩) (by assumption) ?_
      rotate_left
      · (intro w hSw; (try dsimp only at hSw); go_simp; first | done | with_reducible rfl)
      try simp only [Act.put, List.setIfInBounds_toArray, List.set_cons_zero, List.set_cons_succ]
      refine wpAnyH_take (i := 41) (hi := by simp only [List.getElem?_toArray, List.getElem?_cons_succ, List.getElem?_cons_zero]; rfl) (v := ?_) (by kernel_rfl) (by kernel_rfl) (by kernel_rfl) (fun _ _ _ h => h) (Or.inl ⟨by rfl, ?_⟩) (by assumption) ?_
      rotate_left
      · (intro w hSw; (try dsimp only at hSw); go_simp; first | done | with_reducible rfl)
      try simp only [Act.put, List.setIfInBounds_toArray, List.set_cons_zero, List.set_cons_succ]
      refine wpAnyH_take (i := 42) (hi := by simp only [List.getElem?_toArray, List.getElem?_cons_succ, List.getElem?_cons_zero]; rfl) (v := ?_) (by kernel_rfl) (by kernel_rfl) (by kernel_rfl) (fun _ _ _ h => h) (Or.inl ⟨by rfl, ?_⟩) (by assumption) ?_
      rotate_left
      · (intro w hSw; (try dsimp only at hSw); go_simp; first | done | with_reducible rfl)
      try simp only [Act.put, List.setIfInBounds_toArray, List.set_cons_zero, List.set_cons_succ]
      refine wpAnyH_take (i := 43) (hi := by simp only [List.getElem?_toArray, List.getElem?_cons_succ, List.getElem?_cons_zero]; rfl) (v := ?_) (by kernel_rfl) (by kernel_rfl) (by kernel_rfl) (fun _ _ _ h => h) (Or.inl ⟨by rfl, ?_⟩) (by assumption) ?_
      rotate_left
      · (intro w hSw; (try dsimp only at hSw); go_simp; first | done | with_reducible rfl)
      try simp only [Act.put, List.setIfInBounds_toArray, List.set_cons_zero, List.set_cons_succ]
      refine wpAnyH_take (i := 44) (hi := by simp only [List.getElem?_toArray, List.getElem?_cons_succ, List.getElem?_cons_zero]; rfl) (v := ?_) (by kernel_rfl) (by kernel_rfl) (by kernel_rfl) (fun _ _ _ h => h) (Or.inl ⟨by rfl, ?_⟩) (by assumption) ?_
      rotate_left
      · (intro w hSw; (try dsimp only at hSw); go_simp; first | done | with_reducible rfl)
      try simp only [Act.put, List.setIfInBounds_toArray, List.set_cons_zero, List.set_cons_succ]
      refine wpAnyH_done (by kernel_rfl) ?_ _
      refine NoPanic.normal ?_
      go_wp2_with fail
      go_ret
      have hbq : Hid (Below w.heap.size w w2) := by go_split_ands; assumption
      exact ⟨by simp, hbq.out⟩
    · have hmm := HMME.out (by omega)
      obtain ⟨y, hy'⟩ : ∃ y, y = meanOf b W P := ⟨_, rfl⟩
      rw [hmm] at HMS
      rw [← hy'] at HMM HMS
      have hWb : (W == 0) = false := by simp [hW0]
      have heq := HEQ.out
      clear hmm hy' HMME
      go_region_held3 (fun w' => w'.cell? ⟨g, 0, none⟩ = some (.int .i64 b) ∧ w'.cell? ⟨g, 1, none⟩ = some (.complex .f64 (fi W) (fi P)) ∧ w'.cell? ⟨gs, 0, none⟩ = some (.int .i64 (b + d)) ∧ w'.cell? ⟨gs, 1, none⟩ = some (.complex .f64 (fi W) (fi P2)) ∧ Hid (Below w.heap.size w w'))
        (first
          | (go_split_ands; exact ⟨by assumption, by assumption, by assumption, by assumption, by assumption⟩)
          | exact ⟨c0, c1, s0, s1, hb3⟩
          | exact ⟨c0, c1, s0, s1, Kit.hid hb3.out.drew⟩
          | (go_split_ands
             exact ⟨(hd2.cell (cell_lt (by assumption))).trans (by assumption), (hd2.cell (cell_lt (by assumption))).trans (by assumption), (hd2.cell (cell_lt (by assumption))).trans (by assumption), (hd2.cell (cell_lt (by assumption))).trans (by assumption), hid_below (by assumption) hd2⟩))
        (first
          | (go_at_call 14; (with_reducible refine (HWM.out _).mono ?_); rintro e w2 ⟨rfl, hd2⟩)
          | (go_at_call 14; (with_reducible refine (HWS.out _).mono ?_); rintro e w2 ⟨rfl, hd2⟩)
          | (go_at_call 16; (with_reducible refine (HGM.out _).mono ?_); rintro e w2 ⟨rfl, hd2⟩)
          | (go_at_call 16; (with_reducible refine (HGS.out _).mono ?_); rintro e w2 ⟨rfl, hd2⟩)
          | (go_at_call 15; (with_reducible refine (HMM.out _).mono ?_); rintro e w2 ⟨rfl, hd2⟩)
          | (go_at_call 15; (with_reducible refine (HMS.out _).mono ?_); rintro e w2 ⟨rfl, hd2⟩)
          | (go_at_call 24; refine (HSB.out _).mono ?_; rintro e w2 ⟨rfl, hd2⟩))
      all_goals
        go_wp2_with fail
        go_ret
        have hbq : Hid (Below w.heap.size w w2) := by go_split_ands; assumption
        exact ⟨by simp, hbq.out⟩
end Go.Proofs.Ytjddoohlmgacjaa.Mo

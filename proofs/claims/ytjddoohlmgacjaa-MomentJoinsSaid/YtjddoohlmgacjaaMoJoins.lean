/- The law MomentJoins. -/
import Derived.Test.YtjddoohlmgacjaaMoBack
import Derived.Test.YtjddoohlmgacjaaMoJ
import Derived.Deep.CutRange
namespace Go.Proofs.Ytjddoohlmgacjaa.Mo
open Go.RowKit Go.Proofs.Ytjddoohlmgacjaa.Kit Go.Proofs.Ytjddoohlmgacjaa.Flo Go.IntWalk
set_option linter.unusedVariables false
set_option linter.unusedSimpArgs false
theorem sumW_reverse : ∀ l : List One, sumW l.reverse = sumW l
  | [] => rfl
  | o :: l => by rw [List.reverse_cons, sumW_snoc, sumW_reverse l, sumW]; omega
theorem sumP_reverse : ∀ l : List One, sumP l.reverse = sumP l
  | [] => rfl
  | o :: l => by rw [List.reverse_cons, sumP_snoc, sumP_reverse l, sumP]; omega
theorem lit_cells (w : World) (o : One) : Cells (w.alloc (.cells #[.int .i32 o.b, .int .u32 o.w, .bool o.out] 31)) (some ⟨w.heap.size, 0, none⟩) (flat [o]) := by
  have h := World.ownsRow_lit (base := 0) (e := 31) (size := 3) w #[.int .i32 o.b, .int .u32 o.w, .bool o.out] 1 (Nat.zero_le _) (by decide) rfl
  obtain ⟨A, cap, hv, hc, _⟩ := own_readsS (by decide) h
  cases hv
  exact hc
set_option maxHeartbeats 8000000 in
theorem joinsLaw_any (n : Int) (A : Option Addr) (l : List One) (cap : Nat) (A2 : Option Addr) (k : List One) (cap2 : Nat) (w : World) (ho : Hid (Ones w A l)) (hk : Hid (Ones w A2 k)) (hwf : ∀ o ∈ l, o.Wf) (hwk : ∀ o ∈ k, o.Wf) :
    Calls Try.prog 8 #[.int .i64 n, .slice A l.length cap, .slice A2 k.length cap2] w (ValPost w (.bool true)) := by
  have HAW := Kit.hid awake_any
  by_cases hl : 30 < l.length
  · have g1 : (30 : Int) < (l.length : Int) := by omega
    go_enter Try.func8, Try.ntmps8
    go_wp2_with (go_at_call 9; refine (HAW.out _).mono ?_; rintro e w1 ⟨rfl, hd1⟩)
    go_ret
    exact ⟨rfl, hd1⟩
  have g1 : ¬ (30 : Int) < (l.length : Int) := by omega
  have g1b : decide (30 < (l.length : Int)) = false := decide_eq_false g1
  by_cases hl2 : 30 < k.length
  · have g2 : (30 : Int) < (k.length : Int) := by omega
    go_enter Try.func8, Try.ntmps8
    go_wp2_with (go_at_call 9; refine (HAW.out _).mono ?_; rintro e w1 ⟨rfl, hd1⟩)
    go_ret
    exact ⟨rfl, hd1⟩
  have g2 : ¬ (30 : Int) < (k.length : Int) := by omega
  have g2b : decide (30 < (k.length : Int)) = false := decide_eq_false g2
  have HB := Kit.hid (based_any n)
  have hb := based_bd n
  obtain ⟨b, hb'⟩ : ∃ b, b = basedOf n := ⟨_, rfl⟩
  rw [← hb'] at HB hb
  clear hb'
  obtain ⟨Wl, hWl⟩ : ∃ W, W = sumW l := ⟨_, rfl⟩
  obtain ⟨Pl, hPl⟩ : ∃ P, P = sumP l := ⟨_, rfl⟩
  obtain ⟨Wk, hWk⟩ : ∃ W, W = sumW k := ⟨_, rfl⟩
  obtain ⟨Pk, hPk⟩ : ∃ P, P = sumP k := ⟨_, rfl⟩
  obtain ⟨W, hW⟩ : ∃ W, W = Wl + Wk := ⟨_, rfl⟩
  obtain ⟨P, hP⟩ : ∃ P, P = Pl + Pk := ⟨_, rfl⟩
  have hbdl := sum_bd l
  have hbdk := sum_bd k
  rw [← hWl, ← hPl] at hbdl
  rw [← hWk, ← hPk] at hbdk
  have HSB : Hid (∀ A' cap' w', Hid (Ones w' A' (l ++ k)) → Calls Try.prog 11 #[.int .i64 b, .slice A' (l.length + k.length) cap'] w' (ValPost w' (mo b W P))) :=
    Kit.hid (fun A' cap' w' h => by
      have := summed_any b A' (l ++ k) cap' w' h (wf_append hwf hwk) (by simp; omega) (by omega)
      rw [sumW_append, sumP_append, List.length_append, ← hWl, ← hPl, ← hWk, ← hPk, ← hW, ← hP] at this
      exact this)
  have HSO : Hid (∀ A' cap' w', Hid (Ones w' A' (k.reverse ++ l)) → Calls Try.prog 11 #[.int .i64 b, .slice A' (k.length + l.length) cap'] w' (ValPost w' (mo b W P))) :=
    Kit.hid (fun A' cap' w' h => by
      have := summed_any b A' (k.reverse ++ l) cap' w' h (wf_append (fun o h => hwk o (List.mem_reverse.1 h)) hwf) (by simp; omega) (by omega)
      rw [sumW_append, sumP_append, List.length_append, List.length_reverse, sumW_reverse, sumP_reverse, ← hWl, ← hPl, ← hWk, ← hPk, Int.add_comm Wk, Int.add_comm Pk, ← hW, ← hP] at this
      exact this)
  have HSL : Hid (∀ w', Hid (Ones w' A l) → Calls Try.prog 11 #[.int .i64 b, .slice A l.length cap] w' (ValPost w' (mo b Wl Pl))) :=
    Kit.hid (fun w' h => by rw [hWl, hPl]; exact summed_any b A l cap w' h hwf (by omega) (by omega))
  have HSK : Hid (∀ w', Hid (Ones w' A2 k) → Calls Try.prog 11 #[.int .i64 b, .slice A2 k.length cap2] w' (ValPost w' (mo b Wk Pk))) :=
    Kit.hid (fun w' h => by rw [hWk, hPk]; exact summed_any b A2 k cap2 w' h hwk (by omega) (by omega))
  have HJ1 : Hid (∀ w', Calls Try.prog 25 #[mo b Wl Pl, mo b Wk Pk] w' (ValPost w' (mo b W P))) :=
    Kit.hid (fun w' => by
      have := join_any b Wl Pl b Wk Pk 0 w' (by omega) (by omega) (by omega) (by omega) (by omega) (by decide) (by simp) (by omega) (by omega) (by omega)
      rw [Int.zero_mul, Int.add_zero, ← hW, ← hP] at this
      exact this)
  have HJ2 : Hid (∀ w', Calls Try.prog 25 #[mo b Wk Pk, mo b Wl Pl] w' (ValPost w' (mo b W P))) :=
    Kit.hid (fun w' => by
      have := join_any b Wk Pk b Wl Pl 0 w' (by omega) (by omega) (by omega) (by omega) (by omega) (by decide) (by simp) (by omega) (by omega) (by omega)
      rw [Int.zero_mul, Int.add_zero, Int.add_comm Wk, Int.add_comm Pk, ← hW, ← hP] at this
      exact this)
  have HEQ := Kit.hid (fun w' => mo_eql b W P (by omega) (by omega) w')
  have hst := store_complex
  have hl30 : l.length ≤ 30 := by omega
  have hk30 : k.length ≤ 30 := by omega
  clear hwf hwk hW hP hb hWl hPl hWk hPk hbdl hbdk hl hl2
  unfold mo at HSB HSO HSL HSK HJ1 HJ2 HEQ
  go_enter Try.func8, Try.ntmps8
  go_wp2_with (first
    | (go_at_call 9; refine (HAW.out _).mono ?_; rintro e w1 ⟨rfl, hd1⟩)
    | (go_at_call 10; refine (HB.out _).mono ?_; rintro e w9 ⟨rfl, rfl⟩))
  go_loopw [9, 10] (fun v9 v10 wr => ∃ (j : Nat), j ≤ k.length ∧ v10 = .int .i64 ((k.length : Int) - 1 - j) ∧ Hid (wr.ownsRow w.heap.size 31 3 v9 j (flat (k.reverse.take j))) ∧ Hid (Below w.heap.size w wr)) (fun _ i _ => (intOf i + 1).toNat)
  case atStart => exact ⟨0, by omega, by go_num, Kit.hid ⟨rfl, .inl ⟨rfl, rfl⟩⟩, Kit.hid hd1⟩
  case round =>
    obtain ⟨j, hj, rfl, hown, hbw⟩ := hrel
    by_cases hlt : j < k.length
    · obtain ⟨i0, hi0⟩ : ∃ i0 : Nat, i0 = k.length - 1 - j := ⟨_, rfl⟩
      have hi1 : (k.length : Int) - 1 - j = (i0 : Int) := by omega
      have hik : i0 < k.length := by omega
      rw [hi1]
      obtain ⟨ad, hA2, k0, k1, k2⟩ := (ones_below hk hbw.out).out i0 hik
      subst hA2
      rw [add_part ad (i0 * 3) 1 (by decide)] at k1
      rw [add_part ad (i0 * 3) 2 (by decide)] at k2
      obtain ⟨o, hoo⟩ : ∃ o, o = k[i0] := ⟨_, rfl⟩
      have HT : Hid (flat (k.reverse.take (j + 1)) = flat (k.reverse.take j) ++ flat [o]) := Kit.hid (by
        rw [List.take_succ_eq_append_getElem (by simpa using hlt), flat_append, List.getElem_reverse, hoo]
        simp only [hi0])
      rw [← hoo] at k0 k1 k2
      have hlt1 : (i0 : Int) < (k.length : Int) := by omega
      have hlt0 : (0 : Int) ≤ (i0 : Int) := by omega
      have r1 : IntKind.i64.wrap ((i0 : Int) - 1) = (i0 : Int) - 1 := i64_in _ (by omega)
      have r2 : wrap64 ((i0 : Int) - 1) = (i0 : Int) - 1 := by unfold wrap64; omega
      have hwn := hbw.out.size
      have hownA := own_belowS hown.out ((Below.refl _ _).alloc (Nat.le_refl _) (.cells #[.int .i32 o.b, .int .u32 o.w, .bool o.out] 31))
      have hbA := hbw.out.alloc hwn (.cells #[.int .i32 o.b, .int .u32 o.w, .bool o.out] 31)
      have hend : (i0 : Int) - 1 = (k.length : Int) - 1 - ((j + 1 : Nat) : Int) := by omega
      have HI0 := Kit.hid hi0
      have HEND := Kit.hid hend
      clear hoo hi1 hi0 hend
      go_wp2_with (at_builtin; (refine wpList_append_srcS rfl _ _ 22 rfl w.heap.size 31 (.agg #[.int .i32 0, .int .u32 0, .bool false]) 3 12 (by decide) Try.underlying22 infoOne rfl _ j _ rfl hownA (some ⟨wr.heap.size, 0, none⟩) 1 1 (flat [o]) rfl (flat_length _) (lit_cells wr o) (flat_one _) (by unfold maxLen; omega) (by omega) (by simp; omega) ?_)
                   intro v2 w2 hown2 hg2 _
                   have hd2 := below_ownS hbA hownA hg2 (by simp; omega))
      rw [← HT.out] at hown2
      go_roundw
      case rel => exact ⟨j + 1, by omega, by rw [← HEND.out], Kit.hid hown2, Kit.hid hd2⟩
      case measure => have := HI0.out; simp [intOf] <;> omega
    · obtain rfl : j = k.length := by omega
      have hj1 : (k.length : Int) - 1 - (k.length : Int) = -1 := by omega
      rw [hj1]
      rw [List.take_of_length_le (by simp)] at hown
      obtain ⟨A9, cap9, hv9, hc9, _, _⟩ := own_readsS (by decide) hown.out
      subst hv9
      have ht0 : Hid (Ones wr A9 k.reverse) := ones_of_cells hc9
      have ho0 := ones_below ho hbw.out
      have hk0 := ones_below hk hbw.out
      have hownL := World.ownsRow_lit (base := wr.heap.size) (e := 31) (size := 3) wr #[] 0 (Nat.le_refl _) (by decide) rfl
      have hbL := (Below.refl wr.heap.size wr).alloc (Nat.le_refl _) (.cells #[] 31)
      clear hj1 hown hc9
      go_upto_region 11 with (first
        | (at_builtin; (refine wpList_append_srcS rfl _ _ 22 rfl wr.heap.size 31 (.agg #[.int .i32 0, .int .u32 0, .bool false]) 3 12 (by decide) Try.underlying22 infoOne rfl _ 0 _ rfl hownL A l.length cap (flat l) rfl (flat_length _) (cells_of_ones (ones_below ho0 hbL)) (flat_one _) (by unfold maxLen; omega) (by omega) (by simp) ?_)
           intro v2 w2 hown2 hg2 _
           have hR2 := below_ownS hbL hownL hg2 (by simp)
           have hsz2 := hR2.size
           rw [Nat.zero_add] at hown2)
        | (at_builtin; (refine wpList_append_srcS rfl _ _ 22 rfl wr.heap.size 31 (.agg #[.int .i32 0, .int .u32 0, .bool false]) 3 12 (by decide) Try.underlying22 infoOne rfl _ _ _ rfl hown2 A2 k.length cap2 (flat k) rfl (flat_length _) (cells_of_ones (ones_below hk0 hR2)) (flat_one _) (by unfold maxLen; omega) (by omega) hsz2 ?_)
           intro v4 w4 hown4 hg4 _
           have hR4 := below_ownS hR2 hown2 hg4 hsz2
           obtain ⟨A4, cap4, hv4, hc4, _, _⟩ := own_readsS (by decide) hown4
           subst hv4
           have hO4 : Hid (Ones w4 A4 (l ++ k)) := ones_of_cells (l := l ++ k) (by rw [flat_append]; simpa using hc4))
        | (go_at_call 11; refine (HSB.out _ _ _ hO4).mono ?_; rintro e w5 ⟨rfl, hd5⟩))
      have hR5 := hR4.trans (hd5.mono hR4.size)
      have hR6 := Kit.hid (hR5.alloc hR5.size (.cells #[.int .i64 b, .complex .f64 (fi W) (fi P)] 27))
      have hM6 := Kit.hid (blk_new w5 (.cells #[.int .i64 b, .complex .f64 (fi W) (fi P)] 27))
      obtain ⟨g1', hg1⟩ : ∃ g, g = w5.heap.size := ⟨_, rfl⟩
      obtain ⟨w6, hw6⟩ : ∃ x, x = w5.alloc (.cells #[.int .i64 b, .complex .f64 (fi W) (fi P)] 27) := ⟨_, rfl⟩
      rw [← hw6] at hR6 hM6 ⊢
      rw [← hg1] at hM6 ⊢
      clear hw6 hg1 hd5 hR5 hR4 hO4 hc4 hown4 hg4 hsz2 hR2 hown2 hg2 hownL hbL
      have ho6 := ones_below ho0 hR6.out
      have hk6 := ones_below hk0 hR6.out
      have ht6 := ones_below ht0 hR6.out
      have hownL := World.ownsRow_lit (base := w6.heap.size) (e := 31) (size := 3) w6 #[] 0 (Nat.le_refl _) (by decide) rfl
      have hbL := (Below.refl w6.heap.size w6).alloc (Nat.le_refl _) (.cells #[] 31)
      have hrl : k.reverse.length = k.length := List.length_reverse
      go_wp2_with (first
        | (at_builtin; (refine wpList_append_srcS rfl _ _ 22 rfl w6.heap.size 31 (.agg #[.int .i32 0, .int .u32 0, .bool false]) 3 12 (by decide) Try.underlying22 infoOne rfl _ 0 _ rfl hownL A9 k.length cap9 (flat k.reverse) rfl (by rw [flat_length, hrl]) (cells_of_ones (ones_below ht6 hbL)) (flat_one _) (by unfold maxLen; omega) (by omega) (by simp) ?_)
           intro v7 w7 hown7 hg7 _
           have hR7 := below_ownS hbL hownL hg7 (by simp)
           have hsz7 := hR7.size
           rw [Nat.zero_add] at hown7)
        | (at_builtin; (refine wpList_append_srcS rfl _ _ 22 rfl w6.heap.size 31 (.agg #[.int .i32 0, .int .u32 0, .bool false]) 3 12 (by decide) Try.underlying22 infoOne rfl _ _ _ rfl hown7 A l.length cap (flat l) rfl (flat_length _) (cells_of_ones (ones_below ho6 hR7)) (flat_one _) (by unfold maxLen; omega) (by omega) hsz7 ?_)
           intro v8 w8 hown8 hg8 _
           have hR8 := below_ownS hR7 hown7 hg8 hsz7
           obtain ⟨A8, cap8, hv8, hc8, _, _⟩ := own_readsS (by decide) hown8
           subst hv8
           have hO8 : Hid (Ones w8 A8 (k.reverse ++ l)) := ones_of_cells (l := k.reverse ++ l) (by rw [flat_append]; simpa using hc8))
        | (go_at_call 11; refine (HSO.out _ _ _ hO8).mono ?_; rintro e w9 ⟨rfl, hd9⟩))
      have hR9 := hR8.trans (hd9.mono hR8.size)
      have hM9 := Kit.hid (blk_alloc (blk_below hM6.out hR9) (.cells #[.int .i64 b, .complex .f64 (fi W) (fi P)] 27))
      have hN9 := Kit.hid (blk_new w9 (.cells #[.int .i64 b, .complex .f64 (fi W) (fi P)] 27))
      have hRA := hR9.alloc hR9.size (.cells #[.int .i64 b, .complex .f64 (fi W) (fi P)] 27)
      have hB9 : Hid (Below w.heap.size w (w9.alloc (.cells #[.int .i64 b, .complex .f64 (fi W) (fi P)] 27))) := Kit.hid (hbw.out.trans ((hR6.out.trans (hRA.mono hR6.out.size)).mono hbw.out.size))
      obtain ⟨g2', hg2'⟩ : ∃ g, g = w9.heap.size := ⟨_, rfl⟩
      obtain ⟨wq, hwq⟩ : ∃ x, x = w9.alloc (.cells #[.int .i64 b, .complex .f64 (fi W) (fi P)] 27) := ⟨_, rfl⟩
      rw [← hwq] at hM9 hN9 hB9 ⊢
      rw [← hg2'] at hN9 ⊢
      clear hwq hg2' hd9 hR9 hR8 hO8 hc8 hown8 hg8 hsz7 hR7 hown7 hg7 hownL hbL hRA hM6 ht0 ht6 ho6 hk6 hR6
      obtain ⟨c0, c1, _, _, _, _⟩ := own_block hM9.out (.int .i64 b)
      obtain ⟨s0, s1, _, _, _, _⟩ := own_block hN9.out (.int .i64 b)
      have hB : Hid (Below w.heap.size w wq.drew) := Kit.hid hB9.out.drew
      have ho0 := ho
      have hk0 := hk
      have heq := HEQ.out
      refine wp_region_noPanic ?_
      refine wp_region_held_drew (S := fun w' => w'.cell? ⟨g1', 0, none⟩ = some (.int .i64 b) ∧ w'.cell? ⟨g1', 1, none⟩ = some (.complex .f64 (fi W) (fi P)) ∧ w'.cell? ⟨g2', 0, none⟩ = some (.int .i64 b) ∧ w'.cell? ⟨g2', 1, none⟩ = some (.complex .f64 (fi W) (fi P))) (by kernel_rfl) ⟨c0, c1, s0, s1⟩ (fun hHeld => ?_)
      refine wpAnyH_take (i := 0) (hi := by simp only [List.getElem?_toArray, List.getElem?_cons_succ, List.getElem?_cons_zero]; rfl) (v := ?_) (by kernel_rfl) (by kernel_rfl) (by kernel_rfl) (fun _ _ _ h => h) (Or.inl ⟨by rfl, ?_⟩) (by assumption) ?_
      rotate_left
      · (intro w hSw; (try dsimp only at hSw); go_simp; first | done | with_reducible rfl)
      try simp only [Act.put, List.setIfInBounds_toArray, List.set_cons_zero, List.set_cons_succ]
      refine wpAnyH_take (i := 1) (hi := by simp only [List.getElem?_toArray, List.getElem?_cons_succ, List.getElem?_cons_zero]; rfl) (v := ?_) (by kernel_rfl) (by kernel_rfl) (by kernel_rfl) (fun _ _ _ h => h) (Or.inl ⟨by rfl, ?_⟩) (by assumption) ?_
      rotate_left
      · (intro w hSw; (try dsimp only at hSw); go_simp; first | done | with_reducible rfl)
      try simp only [Act.put, List.setIfInBounds_toArray, List.set_cons_zero, List.set_cons_succ]
      refine wpAnyH_take (i := 2) (hi := by simp only [List.getElem?_toArray, List.getElem?_cons_succ, List.getElem?_cons_zero]; rfl) (v := ?_) (by kernel_rfl) (by kernel_rfl) (by kernel_rfl) (fun _ _ _ h => h) (Or.inl ⟨by rfl, ?_⟩) (by assumption) ?_
      rotate_left
      · (intro w hSw; (try dsimp only at hSw); go_simp; first | done | with_reducible rfl)
      try simp only [Act.put, List.setIfInBounds_toArray, List.set_cons_zero, List.set_cons_succ]
      refine wpAnyH_take (i := 3) (hi := by simp only [List.getElem?_toArray, List.getElem?_cons_succ, List.getElem?_cons_zero]; rfl) (v := ?_) (by kernel_rfl) (by kernel_rfl) (by kernel_rfl) (fun _ _ _ h => h) (Or.inl ⟨by rfl, ?_⟩) (by assumption) ?_
      rotate_left
      · (intro w hSw; (try dsimp only at hSw); go_simp; first | done | with_reducible rfl)
      try simp only [Act.put, List.setIfInBounds_toArray, List.set_cons_zero, List.set_cons_succ]
      refine wpAnyH_take (i := 4) (hi := by simp only [List.getElem?_toArray, List.getElem?_cons_succ, List.getElem?_cons_zero]; rfl) (v := ?_) (by kernel_rfl) (by kernel_rfl) (by kernel_rfl) (fun _ _ _ h => h) (Or.inl ⟨by rfl, ?_⟩) (by assumption) ?_
      rotate_left
      · (intro w hSw; (try dsimp only at hSw); go_simp; first | done | with_reducible rfl)
      try simp only [Act.put, List.setIfInBounds_toArray, List.set_cons_zero, List.set_cons_succ]
      refine wpAnyH_take (i := 5) (hi := by simp only [List.getElem?_toArray, List.getElem?_cons_succ, List.getElem?_cons_zero]; rfl) (v := ?_) (by kernel_rfl) (by kernel_rfl) (by kernel_rfl) (fun _ _ _ h => h) (Or.inl ⟨by rfl, ?_⟩) (by assumption) ?_
      rotate_left
      · (intro w hSw; (try dsimp only at hSw); go_simp; first | done | with_reducible rfl)
      try simp only [Act.put, List.setIfInBounds_toArray, List.set_cons_zero, List.set_cons_succ]
      refine wpAnyH_take (i := 6) (hi := by simp only [List.getElem?_toArray, List.getElem?_cons_succ, List.getElem?_cons_zero]; rfl) (v := ?_) (by kernel_rfl) (by kernel_rfl) (by kernel_rfl) (fun _ _ _ h => h) (Or.inl ⟨by rfl, ?_⟩) (by assumption) ?_
      rotate_left
      · (intro w hSw; (try dsimp only at hSw); go_simp; first | done | with_reducible rfl)
      try simp only [Act.put, List.setIfInBounds_toArray, List.set_cons_zero, List.set_cons_succ]
      refine wpAnyH_take (i := 7) (hi := by simp only [List.getElem?_toArray, List.getElem?_cons_succ, List.getElem?_cons_zero]; rfl) (v := ?_) (by kernel_rfl) (by kernel_rfl) (by kernel_rfl) (fun _ _ _ h => h) (Or.inl ⟨by rfl, ?_⟩) (by assumption) ?_
      rotate_left
      · (intro w hSw; (try dsimp only at hSw); go_simp; first | done | with_reducible rfl)
      try simp only [Act.put, List.setIfInBounds_toArray, List.set_cons_zero, List.set_cons_succ]
      refine wpAnyH_take (i := 8) (hi := by simp only [List.getElem?_toArray, List.getElem?_cons_succ, List.getElem?_cons_zero]; rfl) (v := ?_) (by kernel_rfl) (by kernel_rfl) (by kernel_rfl) (fun _ _ _ h => h) (Or.inl ⟨by rfl, ?_⟩) (by assumption) ?_
      rotate_left
      · (intro w hSw; (try dsimp only at hSw); go_simp; first | done | with_reducible rfl)
      try simp only [Act.put, List.setIfInBounds_toArray, List.set_cons_zero, List.set_cons_succ]
      refine wpAnyH_take (i := 10) (hi := by simp only [List.getElem?_toArray, List.getElem?_cons_succ, List.getElem?_cons_zero]; rfl) (v := ?_) (by kernel_rfl) (by kernel_rfl) (by kernel_rfl) (fun _ _ _ h => h) (Or.inl ⟨by rfl, ?_⟩) (by assumption) ?_
      rotate_left
      · (intro w hSw; (try dsimp only at hSw); go_simp; first | done | with_reducible rfl)
      try simp only [Act.put, List.setIfInBounds_toArray, List.set_cons_zero, List.set_cons_succ]
      refine wpAnyH_take (i := 11) (hi := by simp only [List.getElem?_toArray, List.getElem?_cons_succ, List.getElem?_cons_zero]; rfl) (v := ?_) (by kernel_rfl) (by kernel_rfl) (by kernel_rfl) (fun _ _ _ h => h) (Or.inl ⟨by rfl, ?_⟩) (by assumption) ?_
      rotate_left
      · (intro w hSw; (try dsimp only at hSw); go_simp; first | done | with_reducible rfl)
      try simp only [Act.put, List.setIfInBounds_toArray, List.set_cons_zero, List.set_cons_succ]
      refine wpAnyH_take (i := 14) (hi := by simp only [List.getElem?_toArray, List.getElem?_cons_succ, List.getElem?_cons_zero]; rfl) (v := ?_) (by kernel_rfl) (by kernel_rfl) (by kernel_rfl) (fun _ _ _ h => h) (Or.inl ⟨by rfl, ?_⟩) (by assumption) ?_
      rotate_left
      · (intro w hSw; (try dsimp only at hSw); go_simp; first | done | with_reducible rfl)
      try simp only [Act.put, List.setIfInBounds_toArray, List.set_cons_zero, List.set_cons_succ]
      refine wpAnyH_ready (rs := [9]) (by kernel_rfl) (by simp) ?_
      refine AllReadyH.cons (ho := by simp only [List.getElem?_toArray, List.getElem?_cons_succ, List.getElem?_cons_zero]; rfl) (fun K hK => ?_) AllReadyH.nil
      go_simp
      first
        | (go_at_call 11; (with_reducible refine (HSL.out _ (ones_below ho0 hB.out)).mono ?_); rintro e w2 ⟨rfl, hd2⟩; have hB := hid_below hB hd2)
        | (go_at_call 11; (with_reducible refine (HSK.out _ (ones_below hk0 hB.out)).mono ?_); rintro e w2 ⟨rfl, hd2⟩; have hB := hid_below hB hd2)
        | (go_at_call 25; (with_reducible refine (HJ1.out _).mono ?_); rintro e w2 ⟨rfl, hd2⟩; have hB := hid_below hB hd2)
        | (go_at_call 25; (with_reducible refine (HJ2.out _).mono ?_); rintro e w2 ⟨rfl, hd2⟩; have hB := hid_below hB hd2)
      go_wp2_with fail
      refine hK.out _ _ ?_ (fun hHeld => ?_)
      · ((try dsimp only); go_split_ands; exact ⟨(hd2.cell (cell_lt (by assumption))).trans (by assumption), (hd2.cell (cell_lt (by assumption))).trans (by assumption), (hd2.cell (cell_lt (by assumption))).trans (by assumption), (hd2.cell (cell_lt (by assumption))).trans (by assumption)⟩)
      clear hK K
      try simp only [Act.put, List.setIfInBounds_toArray, List.set_cons_zero, List.set_cons_succ]
      refine wpAnyH_ready (rs := [12]) (by kernel_rfl) (by simp) ?_
      refine AllReadyH.cons (ho := by simp only [List.getElem?_toArray, List.getElem?_cons_succ, List.getElem?_cons_zero]; rfl) (fun K hK => ?_) AllReadyH.nil
      go_simp
      first
        | (go_at_call 11; (with_reducible refine (HSL.out _ (ones_below ho0 hB.out)).mono ?_); rintro e w2 ⟨rfl, hd2⟩; have hB := hid_below hB hd2)
        | (go_at_call 11; (with_reducible refine (HSK.out _ (ones_below hk0 hB.out)).mono ?_); rintro e w2 ⟨rfl, hd2⟩; have hB := hid_below hB hd2)
        | (go_at_call 25; (with_reducible refine (HJ1.out _).mono ?_); rintro e w2 ⟨rfl, hd2⟩; have hB := hid_below hB hd2)
        | (go_at_call 25; (with_reducible refine (HJ2.out _).mono ?_); rintro e w2 ⟨rfl, hd2⟩; have hB := hid_below hB hd2)
      go_wp2_with fail
      refine hK.out _ _ ?_ (fun hHeld => ?_)
      · ((try dsimp only); go_split_ands; exact ⟨(hd2.cell (cell_lt (by assumption))).trans (by assumption), (hd2.cell (cell_lt (by assumption))).trans (by assumption), (hd2.cell (cell_lt (by assumption))).trans (by assumption), (hd2.cell (cell_lt (by assumption))).trans (by assumption)⟩)
      clear hK K
      try simp only [Act.put, List.setIfInBounds_toArray, List.set_cons_zero, List.set_cons_succ]
      refine wpAnyH_ready (rs := [13]) (by kernel_rfl) (by simp) ?_
      refine AllReadyH.cons (ho := by simp only [List.getElem?_toArray, List.getElem?_cons_succ, List.getElem?_cons_zero]; rfl) (fun K hK => ?_) AllReadyH.nil
      go_simp
      first
        | (go_at_call 11; (with_reducible refine (HSL.out _ (ones_below ho0 hB.out)).mono ?_); rintro e w2 ⟨rfl, hd2⟩; have hB := hid_below hB hd2)
        | (go_at_call 11; (with_reducible refine (HSK.out _ (ones_below hk0 hB.out)).mono ?_); rintro e w2 ⟨rfl, hd2⟩; have hB := hid_below hB hd2)
        | (go_at_call 25; (with_reducible refine (HJ1.out _).mono ?_); rintro e w2 ⟨rfl, hd2⟩; have hB := hid_below hB hd2)
        | (go_at_call 25; (with_reducible refine (HJ2.out _).mono ?_); rintro e w2 ⟨rfl, hd2⟩; have hB := hid_below hB hd2)
      go_wp2_with fail
      refine hK.out _ _ ?_ (fun hHeld => ?_)
      · ((try dsimp only); go_split_ands; exact ⟨(hd2.cell (cell_lt (by assumption))).trans (by assumption), (hd2.cell (cell_lt (by assumption))).trans (by assumption), (hd2.cell (cell_lt (by assumption))).trans (by assumption), (hd2.cell (cell_lt (by assumption))).trans (by assumption)⟩)
      clear hK K
      try simp only [Act.put, List.setIfInBounds_toArray, List.set_cons_zero, List.set_cons_succ]
      refine wpAnyH_take (i := 15) (hi := by simp only [List.getElem?_toArray, List.getElem?_cons_succ, List.getElem?_cons_zero]; rfl) (v := ?_) (by kernel_rfl) (by kernel_rfl) (by kernel_rfl) (fun _ _ _ h => h) (Or.inl ⟨by rfl, ?_⟩) (by assumption) ?_
      rotate_left
      · (intro w hSw; (try dsimp only at hSw); go_simp; first | done | with_reducible rfl)
      try simp only [Act.put, List.setIfInBounds_toArray, List.set_cons_zero, List.set_cons_succ]
      refine wpAnyH_take (i := 16) (hi := by simp only [List.getElem?_toArray, List.getElem?_cons_succ, List.getElem?_cons_zero]; rfl) (v := ?_) (by kernel_rfl) (by kernel_rfl) (by kernel_rfl) (fun _ _ _ h => h) (Or.inl ⟨by rfl, ?_⟩) (by assumption) ?_
      rotate_left
      · (intro w hSw; (try dsimp only at hSw); go_simp; first | done | with_reducible rfl)
      try simp only [Act.put, List.setIfInBounds_toArray, List.set_cons_zero, List.set_cons_succ]
      refine wpAnyH_take (i := 17) (hi := by simp only [List.getElem?_toArray, List.getElem?_cons_succ, List.getElem?_cons_zero]; rfl) (v := ?_) (by kernel_rfl) (by kernel_rfl) (by kernel_rfl) (fun _ _ _ h => h) (Or.inl ⟨by rfl, ?_⟩) (by assumption) ?_
      rotate_left
      · (intro w hSw; (try dsimp only at hSw); go_simp; first | done | with_reducible rfl)
      try simp only [Act.put, List.setIfInBounds_toArray, List.set_cons_zero, List.set_cons_succ]
      refine wpAnyH_take (i := 18) (hi := by simp only [List.getElem?_toArray, List.getElem?_cons_succ, List.getElem?_cons_zero]; rfl) (v := ?_) (by kernel_rfl) (by kernel_rfl) (by kernel_rfl) (fun _ _ _ h => h) (Or.inl ⟨by rfl, ?_⟩) (by assumption) ?_
      rotate_left
      · (intro w hSw; (try dsimp only at hSw); go_simp; first | done | with_reducible rfl)
      try simp only [Act.put, List.setIfInBounds_toArray, List.set_cons_zero, List.set_cons_succ]
      refine wpAnyH_take (i := 19) (hi := by simp only [List.getElem?_toArray, List.getElem?_cons_succ, List.getElem?_cons_zero]; rfl) (v := ?_) (by kernel_rfl) (by kernel_rfl) (by kernel_rfl) (fun _ _ _ h => h) (Or.inl ⟨by rfl, ?_⟩) (by assumption) ?_
      rotate_left
      · (intro w hSw; (try dsimp only at hSw); go_simp; first | done | with_reducible rfl)
      try simp only [Act.put, List.setIfInBounds_toArray, List.set_cons_zero, List.set_cons_succ]
      refine wpAnyH_take (i := 21) (hi := by simp only [List.getElem?_toArray, List.getElem?_cons_succ, List.getElem?_cons_zero]; rfl) (v := ?_) (by kernel_rfl) (by kernel_rfl) (by kernel_rfl) (fun _ _ _ h => h) (Or.inl ⟨by rfl, ?_⟩) (by assumption) ?_
      rotate_left
      · (intro w hSw; (try dsimp only at hSw); go_simp; first | done | with_reducible rfl)
      try simp only [Act.put, List.setIfInBounds_toArray, List.set_cons_zero, List.set_cons_succ]
      refine wpAnyH_take (i := 22) (hi := by simp only [List.getElem?_toArray, List.getElem?_cons_succ, List.getElem?_cons_zero]; rfl) (v := ?_) (by kernel_rfl) (by kernel_rfl) (by kernel_rfl) (fun _ _ _ h => h) (Or.inl ⟨by rfl, ?_⟩) (by assumption) ?_
      rotate_left
      · (intro w hSw; (try dsimp only at hSw); go_simp; first | done | with_reducible rfl)
      try simp only [Act.put, List.setIfInBounds_toArray, List.set_cons_zero, List.set_cons_succ]
      refine wpAnyH_take (i := 25) (hi := by simp only [List.getElem?_toArray, List.getElem?_cons_succ, List.getElem?_cons_zero]; rfl) (v := ?_) (by kernel_rfl) (by kernel_rfl) (by kernel_rfl) (fun _ _ _ h => h) (Or.inl ⟨by rfl, ?_⟩) (by assumption) ?_
      rotate_left
      · (intro w hSw; (try dsimp only at hSw); go_simp; first | done | with_reducible rfl)
      try simp only [Act.put, List.setIfInBounds_toArray, List.set_cons_zero, List.set_cons_succ]
      refine wpAnyH_ready (rs := [20]) (by kernel_rfl) (by simp) ?_
      refine AllReadyH.cons (ho := by simp only [List.getElem?_toArray, List.getElem?_cons_succ, List.getElem?_cons_zero]; rfl) (fun K hK => ?_) AllReadyH.nil
      go_simp
      first
        | (go_at_call 11; (with_reducible refine (HSL.out _ (ones_below ho0 hB.out)).mono ?_); rintro e w2 ⟨rfl, hd2⟩; have hB := hid_below hB hd2)
        | (go_at_call 11; (with_reducible refine (HSK.out _ (ones_below hk0 hB.out)).mono ?_); rintro e w2 ⟨rfl, hd2⟩; have hB := hid_below hB hd2)
        | (go_at_call 25; (with_reducible refine (HJ1.out _).mono ?_); rintro e w2 ⟨rfl, hd2⟩; have hB := hid_below hB hd2)
        | (go_at_call 25; (with_reducible refine (HJ2.out _).mono ?_); rintro e w2 ⟨rfl, hd2⟩; have hB := hid_below hB hd2)
      go_wp2_with fail
      refine hK.out _ _ ?_ (fun hHeld => ?_)
      · ((try dsimp only); go_split_ands; exact ⟨(hd2.cell (cell_lt (by assumption))).trans (by assumption), (hd2.cell (cell_lt (by assumption))).trans (by assumption), (hd2.cell (cell_lt (by assumption))).trans (by assumption), (hd2.cell (cell_lt (by assumption))).trans (by assumption)⟩)
      clear hK K
      try simp only [Act.put, List.setIfInBounds_toArray, List.set_cons_zero, List.set_cons_succ]
      refine wpAnyH_ready (rs := [23]) (by kernel_rfl) (by simp) ?_
      refine AllReadyH.cons (ho := by simp only [List.getElem?_toArray, List.getElem?_cons_succ, List.getElem?_cons_zero]; rfl) (fun K hK => ?_) AllReadyH.nil
      go_simp
      first
        | (go_at_call 11; (with_reducible refine (HSL.out _ (ones_below ho0 hB.out)).mono ?_); rintro e w2 ⟨rfl, hd2⟩; have hB := hid_below hB hd2)
        | (go_at_call 11; (with_reducible refine (HSK.out _ (ones_below hk0 hB.out)).mono ?_); rintro e w2 ⟨rfl, hd2⟩; have hB := hid_below hB hd2)
        | (go_at_call 25; (with_reducible refine (HJ1.out _).mono ?_); rintro e w2 ⟨rfl, hd2⟩; have hB := hid_below hB hd2)
        | (go_at_call 25; (with_reducible refine (HJ2.out _).mono ?_); rintro e w2 ⟨rfl, hd2⟩; have hB := hid_below hB hd2)
      go_wp2_with fail
      refine hK.out _ _ ?_ (fun hHeld => ?_)
      · ((try dsimp only); go_split_ands; exact ⟨(hd2.cell (cell_lt (by assumption))).trans (by assumption), (hd2.cell (cell_lt (by assumption))).trans (by assumption), (hd2.cell (cell_lt (by assumption))).trans (by assumption), (hd2.cell (cell_lt (by assumption))).trans (by assumption)⟩)
      clear hK K
      try simp only [Act.put, List.setIfInBounds_toArray, List.set_cons_zero, List.set_cons_succ]
      refine wpAnyH_ready (rs := [24]) (by kernel_rfl) (by simp) ?_
      refine AllReadyH.cons (ho := by simp only [List.getElem?_toArray, List.getElem?_cons_succ, List.getElem?_cons_zero]; rfl) (fun K hK => ?_) AllReadyH.nil
      go_simp
      first
        | (go_at_call 11; (with_reducible refine (HSL.out _ (ones_below ho0 hB.out)).mono ?_); rintro e w2 ⟨rfl, hd2⟩; have hB := hid_below hB hd2)
        | (go_at_call 11; (with_reducible refine (HSK.out _ (ones_below hk0 hB.out)).mono ?_); rintro e w2 ⟨rfl, hd2⟩; have hB := hid_below hB hd2)
        | (go_at_call 25; (with_reducible refine (HJ1.out _).mono ?_); rintro e w2 ⟨rfl, hd2⟩; have hB := hid_below hB hd2)
        | (go_at_call 25; (with_reducible refine (HJ2.out _).mono ?_); rintro e w2 ⟨rfl, hd2⟩; have hB := hid_below hB hd2)
      go_wp2_with fail
      refine hK.out _ _ ?_ (fun hHeld => ?_)
      · ((try dsimp only); go_split_ands; exact ⟨(hd2.cell (cell_lt (by assumption))).trans (by assumption), (hd2.cell (cell_lt (by assumption))).trans (by assumption), (hd2.cell (cell_lt (by assumption))).trans (by assumption), (hd2.cell (cell_lt (by assumption))).trans (by assumption)⟩)
      clear hK K
      try simp only [Act.put, List.setIfInBounds_toArray, List.set_cons_zero, List.set_cons_succ]
      refine wpAnyH_take (i := 26) (hi := by simp only [List.getElem?_toArray, List.getElem?_cons_succ, List.getElem?_cons_zero]; rfl) (v := ?_) (by kernel_rfl) (by kernel_rfl) (by kernel_rfl) (fun _ _ _ h => h) (Or.inl ⟨by rfl, ?_⟩) (by assumption) ?_
      rotate_left
      · (intro w hSw; (try dsimp only at hSw); go_simp; first | done | with_reducible rfl)
      try simp only [Act.put, List.setIfInBounds_toArray, List.set_cons_zero, List.set_cons_succ]
      refine wpAnyH_take (i := 27) (hi := by simp only [List.getElem?_toArray, List.getElem?_cons_succ, List.getElem?_cons_zero]; rfl) (v := ?_) (by kernel_rfl) (by kernel_rfl) (by kernel_rfl) (fun _ _ _ h => h) (Or.inl ⟨by rfl, ?_⟩) (by assumption) ?_
      rotate_left
      · (intro w hSw; (try dsimp only at hSw); go_simp; first | done | with_reducible rfl)
      try simp only [Act.put, List.setIfInBounds_toArray, List.set_cons_zero, List.set_cons_succ]
      refine wpAnyH_take (i := 28) (hi := by simp only [List.getElem?_toArray, List.getElem?_cons_succ, List.getElem?_cons_zero]; rfl) (v := ?_) (by kernel_rfl) (by kernel_rfl) (by kernel_rfl) (fun _ _ _ h => h) (Or.inl ⟨by rfl, ?_⟩) (by assumption) ?_
      rotate_left
      · (intro w hSw; (try dsimp only at hSw); go_simp; first | done | with_reducible rfl)
      try simp only [Act.put, List.setIfInBounds_toArray, List.set_cons_zero, List.set_cons_succ]
      refine wpAnyH_done (by kernel_rfl) ?_ _
      refine NoPanic.normal ?_
      go_wp2_with fail
      go_ret
      exact ⟨by simp, hB.out⟩
end Go.Proofs.Ytjddoohlmgacjaa.Mo

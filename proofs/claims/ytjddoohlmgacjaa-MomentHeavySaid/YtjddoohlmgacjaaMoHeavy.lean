/- The law MomentHeavy. -/
import Derived.Test.YtjddoohlmgacjaaMoE
import Derived.Test.YtjddoohlmgacjaaMoMeans
import Derived.Deep.CutRange
namespace Go.Proofs.Ytjddoohlmgacjaa.Mo
open Go.RowKit Go.Proofs.Ytjddoohlmgacjaa.Kit Go.Proofs.Ytjddoohlmgacjaa.Flo Go.IntWalk
set_option linter.unusedVariables false
set_option linter.unusedSimpArgs false
theorem sumP_zero : ∀ l : List One, sumW l = 0 → sumP l = 0
  | [], _ => rfl
  | o :: l, h => by
    have h1 := o.wt_bd
    have h2 := (sum_bd l).1
    simp only [sumW] at h
    have e1 : o.wt = 0 := by omega
    have e2 : sumW l = 0 := by omega
    simp only [sumP, e1, sumP_zero l e2, Int.zero_mul, Int.add_zero]
theorem mean_one {b wt lag : Int} (h : 0 < wt) : meanOf b (0 + wt) (0 + wt * lag) = b + lag := by
  unfold meanOf
  rw [if_neg (by omega), Int.zero_add, Int.zero_add, Int.mul_ediv_cancel_left _ (by omega)]
theorem mean_at {b W P : Int} (h : 0 < W) : meanOf b W P = b + P / W := by
  unfold meanOf
  rw [if_neg (by omega)]
theorem mean_up {W P wt lag : Int} (hW : 0 < W) (hw : 0 < wt) (h : P / W ≤ lag) : P / W ≤ (P + wt * lag) / (W + wt) ∧ (P + wt * lag) / (W + wt) ≤ lag := by
  have e := Int.mul_ediv_add_emod P W
  have e1 := Int.emod_nonneg P (by omega : W ≠ 0)
  have e2 := Int.emod_lt_of_pos P hW
  obtain ⟨q, hq⟩ : ∃ q, q = P / W := ⟨_, rfl⟩
  rw [← hq] at h e ⊢
  have k1 := Int.mul_le_mul_of_nonneg_right h (Int.le_of_lt hw)
  have k2 := Int.mul_le_mul_of_nonneg_right h (Int.le_of_lt hW)
  constructor
  · refine Int.le_ediv_of_mul_le (by omega) ?_
    rw [Int.mul_add, Int.mul_comm q W, Int.mul_comm wt lag]
    omega
  · have : (P + wt * lag) / (W + wt) < lag + 1 := by
      refine Int.ediv_lt_of_lt_mul (by omega) ?_
      rw [Int.add_mul, Int.mul_add, Int.mul_comm wt lag, Int.mul_comm q W] at *
      omega
    omega
theorem mean_down {W P wt lag : Int} (hW : 0 < W) (hw : 0 < wt) (h : ¬ P / W ≤ lag) : (P + wt * lag) / (W + wt) ≤ P / W ∧ lag ≤ (P + wt * lag) / (W + wt) := by
  have e := Int.mul_ediv_add_emod P W
  have e1 := Int.emod_nonneg P (by omega : W ≠ 0)
  have e2 := Int.emod_lt_of_pos P hW
  obtain ⟨q, hq⟩ : ∃ q, q = P / W := ⟨_, rfl⟩
  rw [← hq] at h e ⊢
  have k1 := Int.mul_le_mul_of_nonneg_right (show lag ≤ q by omega) (Int.le_of_lt hw)
  have k2 := Int.mul_le_mul_of_nonneg_right (show lag ≤ q by omega) (Int.le_of_lt hW)
  constructor
  · have : (P + wt * lag) / (W + wt) < q + 1 := by
      refine Int.ediv_lt_of_lt_mul (by omega) ?_
      rw [Int.add_mul, Int.mul_add, Int.mul_comm wt lag, Int.mul_comm q W] at *
      omega
    omega
  · refine Int.le_ediv_of_mul_le (by omega) ?_
    rw [Int.mul_add, Int.mul_comm q W, Int.mul_comm wt lag] at *
    omega
theorem one_cells {w : World} {g : Nat} {x y z : Value} (h : w.heap[g]? = some (.cells #[x, y, z] 31 (0, 0))) :
    w.cell? ⟨g, 0, none⟩ = some x ∧ w.cell? ⟨g, 1, none⟩ = some y ∧ w.cell? ⟨g, 2, none⟩ = some z :=
  ⟨(blk_cell h 0).trans rfl, (blk_cell h 1).trans rfl, (blk_cell h 2).trans rfl⟩
set_option maxHeartbeats 4000000 in
theorem heavyLaw_any (n : Int) (A : Option Addr) (l : List One) (cap : Nat) (o : One) (w : World) (ho : Hid (Ones w A l)) (hwf : ∀ o ∈ l, o.Wf) (hwo : o.Wf) :
    Calls Try.prog 4 #[.int .i64 n, .slice A l.length cap, o.val] w (ValPost w (.bool true)) := by
  have HAW := Kit.hid awake_any
  have HWT := Kit.hid (fun w' => wt_any o hwo w')
  have HBY := Kit.hid (fun w' => by_any o hwo w')
  unfold One.val at HWT HBY ⊢
  by_cases hl : 30 < l.length
  · have g1 : (30 : Int) < (l.length : Int) := by omega
    clear HWT HBY hwo
    go_enter Try.func4, Try.ntmps4
    go_wp2_with (go_at_call 9; refine (HAW.out _).mono ?_; rintro e w1 ⟨rfl, hd1⟩; have hb1 := ((Below.refl _ _).alloc (Nat.le_refl _) _).trans (hd1.mono (by simp)))
    go_ret
    exact ⟨rfl, hb1⟩
  · have g1 : ¬ (30 : Int) < (l.length : Int) := by omega
    by_cases hz : o.wt = 0
    · rw [hz] at HWT
      clear HBY hwo
      go_enter Try.func4, Try.ntmps4
      go_wp2_with (first
        | (go_at_call 9; refine (HAW.out _).mono ?_; rintro e w1 ⟨rfl, hd1⟩; have hb1 := Kit.hid (((Below.refl _ _).alloc (Nat.le_refl _) _).trans (hd1.mono (by simp))); obtain ⟨o0, o1, o2⟩ := one_cells (blk_below (blk_new w _) hd1))
        | (go_at_call 12; refine (HWT.out _).mono ?_; rintro e w2 ⟨rfl, hd2⟩))
      go_ret
      exact ⟨rfl, (hid_below hb1 hd2).out⟩
    · have HB := Kit.hid (based_any n)
      have hb := based_bd n
      obtain ⟨b, hb'⟩ : ∃ b, b = basedOf n := ⟨_, rfl⟩
      rw [← hb'] at HB hb
      clear hb'
      obtain ⟨W, hW⟩ : ∃ W, W = sumW l := ⟨_, rfl⟩
      obtain ⟨P, hP⟩ : ∃ P, P = sumP l := ⟨_, rfl⟩
      have hbd := sum_bd l
      rw [← hW, ← hP] at hbd
      have hbs : 0 ≤ W ∧ W ≤ 31457280 ∧ -32985348833280 ≤ P ∧ P ≤ 32985348833280 := by omega
      clear hbd
      have ob := o.wt_bd
      have lb := o.lag_bd
      have mb := mul_bd o
      have HS : Hid (∀ w', Hid (Ones w' A l) → Calls Try.prog 11 #[.int .i64 b, .slice A l.length cap] w' (ValPost w' (mo b W P))) :=
        Kit.hid (fun w' h => by rw [hW, hP]; exact summed_any b A l cap w' h hwf (by omega) (by omega))
      have HWG := Kit.hid (fun w' => weight_any b W (fi P) w' (by omega))
      have HME := Kit.hid (fun w' => mean_any b W P w' (by omega) (by omega) (by omega))
      have HAD : Hid (∀ w', Calls Try.prog 17 #[mo b W P, .int .i64 (b + o.lag), .int .i64 o.wt] w' (ValPost w' (mo b (W + o.wt) (P + o.wt * o.lag)))) :=
        Kit.hid (fun w' => add_any b W P (b + o.lag) o.wt o.lag w' (by omega) (by omega) ob.1 (by omega) (by rw [← Int.natAbs_mul]; omega) (by omega) (by omega) (by omega) (by omega))
      have HNM := Kit.hid (fun w' => mean_any b (W + o.wt) (P + o.wt * o.lag) w' (by omega) (by omega) (by omega))
      have HWE := Kit.hid hW
      have HPE := Kit.hid hP
      have hst := store_complex
      have r1 : IntKind.i64.wrap (b + o.lag) = b + o.lag := i64_in _ (by omega)
      have r2 : wrap64 (b + o.lag) = b + o.lag := by unfold wrap64; omega
      have W0 := hbs.1
      obtain ⟨wt, hwt⟩ : ∃ x, x = o.wt := ⟨_, rfl⟩
      obtain ⟨lag, hlag⟩ : ∃ x, x = o.lag := ⟨_, rfl⟩
      rw [← hwt] at HWT HAD HNM hz ob mb
      rw [← hlag] at HBY HAD HNM r1 r2 lb mb
      have wpos : 0 < wt := by omega
      have hzb : (wt == 0) = false := by simp [hz]
      have hgb : decide (30 < (l.length : Int)) = false := by simp; omega
      clear hwf hbs hW hP hwt hlag ob lb mb hb hwo
      unfold mo at HS HME HAD HNM
      go_enter Try.func4, Try.ntmps4
      go_upto_region 7 with (first
        | (go_at_call 9; refine (HAW.out _).mono ?_; rintro e w1 ⟨rfl, hd1⟩; have hb1 := Kit.hid (((Below.refl _ _).alloc (Nat.le_refl _) _).trans (hd1.mono (by simp))); have HO1 := Kit.hid (blk_below (blk_new w _) hd1); obtain ⟨o0, o1, o2⟩ := one_cells HO1.out)
        | (go_at_call 12; refine (HWT.out _).mono ?_; rintro e w2 ⟨rfl, hd2⟩; have hb2 := hid_below hb1 hd2; have HO2 := Kit.hid (blk_below HO1.out hd2))
        | (go_at_call 10; refine (HB.out _).mono ?_; rintro e w9 ⟨rfl, rfl⟩)
        | (go_at_call 11; refine (HS.out _ (ones_below ho hb2.out)).mono ?_; rintro e w3 ⟨rfl, hd3⟩; have hb3 := hid_below hb2 hd3; have HO3 := Kit.hid (blk_alloc (blk_below HO2.out hd3) (.cells #[.int .i64 b, .complex .f64 (fi W) (fi P)] 27)); obtain ⟨o0, o1, o2⟩ := one_cells HO3.out)
        | (go_at_call 13; refine (HBY.out _).mono ?_; rintro e w4 ⟨rfl, hd4⟩))
      have HM4 := Kit.hid (blk_below (blk_new w3 (.cells #[.int .i64 b, .complex .f64 (fi W) (fi P)] 27)) hd4)
      have HO4 := Kit.hid (blk_below HO3.out hd4)
      have hb4 : Hid (Below w.heap.size w w4) := Kit.hid ((hb3.out.alloc hb3.out.size _).trans (hd4.mono (by have := hb3.out.size; simp; omega)))
      obtain ⟨g, hg⟩ : ∃ g, g = w3.heap.size := ⟨_, rfl⟩
      rw [← hg] at HM4 ⊢
      have HGW : Hid (w.heap.size ≤ g) := Kit.hid (by rw [hg]; exact hb3.out.size)
      clear hg HO3 o0 o1 o2 hd4
      go_cut [11] from 32 to 36 (fun v11 wx => ∃ gn, v11 = .pointer (some ⟨gn, 0, none⟩) ∧ Hid (wx.heap[gn]? = some (.cells #[.int .i64 b, .complex .f64 (fi (W + wt)) (fi (P + wt * lag))] 27 (0, 0))) ∧ Hid (wx.heap[g]? = some (.cells #[.int .i64 b, .complex .f64 (fi W) (fi P)] 27 (0, 0))) ∧ Hid (Below w.heap.size w wx))
      case first =>
        obtain ⟨c0, c1, _, _, _, _⟩ := own_block HM4.out (.int .i64 b)
        obtain ⟨o0, o1, o2⟩ := one_cells HO4.out
        have hgw : w.heap.size ≤ g := HGW.out
        have hb4d := Kit.hid hb4.out.drew
        have HM4d : Hid (w4.drew.heap[g]? = some (.cells #[.int .i64 b, .complex .f64 (fi W) (fi P)] 27 (0, 0))) := HM4
        have n1 : w4.heap.size ≠ g := Nat.ne_of_gt (blk_lt HM4.out)
        have n2 : w4.heap.size ≠ w.heap.size := Nat.ne_of_gt (blk_lt HO4.out)
        go_region_held3 (fun w' => w'.cell? ⟨g, 0, none⟩ = some (.int .i64 b) ∧ w'.cell? ⟨g, 1, none⟩ = some (.complex .f64 (fi W) (fi P)) ∧ w'.cell? ⟨w.heap.size, 0, none⟩ = some (.int .i32 o.b) ∧ w'.cell? ⟨w.heap.size, 1, none⟩ = some (.int .u32 o.w) ∧ w'.cell? ⟨w.heap.size, 2, none⟩ = some (.bool o.out))
          (first
            | exact ⟨c0, c1, o0, o1, o2⟩
            | (go_split_ands; exact ⟨by assumption, by assumption, by assumption, by assumption, by assumption⟩)
            | (go_split_ands; exact ⟨(hd6.cell (cell_lt (by assumption))).trans (by assumption), (hd6.cell (cell_lt (by assumption))).trans (by assumption), (hd6.cell (cell_lt (by assumption))).trans (by assumption), (hd6.cell (cell_lt (by assumption))).trans (by assumption), (hd6.cell (cell_lt (by assumption))).trans (by assumption)⟩)
            | (go_split_ands; exact ⟨(hd5.cell (cell_lt (by assumption))).trans (by assumption), (hd5.cell (cell_lt (by assumption))).trans (by assumption), (hd5.cell (cell_lt (by assumption))).trans (by assumption), (hd5.cell (cell_lt (by assumption))).trans (by assumption), (hd5.cell (cell_lt (by assumption))).trans (by assumption)⟩)
            | exact ⟨(own_block (blk_alloc b6.out _) (.int .i64 b)).1, (own_block (blk_alloc b6.out _) (.int .i64 b)).2.1, (one_cells (blk_alloc bo6.out _)).1, (one_cells (blk_alloc bo6.out _)).2.1, (one_cells (blk_alloc bo6.out _)).2.2⟩
            | exact ⟨(own_block (blk_far (blk_far bm.out (p := ⟨_, 0, none⟩) hne.out _) (p := ⟨_, 1, none⟩) hne.out _) (.int .i64 b)).1, (own_block (blk_far (blk_far bm.out (p := ⟨_, 0, none⟩) hne.out _) (p := ⟨_, 1, none⟩) hne.out _) (.int .i64 b)).2.1, (one_cells (blk_far (blk_far bo6.out (p := ⟨_, 0, none⟩) hno.out _) (p := ⟨_, 1, none⟩) hno.out _)).1, (one_cells (blk_far (blk_far bo6.out (p := ⟨_, 0, none⟩) hno.out _) (p := ⟨_, 1, none⟩) hno.out _)).2.1, (one_cells (blk_far (blk_far bo6.out (p := ⟨_, 0, none⟩) hno.out _) (p := ⟨_, 1, none⟩) hno.out _)).2.2⟩
            | exact ⟨(own_block (blk_alloc b5.out _) (.int .i64 b)).1, (own_block (blk_alloc b5.out _) (.int .i64 b)).2.1, (one_cells (blk_alloc bo5.out _)).1, (one_cells (blk_alloc bo5.out _)).2.1, (one_cells (blk_alloc bo5.out _)).2.2⟩
            | exact ⟨(own_block (blk_alloc HM4d.out _) (.int .i64 b)).1, (own_block (blk_alloc HM4d.out _) (.int .i64 b)).2.1, (one_cells (blk_alloc (w := w4.drew) HO4.out _)).1, (one_cells (blk_alloc (w := w4.drew) HO4.out _)).2.1, (one_cells (blk_alloc (w := w4.drew) HO4.out _)).2.2⟩)
          (first
          | (go_at_call 12; refine (HWT.out _).mono ?_; rintro e w5 ⟨rfl, hd5⟩
             first
               | (have bz : Hid (w5.heap[w4.heap.size]? = some (.cells #[.int .i64 0, .complex .f64 0 0] 27 (0, 0))) := Kit.hid (blk_below (blk_new w4.drew (.cells #[.int .i64 0, .complex .f64 0 0] 27)) hd5)
                  have b5 := Kit.hid (blk_below (blk_alloc HM4d.out (.cells #[.int .i64 0, .complex .f64 0 0] 27)) hd5)
                  have bo5 := Kit.hid (blk_below (blk_alloc (w := w4.drew) HO4.out (.cells #[.int .i64 0, .complex .f64 0 0] 27)) hd5)
                  have hb5 := hid_below (Kit.hid (hb4d.out.alloc hb4d.out.size (.cells #[.int .i64 0, .complex .f64 0 0] 27))) hd5
                  have hne : Hid (g ≠ w4.heap.size) := Kit.hid (Nat.ne_of_lt (blk_lt HM4d.out))
                  have hle : Hid (w.heap.size ≤ w4.heap.size) := Kit.hid hb4d.out.size
                  have hno : Hid (w.heap.size ≠ w4.heap.size) := Kit.hid (Ne.symm n2))
               | (have b5 := Kit.hid (blk_below HM4d.out hd5)
                  have bo5 := Kit.hid (blk_below (w := w4.drew) HO4.out hd5)
                  have hb5 := hid_below hb4d hd5)
             have n3 : w5.heap.size ≠ g := Nat.ne_of_gt (blk_lt b5.out)
             have n4 : w5.heap.size ≠ w.heap.size := Nat.ne_of_gt (blk_lt bo5.out))
          | (go_at_call 17; refine (HAD.out _).mono ?_; rintro e w6 ⟨rfl, hd6⟩
             first
               | (have bz := Kit.hid (blk_below bz.out hd6)
                  have bm := Kit.hid (blk_below b5.out hd6)
                  have bo6 := Kit.hid (blk_below bo5.out hd6)
                  have hbz := hid_below hb5 hd6
                  obtain ⟨f0, f1, z0, z1, f2, z2⟩ := own_block bz.out (.int .i64 b))
               | (have bz := Kit.hid (blk_below (blk_new w5 (.cells #[.int .i64 0, .complex .f64 0 0] 27)) hd6)
                  have bm := Kit.hid (blk_below (blk_alloc b5.out (.cells #[.int .i64 0, .complex .f64 0 0] 27)) hd6)
                  have bo6 := Kit.hid (blk_below (blk_alloc bo5.out (.cells #[.int .i64 0, .complex .f64 0 0] 27)) hd6)
                  have hbz := hid_below (Kit.hid (hb5.out.alloc hb5.out.size (.cells #[.int .i64 0, .complex .f64 0 0] 27))) hd6
                  have hne : Hid (g ≠ w5.heap.size) := Kit.hid (Nat.ne_of_lt (blk_lt b5.out))
                  have hle := Kit.hid hb5.out.size
                  have hno : Hid (w.heap.size ≠ w5.heap.size) := Kit.hid (Ne.symm n4)
                  obtain ⟨f0, f1, z0, z1, f2, z2⟩ := own_block bz.out (.int .i64 b))
               | (have hb6 := hid_below hb5 hd6
                  have b6 := Kit.hid (blk_below b5.out hd6)
                  have bo6 := Kit.hid (blk_below bo5.out hd6))
             have n5 : w6.heap.size ≠ g := Nat.ne_of_gt (by first | exact blk_lt b6.out | exact blk_lt bm.out)
             have n6 : w6.heap.size ≠ w.heap.size := Nat.ne_of_gt (blk_lt bo6.out)))
        all_goals
          go_wp2_with fail
          go_meet
          first
            | (obtain ⟨_, _, hn⟩ := own_done bz.out (.int .i64 b) (.complex .f64 (fi (W + wt)) (fi (P + wt * lag)))
               exact ⟨_, rfl, Kit.hid hn, Kit.hid (blk_far (blk_far bm.out (p := ⟨_, 0, none⟩) hne.out (.int .i64 b)) (p := ⟨_, 1, none⟩) hne.out (.complex .f64 (fi (W + wt)) (fi (P + wt * lag)))), Kit.hid ((hbz.out.setCell (p := ⟨_, 0, none⟩) hle.out (.int .i64 b)).setCell (p := ⟨_, 1, none⟩) hle.out _)⟩)
            | exact ⟨_, rfl, Kit.hid (blk_new w6 (.cells #[.int .i64 b, .complex .f64 (fi (W + wt)) (fi (P + wt * lag))] 27)), Kit.hid (blk_alloc b6.out (.cells #[.int .i64 b, .complex .f64 (fi (W + wt)) (fi (P + wt * lag))] 27)), Kit.hid (hb6.out.alloc hb6.out.size _)⟩
            | trace_state
      case rest =>
        obtain ⟨gn, rfl, hn7, hm7, hb7⟩ := hcut
        obtain ⟨c0, c1, _, _, _, _⟩ := own_block hm7.out (.int .i64 b)
        obtain ⟨s0, s1, _, _, _, _⟩ := own_block hn7.out (.int .i64 b)
        clear HM4 HO4 hb4
        by_cases hW0 : W = 0
        · subst hW0
          have hP0 : P = 0 := by rw [HPE.out]; exact sumP_zero l HWE.out.symm
          rw [hP0, mean_one wpos] at HNM
          subst hP0
          simp only [Int.zero_add] at HNM hn7
          obtain ⟨s0, s1, _, _, _, _⟩ := own_block hn7.out (.int .i64 b)
          clear HME HAD
          go_wp2_with (first
            | (go_at_call 14; refine (HWG.out _).mono ?_; rintro e w8 ⟨rfl, hd8⟩; have hb8 := hid_below hb7 hd8; obtain ⟨s0, s1, _, _, _, _⟩ := own_block (blk_below hn7.out hd8) (.int .i64 b))
            | (go_at_call 15; refine (HNM.out _).mono ?_; rintro e w9 ⟨rfl, hd9⟩))
          go_ret
          exact ⟨by simp, (hid_below hb8 hd9).out⟩
        · have Wpos : 0 < W := by omega
          have hWb : (W == 0) = false := by simp [hW0]
          have hup := @mean_up W P wt lag Wpos wpos
          have hdn := @mean_down W P wt lag Wpos wpos
          rw [mean_at (by omega)] at HME
          rw [mean_at (by omega)] at HNM
          obtain ⟨q, hq⟩ : ∃ q, q = P / W := ⟨_, rfl⟩
          obtain ⟨q2, hq2⟩ : ∃ q2, q2 = (P + wt * lag) / (W + wt) := ⟨_, rfl⟩
          rw [← hq] at HME hup hdn
          rw [← hq2] at HNM hup hdn
          clear hq hq2 HAD
          by_cases hu : q ≤ lag
          · have m0 : b + q ≤ b + lag := by omega
            have m1 : b + q ≤ b + q2 := by have := (hup hu).1; omega
            have m2 : b + q2 ≤ b + lag := by have := (hup hu).2; omega
            clear hup hdn hu
            go_wp2_with (first
              | (go_at_call 14; refine (HWG.out _).mono ?_; rintro e w8 ⟨rfl, hd8⟩; have hb7 := hid_below hb7 hd8; have hm7 := Kit.hid (blk_below hm7.out hd8); have hn7 := Kit.hid (blk_below hn7.out hd8); obtain ⟨c0, c1, _, _, _, _⟩ := own_block hm7.out (.int .i64 b); obtain ⟨s0, s1, _, _, _, _⟩ := own_block hn7.out (.int .i64 b))
              | (go_at_call 15; (with_reducible refine (HME.out _).mono ?_); rintro e w9 ⟨rfl, hd9⟩; have hb7 := hid_below hb7 hd9; have hm7 := Kit.hid (blk_below hm7.out hd9); have hn7 := Kit.hid (blk_below hn7.out hd9); obtain ⟨c0, c1, _, _, _, _⟩ := own_block hm7.out (.int .i64 b); obtain ⟨s0, s1, _, _, _, _⟩ := own_block hn7.out (.int .i64 b)))
            refine wp_region_noPanic ?_
            refine wp_region_held_drew (S := fun w' => w'.cell? ⟨g, 0, none⟩ = some (.int .i64 b) ∧ w'.cell? ⟨g, 1, none⟩ = some (.complex .f64 (fi W) (fi P)) ∧ w'.cell? ⟨gn, 0, none⟩ = some (.int .i64 b) ∧ w'.cell? ⟨gn, 1, none⟩ = some (.complex .f64 (fi (W + wt)) (fi (P + wt * lag))) ∧ Hid (Below w.heap.size w w')) (by kernel_rfl) ⟨c0, c1, s0, s1, Kit.hid hb7.out.drew⟩ (fun hHeld => ?_)
            refine wpAnyH_take (i := 0) (hi := by simp only [List.getElem?_toArray, List.getElem?_cons_succ, List.getElem?_cons_zero]; rfl) (v := ?_) (by kernel_rfl) (by kernel_rfl) (by kernel_rfl) (fun _ _ _ h => h) (Or.inl ⟨by rfl, ?_⟩) (by assumption) ?_
            rotate_left
            · (intro w hSw; (try dsimp only at hSw); go_simp; first | done | with_reducible rfl)
            try simp only [Act.put, List.setIfInBounds_toArray, List.set_cons_zero, List.set_cons_succ]
            refine wpAnyH_take (i := 1) (hi := by simp only [List.getElem?_toArray, List.getElem?_cons_succ, List.getElem?_cons_zero]; rfl) (v := ?_) (by kernel_rfl) (by kernel_rfl) (by kernel_rfl) (fun _ _ _ h => h) (Or.inl ⟨by rfl, ?_⟩) (by assumption) ?_
            rotate_left
            · (intro w hSw; (try dsimp only at hSw); go_simp; first | done | with_reducible rfl)
            try simp only [Act.put, List.setIfInBounds_toArray, List.set_cons_zero, List.set_cons_succ]
            refine wpAnyH_take (i := 2) (hi := by simp only [List.getElem?_toArray, List.getElem?_cons_succ, List.getElem?_cons_zero]; rfl) (v := ?_) (by kernel_rfl) (by kernel_rfl) (by kernel_rfl) (fun _ _ _ h => h) (Or.inl ⟨by rfl, ?_⟩) (by assumption) ?_
            rotate_left
            · (intro w hSw; (try dsimp only at hSw); go_simp; first | done | with_reducible rfl)
            try simp only [Act.put, List.setIfInBounds_toArray, List.set_cons_zero, List.set_cons_succ]
            refine wpAnyH_take (i := 3) (hi := by simp only [List.getElem?_toArray, List.getElem?_cons_succ, List.getElem?_cons_zero]; rfl) (v := ?_) (by kernel_rfl) (by kernel_rfl) (by kernel_rfl) (fun _ _ _ h => h) (Or.inl ⟨by rfl, ?_⟩) (by assumption) ?_
            rotate_left
            · (intro w hSw; (try dsimp only at hSw); go_simp; first | done | with_reducible rfl)
            try simp only [Act.put, List.setIfInBounds_toArray, List.set_cons_zero, List.set_cons_succ]
            refine wpAnyH_take (i := 4) (hi := by simp only [List.getElem?_toArray, List.getElem?_cons_succ, List.getElem?_cons_zero]; rfl) (v := ?_) (by kernel_rfl) (by kernel_rfl) (by kernel_rfl) (fun _ _ _ h => h) (Or.inl ⟨by rfl, ?_⟩) (by assumption) ?_
            rotate_left
            · (intro w hSw; (try dsimp only at hSw); go_simp; first | done | with_reducible rfl)
            try simp only [Act.put, List.setIfInBounds_toArray, List.set_cons_zero, List.set_cons_succ]
            refine wpAnyH_take (i := 5) (hi := by simp only [List.getElem?_toArray, List.getElem?_cons_succ, List.getElem?_cons_zero]; rfl) (v := ?_) (by kernel_rfl) (by kernel_rfl) (by kernel_rfl) (fun _ _ _ h => h) (Or.inl ⟨by rfl, ?_⟩) (by assumption) ?_
            rotate_left
            · (intro w hSw; (try dsimp only at hSw); go_simp; first | done | with_reducible rfl)
            try simp only [Act.put, List.setIfInBounds_toArray, List.set_cons_zero, List.set_cons_succ]
            refine wpAnyH_take (i := 7) (hi := by simp only [List.getElem?_toArray, List.getElem?_cons_succ, List.getElem?_cons_zero]; rfl) (v := ?_) (by kernel_rfl) (by kernel_rfl) (by kernel_rfl) (fun _ _ _ h => h) (Or.inl ⟨by rfl, ?_⟩) (by assumption) ?_
            rotate_left
            · (intro w hSw; (try dsimp only at hSw); go_simp; first | done | with_reducible rfl)
            try simp only [Act.put, List.setIfInBounds_toArray, List.set_cons_zero, List.set_cons_succ]
            refine wpAnyH_ready (rs := [6]) (by kernel_rfl) (by simp) ?_
            refine AllReadyH.cons (ho := by simp only [List.getElem?_toArray, List.getElem?_cons_succ, List.getElem?_cons_zero]; rfl) (fun K hK => ?_) AllReadyH.nil
            go_simp
            first
              | (go_at_call 15; (with_reducible refine (HME.out _).mono ?_); rintro e w2 ⟨rfl, hd2⟩)
              | (go_at_call 15; (with_reducible refine (HNM.out _).mono ?_); rintro e w2 ⟨rfl, hd2⟩)
            go_wp2_with fail
            refine hK.out _ _ ?_ (fun hHeld => ?_)
            · ((try dsimp only); go_split_ands; exact ⟨(hd2.cell (cell_lt (by assumption))).trans (by assumption), (hd2.cell (cell_lt (by assumption))).trans (by assumption), (hd2.cell (cell_lt (by assumption))).trans (by assumption), (hd2.cell (cell_lt (by assumption))).trans (by assumption), hid_below (by assumption) hd2⟩)
            clear hK K
            try simp only [Act.put, List.setIfInBounds_toArray, List.set_cons_zero, List.set_cons_succ]
            refine wpAnyH_ready (rs := [8]) (by kernel_rfl) (by simp) ?_
            refine AllReadyH.cons (ho := by simp only [List.getElem?_toArray, List.getElem?_cons_succ, List.getElem?_cons_zero]; rfl) (fun K hK => ?_) AllReadyH.nil
            go_simp
            first
              | (go_at_call 15; (with_reducible refine (HME.out _).mono ?_); rintro e w2 ⟨rfl, hd2⟩)
              | (go_at_call 15; (with_reducible refine (HNM.out _).mono ?_); rintro e w2 ⟨rfl, hd2⟩)
            go_wp2_with fail
            refine hK.out _ _ ?_ (fun hHeld => ?_)
            · ((try dsimp only); go_split_ands; exact ⟨(hd2.cell (cell_lt (by assumption))).trans (by assumption), (hd2.cell (cell_lt (by assumption))).trans (by assumption), (hd2.cell (cell_lt (by assumption))).trans (by assumption), (hd2.cell (cell_lt (by assumption))).trans (by assumption), hid_below (by assumption) hd2⟩)
            clear hK K
            try simp only [Act.put, List.setIfInBounds_toArray, List.set_cons_zero, List.set_cons_succ]
            refine wpAnyH_take (i := 9) (hi := by simp only [List.getElem?_toArray, List.getElem?_cons_succ, List.getElem?_cons_zero]; rfl) (v := ?_) (by kernel_rfl) (by kernel_rfl) (by kernel_rfl) (fun _ _ _ h => h) (Or.inl ⟨by rfl, ?_⟩) (by assumption) ?_
            rotate_left
            · (intro w hSw; (try dsimp only at hSw); go_simp; first | done | with_reducible rfl)
            try simp only [Act.put, List.setIfInBounds_toArray, List.set_cons_zero, List.set_cons_succ]
            refine wpAnyH_take (i := 10) (hi := by simp only [List.getElem?_toArray, List.getElem?_cons_succ, List.getElem?_cons_zero]; rfl) (v := ?_) (by kernel_rfl) (by kernel_rfl) (by kernel_rfl) (fun _ _ _ h => h) (Or.inl ⟨by rfl, ?_⟩) (by assumption) ?_
            rotate_left
            · (intro w hSw; (try dsimp only at hSw); go_simp; first | done | with_reducible rfl)
            try simp only [Act.put, List.setIfInBounds_toArray, List.set_cons_zero, List.set_cons_succ]
            refine wpAnyH_take (i := 11) (hi := by simp only [List.getElem?_toArray, List.getElem?_cons_succ, List.getElem?_cons_zero]; rfl) (v := ?_) (by kernel_rfl) (by kernel_rfl) (by kernel_rfl) (fun _ _ _ h => h) (Or.inl ⟨by rfl, ?_⟩) (by assumption) ?_
            rotate_left
            · (intro w hSw; (try dsimp only at hSw); go_simp; first | done | with_reducible rfl)
            try simp only [Act.put, List.setIfInBounds_toArray, List.set_cons_zero, List.set_cons_succ]
            refine wpAnyH_take (i := 13) (hi := by simp only [List.getElem?_toArray, List.getElem?_cons_succ, List.getElem?_cons_zero]; rfl) (v := ?_) (by kernel_rfl) (by kernel_rfl) (by kernel_rfl) (fun _ _ _ h => h) (Or.inl ⟨by rfl, ?_⟩) (by assumption) ?_
            rotate_left
            · (intro w hSw; (try dsimp only at hSw); go_simp; first | done | with_reducible rfl)
            try simp only [Act.put, List.setIfInBounds_toArray, List.set_cons_zero, List.set_cons_succ]
            refine wpAnyH_ready (rs := [12]) (by kernel_rfl) (by simp) ?_
            refine AllReadyH.cons (ho := by simp only [List.getElem?_toArray, List.getElem?_cons_succ, List.getElem?_cons_zero]; rfl) (fun K hK => ?_) AllReadyH.nil
            go_simp
            first
              | (go_at_call 15; (with_reducible refine (HME.out _).mono ?_); rintro e w2 ⟨rfl, hd2⟩)
              | (go_at_call 15; (with_reducible refine (HNM.out _).mono ?_); rintro e w2 ⟨rfl, hd2⟩)
            go_wp2_with fail
            refine hK.out _ _ ?_ (fun hHeld => ?_)
            · ((try dsimp only); go_split_ands; exact ⟨(hd2.cell (cell_lt (by assumption))).trans (by assumption), (hd2.cell (cell_lt (by assumption))).trans (by assumption), (hd2.cell (cell_lt (by assumption))).trans (by assumption), (hd2.cell (cell_lt (by assumption))).trans (by assumption), hid_below (by assumption) hd2⟩)
            clear hK K
            try simp only [Act.put, List.setIfInBounds_toArray, List.set_cons_zero, List.set_cons_succ]
            refine wpAnyH_take (i := 14) (hi := by simp only [List.getElem?_toArray, List.getElem?_cons_succ, List.getElem?_cons_zero]; rfl) (v := ?_) (by kernel_rfl) (by kernel_rfl) (by kernel_rfl) (fun _ _ _ h => h) (Or.inl ⟨by rfl, ?_⟩) (by assumption) ?_
            rotate_left
            · (intro w hSw; (try dsimp only at hSw); go_simp; first | done | with_reducible rfl)
            try simp only [Act.put, List.setIfInBounds_toArray, List.set_cons_zero, List.set_cons_succ]
            refine wpAnyH_take (i := 15) (hi := by simp only [List.getElem?_toArray, List.getElem?_cons_succ, List.getElem?_cons_zero]; rfl) (v := ?_) (by kernel_rfl) (by kernel_rfl) (by kernel_rfl) (fun _ _ _ h => h) (Or.inl ⟨by rfl, ?_⟩) (by assumption) ?_
            rotate_left
            · (intro w hSw; (try dsimp only at hSw); go_simp; first | done | with_reducible rfl)
            try simp only [Act.put, List.setIfInBounds_toArray, List.set_cons_zero, List.set_cons_succ]
            refine wpAnyH_take (i := 16) (hi := by simp only [List.getElem?_toArray, List.getElem?_cons_succ, List.getElem?_cons_zero]; rfl) (v := ?_) (by kernel_rfl) (by kernel_rfl) (by kernel_rfl) (fun _ _ _ h => h) (Or.inl ⟨by rfl, ?_⟩) (by assumption) ?_
            rotate_left
            · (intro w hSw; (try dsimp only at hSw); go_simp; first | done | with_reducible rfl)
            try simp only [Act.put, List.setIfInBounds_toArray, List.set_cons_zero, List.set_cons_succ]
            refine wpAnyH_take (i := 17) (hi := by simp only [List.getElem?_toArray, List.getElem?_cons_succ, List.getElem?_cons_zero]; rfl) (v := ?_) (by kernel_rfl) (by kernel_rfl) (by kernel_rfl) (fun _ _ _ h => h) (Or.inl ⟨by rfl, ?_⟩) (by assumption) ?_
            rotate_left
            · (intro w hSw; (try dsimp only at hSw); go_simp; first | done | with_reducible rfl)
            try simp only [Act.put, List.setIfInBounds_toArray, List.set_cons_zero, List.set_cons_succ]
            refine wpAnyH_take (i := 18) (hi := by simp only [List.getElem?_toArray, List.getElem?_cons_succ, List.getElem?_cons_zero]; rfl) (v := ?_) (by kernel_rfl) (by kernel_rfl) (by kernel_rfl) (fun _ _ _ h => h) (Or.inl ⟨by rfl, ?_⟩) (by assumption) ?_
            rotate_left
            · (intro w hSw; (try dsimp only at hSw); go_simp; first | done | with_reducible rfl)
            try simp only [Act.put, List.setIfInBounds_toArray, List.set_cons_zero, List.set_cons_succ]
            refine wpAnyH_take (i := 19) (hi := by simp only [List.getElem?_toArray, List.getElem?_cons_succ, List.getElem?_cons_zero]; rfl) (v := ?_) (by kernel_rfl) (by kernel_rfl) (by kernel_rfl) (fun _ _ _ h => h) (Or.inl ⟨by rfl, ?_⟩) (by assumption) ?_
            rotate_left
            · (intro w hSw; (try dsimp only at hSw); go_simp; first | done | with_reducible rfl)
            try simp only [Act.put, List.setIfInBounds_toArray, List.set_cons_zero, List.set_cons_succ]
            refine wpAnyH_take (i := 20) (hi := by simp only [List.getElem?_toArray, List.getElem?_cons_succ, List.getElem?_cons_zero]; rfl) (v := ?_) (by kernel_rfl) (by kernel_rfl) (by kernel_rfl) (fun _ _ _ h => h) (Or.inl ⟨by rfl, ?_⟩) (by assumption) ?_
            rotate_left
            · (intro w hSw; (try dsimp only at hSw); go_simp; first | done | with_reducible rfl)
            try simp only [Act.put, List.setIfInBounds_toArray, List.set_cons_zero, List.set_cons_succ]
            refine wpAnyH_take (i := 21) (hi := by simp only [List.getElem?_toArray, List.getElem?_cons_succ, List.getElem?_cons_zero]; rfl) (v := undef) (by kernel_rfl) (by kernel_rfl) (by kernel_rfl) (fun _ _ _ h => h) (Or.inr ⟨by rfl, rfl⟩) (by assumption) ?_
            try simp only [Act.put, List.setIfInBounds_toArray, List.set_cons_zero, List.set_cons_succ]
            refine wpAnyH_take (i := 22) (hi := by simp only [List.getElem?_toArray, List.getElem?_cons_succ, List.getElem?_cons_zero]; rfl) (v := undef) (by kernel_rfl) (by kernel_rfl) (by kernel_rfl) (fun _ _ _ h => h) (Or.inr ⟨by rfl, rfl⟩) (by assumption) ?_
            try simp only [Act.put, List.setIfInBounds_toArray, List.set_cons_zero, List.set_cons_succ]
            refine wpAnyH_take (i := 23) (hi := by simp only [List.getElem?_toArray, List.getElem?_cons_succ, List.getElem?_cons_zero]; rfl) (v := undef) (by kernel_rfl) (by kernel_rfl) (by kernel_rfl) (fun _ _ _ h => h) (Or.inr ⟨by rfl, rfl⟩) (by assumption) ?_
            try simp only [Act.put, List.setIfInBounds_toArray, List.set_cons_zero, List.set_cons_succ]
            refine wpAnyH_take (i := 24) (hi := by simp only [List.getElem?_toArray, List.getElem?_cons_succ, List.getElem?_cons_zero]; rfl) (v := undef) (by kernel_rfl) (by kernel_rfl) (by kernel_rfl) (fun _ _ _ h => h) (Or.inr ⟨by rfl, rfl⟩) (by assumption) ?_
            try simp only [Act.put, List.setIfInBounds_toArray, List.set_cons_zero, List.set_cons_succ]
            refine wpAnyH_take (i := 25) (hi := by simp only [List.getElem?_toArray, List.getElem?_cons_succ, List.getElem?_cons_zero]; rfl) (v := undef) (by kernel_rfl) (by kernel_rfl) (by kernel_rfl) (fun _ _ _ h => h) (Or.inr ⟨by rfl, rfl⟩) (by assumption) ?_
            try simp only [Act.put, List.setIfInBounds_toArray, List.set_cons_zero, List.set_cons_succ]
            refine wpAnyH_take (i := 26) (hi := by simp only [List.getElem?_toArray, List.getElem?_cons_succ, List.getElem?_cons_zero]; rfl) (v := undef) (by kernel_rfl) (by kernel_rfl) (by kernel_rfl) (fun _ _ _ h => h) (Or.inr ⟨by rfl, rfl⟩) (by assumption) ?_
            try simp only [Act.put, List.setIfInBounds_toArray, List.set_cons_zero, List.set_cons_succ]
            refine wpAnyH_take (i := 27) (hi := by simp only [List.getElem?_toArray, List.getElem?_cons_succ, List.getElem?_cons_zero]; rfl) (v := undef) (by kernel_rfl) (by kernel_rfl) (by kernel_rfl) (fun _ _ _ h => h) (Or.inr ⟨by rfl, rfl⟩) (by assumption) ?_
            try simp only [Act.put, List.setIfInBounds_toArray, List.set_cons_zero, List.set_cons_succ]
            refine wpAnyH_take (i := 28) (hi := by simp only [List.getElem?_toArray, List.getElem?_cons_succ, List.getElem?_cons_zero]; rfl) (v := undef) (by kernel_rfl) (by kernel_rfl) (by kernel_rfl) (fun _ _ _ h => h) (Or.inr ⟨by rfl, rfl⟩) (by assumption) ?_
            try simp only [Act.put, List.setIfInBounds_toArray, List.set_cons_zero, List.set_cons_succ]
            refine wpAnyH_take (i := 29) (hi := by simp only [List.getElem?_toArray, List.getElem?_cons_succ, List.getElem?_cons_zero]; rfl) (v := undef) (by kernel_rfl) (by kernel_rfl) (by kernel_rfl) (fun _ _ _ h => h) (Or.inr ⟨by rfl, rfl⟩) (by assumption) ?_
            try simp only [Act.put, List.setIfInBounds_toArray, List.set_cons_zero, List.set_cons_succ]
            refine wpAnyH_take (i := 30) (hi := by simp only [List.getElem?_toArray, List.getElem?_cons_succ, List.getElem?_cons_zero]; rfl) (v := undef) (by kernel_rfl) (by kernel_rfl) (by kernel_rfl) (fun _ _ _ h => h) (Or.inr ⟨by rfl, rfl⟩) (by assumption) ?_
            try simp only [Act.put, List.setIfInBounds_toArray, List.set_cons_zero, List.set_cons_succ]
            refine wpAnyH_take (i := 31) (hi := by simp only [List.getElem?_toArray, List.getElem?_cons_succ, List.getElem?_cons_zero]; rfl) (v := undef) (by kernel_rfl) (by kernel_rfl) (by kernel_rfl) (fun _ _ _ h => h) (Or.inr ⟨by rfl, rfl⟩) (by assumption) ?_
            try simp only [Act.put, List.setIfInBounds_toArray, List.set_cons_zero, List.set_cons_succ]
            refine wpAnyH_take (i := 32) (hi := by simp only [List.getElem?_toArray, List.getElem?_cons_succ, List.getElem?_cons_zero]; rfl) (v := ?_) (by kernel_rfl) (by kernel_rfl) (by kernel_rfl) (fun _ _ _ h => h) (Or.inl ⟨by rfl, ?_⟩) (by assumption) ?_
            rotate_left
            · (intro w hSw; (try dsimp only at hSw); go_simp; first | done | with_reducible rfl)
            try simp only [Act.put, List.setIfInBounds_toArray, List.set_cons_zero, List.set_cons_succ]
            refine wpAnyH_take (i := 33) (hi := by simp only [List.getElem?_toArray, List.getElem?_cons_succ, List.getElem?_cons_zero]; rfl) (v := ?_) (by kernel_rfl) (by kernel_rfl) (by kernel_rfl) (fun _ _ _ h => h) (Or.inl ⟨by rfl, ?_⟩) (by assumption) ?_
            rotate_left
            · (intro w hSw; (try dsimp only at hSw); go_simp; first | done | with_reducible rfl)
            try simp only [Act.put, List.setIfInBounds_toArray, List.set_cons_zero, List.set_cons_succ]
            refine wpAnyH_take (i := 34) (hi := by simp only [List.getElem?_toArray, List.getElem?_cons_succ, List.getElem?_cons_zero]; rfl) (v := ?_) (by kernel_rfl) (by kernel_rfl) (by kernel_rfl) (fun _ _ _ h => h) (Or.inl ⟨by rfl, ?_⟩) (by assumption) ?_
            rotate_left
            · (intro w hSw; (try dsimp only at hSw); go_simp; first | done | with_reducible rfl)
            try simp only [Act.put, List.setIfInBounds_toArray, List.set_cons_zero, List.set_cons_succ]
            refine wpAnyH_done (by kernel_rfl) ?_ _
            refine NoPanic.normal ?_
            go_wp2_with fail
            go_ret
            have hbq : Hid (Below w.heap.size w w2) := by go_split_ands; assumption
            exact ⟨by simp, hbq.out⟩
          · have m0 : ¬ b + q ≤ b + lag := by omega
            have m0b : decide (q ≤ lag) = false := decide_eq_false (by omega)
            have m1 : b + q2 ≤ b + q := by have := (hdn hu).1; omega
            have m2 : b + lag ≤ b + q2 := by have := (hdn hu).2; omega
            clear hup hdn hu
            go_wp2_with (first
              | (go_at_call 14; refine (HWG.out _).mono ?_; rintro e w8 ⟨rfl, hd8⟩; have hb7 := hid_below hb7 hd8; have hm7 := Kit.hid (blk_below hm7.out hd8); have hn7 := Kit.hid (blk_below hn7.out hd8); obtain ⟨c0, c1, _, _, _, _⟩ := own_block hm7.out (.int .i64 b); obtain ⟨s0, s1, _, _, _, _⟩ := own_block hn7.out (.int .i64 b))
              | (go_at_call 15; (with_reducible refine (HME.out _).mono ?_); rintro e w9 ⟨rfl, hd9⟩; have hb7 := hid_below hb7 hd9; have hm7 := Kit.hid (blk_below hm7.out hd9); have hn7 := Kit.hid (blk_below hn7.out hd9); obtain ⟨c0, c1, _, _, _, _⟩ := own_block hm7.out (.int .i64 b); obtain ⟨s0, s1, _, _, _, _⟩ := own_block hn7.out (.int .i64 b)))
            refine wp_region_noPanic ?_
            refine wp_region_held_drew (S := fun w' => w'.cell? ⟨g, 0, none⟩ = some (.int .i64 b) ∧ w'.cell? ⟨g, 1, none⟩ = some (.complex .f64 (fi W) (fi P)) ∧ w'.cell? ⟨gn, 0, none⟩ = some (.int .i64 b) ∧ w'.cell? ⟨gn, 1, none⟩ = some (.complex .f64 (fi (W + wt)) (fi (P + wt * lag))) ∧ Hid (Below w.heap.size w w')) (by kernel_rfl) ⟨c0, c1, s0, s1, Kit.hid hb7.out.drew⟩ (fun hHeld => ?_)
            refine wpAnyH_take (i := 0) (hi := by simp only [List.getElem?_toArray, List.getElem?_cons_succ, List.getElem?_cons_zero]; rfl) (v := ?_) (by kernel_rfl) (by kernel_rfl) (by kernel_rfl) (fun _ _ _ h => h) (Or.inl ⟨by rfl, ?_⟩) (by assumption) ?_
            rotate_left
            · (intro w hSw; (try dsimp only at hSw); go_simp; first | done | with_reducible rfl)
            try simp only [Act.put, List.setIfInBounds_toArray, List.set_cons_zero, List.set_cons_succ]
            refine wpAnyH_take (i := 1) (hi := by simp only [List.getElem?_toArray, List.getElem?_cons_succ, List.getElem?_cons_zero]; rfl) (v := ?_) (by kernel_rfl) (by kernel_rfl) (by kernel_rfl) (fun _ _ _ h => h) (Or.inl ⟨by rfl, ?_⟩) (by assumption) ?_
            rotate_left
            · (intro w hSw; (try dsimp only at hSw); go_simp; first | done | with_reducible rfl)
            try simp only [Act.put, List.setIfInBounds_toArray, List.set_cons_zero, List.set_cons_succ]
            refine wpAnyH_take (i := 2) (hi := by simp only [List.getElem?_toArray, List.getElem?_cons_succ, List.getElem?_cons_zero]; rfl) (v := ?_) (by kernel_rfl) (by kernel_rfl) (by kernel_rfl) (fun _ _ _ h => h) (Or.inl ⟨by rfl, ?_⟩) (by assumption) ?_
            rotate_left
            · (intro w hSw; (try dsimp only at hSw); go_simp; first | done | with_reducible rfl)
            try simp only [Act.put, List.setIfInBounds_toArray, List.set_cons_zero, List.set_cons_succ]
            refine wpAnyH_take (i := 3) (hi := by simp only [List.getElem?_toArray, List.getElem?_cons_succ, List.getElem?_cons_zero]; rfl) (v := ?_) (by kernel_rfl) (by kernel_rfl) (by kernel_rfl) (fun _ _ _ h => h) (Or.inl ⟨by rfl, ?_⟩) (by assumption) ?_
            rotate_left
            · (intro w hSw; (try dsimp only at hSw); go_simp; first | done | with_reducible rfl)
            try simp only [Act.put, List.setIfInBounds_toArray, List.set_cons_zero, List.set_cons_succ]
            refine wpAnyH_take (i := 4) (hi := by simp only [List.getElem?_toArray, List.getElem?_cons_succ, List.getElem?_cons_zero]; rfl) (v := ?_) (by kernel_rfl) (by kernel_rfl) (by kernel_rfl) (fun _ _ _ h => h) (Or.inl ⟨by rfl, ?_⟩) (by assumption) ?_
            rotate_left
            · (intro w hSw; (try dsimp only at hSw); go_simp; first | done | with_reducible rfl)
            try simp only [Act.put, List.setIfInBounds_toArray, List.set_cons_zero, List.set_cons_succ]
            refine wpAnyH_take (i := 5) (hi := by simp only [List.getElem?_toArray, List.getElem?_cons_succ, List.getElem?_cons_zero]; rfl) (v := undef) (by kernel_rfl) (by kernel_rfl) (by kernel_rfl) (fun _ _ _ h => h) (Or.inr ⟨by rfl, rfl⟩) (by assumption) ?_
            try simp only [Act.put, List.setIfInBounds_toArray, List.set_cons_zero, List.set_cons_succ]
            refine wpAnyH_take (i := 6) (hi := by simp only [List.getElem?_toArray, List.getElem?_cons_succ, List.getElem?_cons_zero]; rfl) (v := undef) (by kernel_rfl) (by kernel_rfl) (by kernel_rfl) (fun _ _ _ h => h) (Or.inr ⟨by rfl, rfl⟩) (by assumption) ?_
            try simp only [Act.put, List.setIfInBounds_toArray, List.set_cons_zero, List.set_cons_succ]
            refine wpAnyH_take (i := 7) (hi := by simp only [List.getElem?_toArray, List.getElem?_cons_succ, List.getElem?_cons_zero]; rfl) (v := undef) (by kernel_rfl) (by kernel_rfl) (by kernel_rfl) (fun _ _ _ h => h) (Or.inr ⟨by rfl, rfl⟩) (by assumption) ?_
            try simp only [Act.put, List.setIfInBounds_toArray, List.set_cons_zero, List.set_cons_succ]
            refine wpAnyH_take (i := 8) (hi := by simp only [List.getElem?_toArray, List.getElem?_cons_succ, List.getElem?_cons_zero]; rfl) (v := undef) (by kernel_rfl) (by kernel_rfl) (by kernel_rfl) (fun _ _ _ h => h) (Or.inr ⟨by rfl, rfl⟩) (by assumption) ?_
            try simp only [Act.put, List.setIfInBounds_toArray, List.set_cons_zero, List.set_cons_succ]
            refine wpAnyH_take (i := 9) (hi := by simp only [List.getElem?_toArray, List.getElem?_cons_succ, List.getElem?_cons_zero]; rfl) (v := undef) (by kernel_rfl) (by kernel_rfl) (by kernel_rfl) (fun _ _ _ h => h) (Or.inr ⟨by rfl, rfl⟩) (by assumption) ?_
            try simp only [Act.put, List.setIfInBounds_toArray, List.set_cons_zero, List.set_cons_succ]
            refine wpAnyH_take (i := 10) (hi := by simp only [List.getElem?_toArray, List.getElem?_cons_succ, List.getElem?_cons_zero]; rfl) (v := undef) (by kernel_rfl) (by kernel_rfl) (by kernel_rfl) (fun _ _ _ h => h) (Or.inr ⟨by rfl, rfl⟩) (by assumption) ?_
            try simp only [Act.put, List.setIfInBounds_toArray, List.set_cons_zero, List.set_cons_succ]
            refine wpAnyH_take (i := 11) (hi := by simp only [List.getElem?_toArray, List.getElem?_cons_succ, List.getElem?_cons_zero]; rfl) (v := undef) (by kernel_rfl) (by kernel_rfl) (by kernel_rfl) (fun _ _ _ h => h) (Or.inr ⟨by rfl, rfl⟩) (by assumption) ?_
            try simp only [Act.put, List.setIfInBounds_toArray, List.set_cons_zero, List.set_cons_succ]
            refine wpAnyH_take (i := 12) (hi := by simp only [List.getElem?_toArray, List.getElem?_cons_succ, List.getElem?_cons_zero]; rfl) (v := undef) (by kernel_rfl) (by kernel_rfl) (by kernel_rfl) (fun _ _ _ h => h) (Or.inr ⟨by rfl, rfl⟩) (by assumption) ?_
            try simp only [Act.put, List.setIfInBounds_toArray, List.set_cons_zero, List.set_cons_succ]
            refine wpAnyH_take (i := 13) (hi := by simp only [List.getElem?_toArray, List.getElem?_cons_succ, List.getElem?_cons_zero]; rfl) (v := undef) (by kernel_rfl) (by kernel_rfl) (by kernel_rfl) (fun _ _ _ h => h) (Or.inr ⟨by rfl, rfl⟩) (by assumption) ?_
            try simp only [Act.put, List.setIfInBounds_toArray, List.set_cons_zero, List.set_cons_succ]
            refine wpAnyH_take (i := 14) (hi := by simp only [List.getElem?_toArray, List.getElem?_cons_succ, List.getElem?_cons_zero]; rfl) (v := undef) (by kernel_rfl) (by kernel_rfl) (by kernel_rfl) (fun _ _ _ h => h) (Or.inr ⟨by rfl, rfl⟩) (by assumption) ?_
            try simp only [Act.put, List.setIfInBounds_toArray, List.set_cons_zero, List.set_cons_succ]
            refine wpAnyH_take (i := 15) (hi := by simp only [List.getElem?_toArray, List.getElem?_cons_succ, List.getElem?_cons_zero]; rfl) (v := undef) (by kernel_rfl) (by kernel_rfl) (by kernel_rfl) (fun _ _ _ h => h) (Or.inr ⟨by rfl, rfl⟩) (by assumption) ?_
            try simp only [Act.put, List.setIfInBounds_toArray, List.set_cons_zero, List.set_cons_succ]
            refine wpAnyH_take (i := 16) (hi := by simp only [List.getElem?_toArray, List.getElem?_cons_succ, List.getElem?_cons_zero]; rfl) (v := ?_) (by kernel_rfl) (by kernel_rfl) (by kernel_rfl) (fun _ _ _ h => h) (Or.inl ⟨by rfl, ?_⟩) (by assumption) ?_
            rotate_left
            · (intro w hSw; (try dsimp only at hSw); go_simp; first | done | with_reducible rfl)
            try simp only [Act.put, List.setIfInBounds_toArray, List.set_cons_zero, List.set_cons_succ]
            refine wpAnyH_take (i := 17) (hi := by simp only [List.getElem?_toArray, List.getElem?_cons_succ, List.getElem?_cons_zero]; rfl) (v := ?_) (by kernel_rfl) (by kernel_rfl) (by kernel_rfl) (fun _ _ _ h => h) (Or.inl ⟨by rfl, ?_⟩) (by assumption) ?_
            rotate_left
            · (intro w hSw; (try dsimp only at hSw); go_simp; first | done | with_reducible rfl)
            try simp only [Act.put, List.setIfInBounds_toArray, List.set_cons_zero, List.set_cons_succ]
            refine wpAnyH_take (i := 18) (hi := by simp only [List.getElem?_toArray, List.getElem?_cons_succ, List.getElem?_cons_zero]; rfl) (v := ?_) (by kernel_rfl) (by kernel_rfl) (by kernel_rfl) (fun _ _ _ h => h) (Or.inl ⟨by rfl, ?_⟩) (by assumption) ?_
            rotate_left
            · (intro w hSw; (try dsimp only at hSw); go_simp; first | done | with_reducible rfl)
            try simp only [Act.put, List.setIfInBounds_toArray, List.set_cons_zero, List.set_cons_succ]
            refine wpAnyH_take (i := 19) (hi := by simp only [List.getElem?_toArray, List.getElem?_cons_succ, List.getElem?_cons_zero]; rfl) (v := ?_) (by kernel_rfl) (by kernel_rfl) (by kernel_rfl) (fun _ _ _ h => h) (Or.inl ⟨by rfl, ?_⟩) (by assumption) ?_
            rotate_left
            · (intro w hSw; (try dsimp only at hSw); go_simp; first | done | with_reducible rfl)
            try simp only [Act.put, List.setIfInBounds_toArray, List.set_cons_zero, List.set_cons_succ]
            refine wpAnyH_take (i := 20) (hi := by simp only [List.getElem?_toArray, List.getElem?_cons_succ, List.getElem?_cons_zero]; rfl) (v := ?_) (by kernel_rfl) (by kernel_rfl) (by kernel_rfl) (fun _ _ _ h => h) (Or.inl ⟨by rfl, ?_⟩) (by assumption) ?_
            rotate_left
            · (intro w hSw; (try dsimp only at hSw); go_simp; first | done | with_reducible rfl)
            try simp only [Act.put, List.setIfInBounds_toArray, List.set_cons_zero, List.set_cons_succ]
            refine wpAnyH_take (i := 21) (hi := by simp only [List.getElem?_toArray, List.getElem?_cons_succ, List.getElem?_cons_zero]; rfl) (v := ?_) (by kernel_rfl) (by kernel_rfl) (by kernel_rfl) (fun _ _ _ h => h) (Or.inl ⟨by rfl, ?_⟩) (by assumption) ?_
            rotate_left
            · (intro w hSw; (try dsimp only at hSw); go_simp; first | done | with_reducible rfl)
            try simp only [Act.put, List.setIfInBounds_toArray, List.set_cons_zero, List.set_cons_succ]
            refine wpAnyH_take (i := 23) (hi := by simp only [List.getElem?_toArray, List.getElem?_cons_succ, List.getElem?_cons_zero]; rfl) (v := ?_) (by kernel_rfl) (by kernel_rfl) (by kernel_rfl) (fun _ _ _ h => h) (Or.inl ⟨by rfl, ?_⟩) (by assumption) ?_
            rotate_left
            · (intro w hSw; (try dsimp only at hSw); go_simp; first | done | with_reducible rfl)
            try simp only [Act.put, List.setIfInBounds_toArray, List.set_cons_zero, List.set_cons_succ]
            refine wpAnyH_ready (rs := [22]) (by kernel_rfl) (by simp) ?_
            refine AllReadyH.cons (ho := by simp only [List.getElem?_toArray, List.getElem?_cons_succ, List.getElem?_cons_zero]; rfl) (fun K hK => ?_) AllReadyH.nil
            go_simp
            first
              | (go_at_call 15; (with_reducible refine (HME.out _).mono ?_); rintro e w2 ⟨rfl, hd2⟩)
              | (go_at_call 15; (with_reducible refine (HNM.out _).mono ?_); rintro e w2 ⟨rfl, hd2⟩)
            go_wp2_with fail
            refine hK.out _ _ ?_ (fun hHeld => ?_)
            · ((try dsimp only); go_split_ands; exact ⟨(hd2.cell (cell_lt (by assumption))).trans (by assumption), (hd2.cell (cell_lt (by assumption))).trans (by assumption), (hd2.cell (cell_lt (by assumption))).trans (by assumption), (hd2.cell (cell_lt (by assumption))).trans (by assumption), hid_below (by assumption) hd2⟩)
            clear hK K
            try simp only [Act.put, List.setIfInBounds_toArray, List.set_cons_zero, List.set_cons_succ]
            refine wpAnyH_ready (rs := [24]) (by kernel_rfl) (by simp) ?_
            refine AllReadyH.cons (ho := by simp only [List.getElem?_toArray, List.getElem?_cons_succ, List.getElem?_cons_zero]; rfl) (fun K hK => ?_) AllReadyH.nil
            go_simp
            first
              | (go_at_call 15; (with_reducible refine (HME.out _).mono ?_); rintro e w2 ⟨rfl, hd2⟩)
              | (go_at_call 15; (with_reducible refine (HNM.out _).mono ?_); rintro e w2 ⟨rfl, hd2⟩)
            go_wp2_with fail
            refine hK.out _ _ ?_ (fun hHeld => ?_)
            · ((try dsimp only); go_split_ands; exact ⟨(hd2.cell (cell_lt (by assumption))).trans (by assumption), (hd2.cell (cell_lt (by assumption))).trans (by assumption), (hd2.cell (cell_lt (by assumption))).trans (by assumption), (hd2.cell (cell_lt (by assumption))).trans (by assumption), hid_below (by assumption) hd2⟩)
            clear hK K
            try simp only [Act.put, List.setIfInBounds_toArray, List.set_cons_zero, List.set_cons_succ]
            refine wpAnyH_take (i := 25) (hi := by simp only [List.getElem?_toArray, List.getElem?_cons_succ, List.getElem?_cons_zero]; rfl) (v := ?_) (by kernel_rfl) (by kernel_rfl) (by kernel_rfl) (fun _ _ _ h => h) (Or.inl ⟨by rfl, ?_⟩) (by assumption) ?_
            rotate_left
            · (intro w hSw; (try dsimp only at hSw); go_simp; first | done | with_reducible rfl)
            try simp only [Act.put, List.setIfInBounds_toArray, List.set_cons_zero, List.set_cons_succ]
            refine wpAnyH_take (i := 26) (hi := by simp only [List.getElem?_toArray, List.getElem?_cons_succ, List.getElem?_cons_zero]; rfl) (v := ?_) (by kernel_rfl) (by kernel_rfl) (by kernel_rfl) (fun _ _ _ h => h) (Or.inl ⟨by rfl, ?_⟩) (by assumption) ?_
            rotate_left
            · (intro w hSw; (try dsimp only at hSw); go_simp; first | done | with_reducible rfl)
            try simp only [Act.put, List.setIfInBounds_toArray, List.set_cons_zero, List.set_cons_succ]
            refine wpAnyH_take (i := 27) (hi := by simp only [List.getElem?_toArray, List.getElem?_cons_succ, List.getElem?_cons_zero]; rfl) (v := ?_) (by kernel_rfl) (by kernel_rfl) (by kernel_rfl) (fun _ _ _ h => h) (Or.inl ⟨by rfl, ?_⟩) (by assumption) ?_
            rotate_left
            · (intro w hSw; (try dsimp only at hSw); go_simp; first | done | with_reducible rfl)
            try simp only [Act.put, List.setIfInBounds_toArray, List.set_cons_zero, List.set_cons_succ]
            refine wpAnyH_take (i := 29) (hi := by simp only [List.getElem?_toArray, List.getElem?_cons_succ, List.getElem?_cons_zero]; rfl) (v := ?_) (by kernel_rfl) (by kernel_rfl) (by kernel_rfl) (fun _ _ _ h => h) (Or.inl ⟨by rfl, ?_⟩) (by assumption) ?_
            rotate_left
            · (intro w hSw; (try dsimp only at hSw); go_simp; first | done | with_reducible rfl)
            try simp only [Act.put, List.setIfInBounds_toArray, List.set_cons_zero, List.set_cons_succ]
            refine wpAnyH_ready (rs := [28]) (by kernel_rfl) (by simp) ?_
            refine AllReadyH.cons (ho := by simp only [List.getElem?_toArray, List.getElem?_cons_succ, List.getElem?_cons_zero]; rfl) (fun K hK => ?_) AllReadyH.nil
            go_simp
            first
              | (go_at_call 15; (with_reducible refine (HME.out _).mono ?_); rintro e w2 ⟨rfl, hd2⟩)
              | (go_at_call 15; (with_reducible refine (HNM.out _).mono ?_); rintro e w2 ⟨rfl, hd2⟩)
            go_wp2_with fail
            refine hK.out _ _ ?_ (fun hHeld => ?_)
            · ((try dsimp only); go_split_ands; exact ⟨(hd2.cell (cell_lt (by assumption))).trans (by assumption), (hd2.cell (cell_lt (by assumption))).trans (by assumption), (hd2.cell (cell_lt (by assumption))).trans (by assumption), (hd2.cell (cell_lt (by assumption))).trans (by assumption), hid_below (by assumption) hd2⟩)
            clear hK K
            try simp only [Act.put, List.setIfInBounds_toArray, List.set_cons_zero, List.set_cons_succ]
            refine wpAnyH_take (i := 30) (hi := by simp only [List.getElem?_toArray, List.getElem?_cons_succ, List.getElem?_cons_zero]; rfl) (v := ?_) (by kernel_rfl) (by kernel_rfl) (by kernel_rfl) (fun _ _ _ h => h) (Or.inl ⟨by rfl, ?_⟩) (by assumption) ?_
            rotate_left
            · (intro w hSw; (try dsimp only at hSw); go_simp; first | done | with_reducible rfl)
            try simp only [Act.put, List.setIfInBounds_toArray, List.set_cons_zero, List.set_cons_succ]
            refine wpAnyH_take (i := 31) (hi := by simp only [List.getElem?_toArray, List.getElem?_cons_succ, List.getElem?_cons_zero]; rfl) (v := ?_) (by kernel_rfl) (by kernel_rfl) (by kernel_rfl) (fun _ _ _ h => h) (Or.inl ⟨by rfl, ?_⟩) (by assumption) ?_
            rotate_left
            · (intro w hSw; (try dsimp only at hSw); go_simp; first | done | with_reducible rfl)
            try simp only [Act.put, List.setIfInBounds_toArray, List.set_cons_zero, List.set_cons_succ]
            refine wpAnyH_take (i := 32) (hi := by simp only [List.getElem?_toArray, List.getElem?_cons_succ, List.getElem?_cons_zero]; rfl) (v := ?_) (by kernel_rfl) (by kernel_rfl) (by kernel_rfl) (fun _ _ _ h => h) (Or.inl ⟨by rfl, ?_⟩) (by assumption) ?_
            rotate_left
            · (intro w hSw; (try dsimp only at hSw); go_simp; first | done | with_reducible rfl)
            try simp only [Act.put, List.setIfInBounds_toArray, List.set_cons_zero, List.set_cons_succ]
            refine wpAnyH_take (i := 33) (hi := by simp only [List.getElem?_toArray, List.getElem?_cons_succ, List.getElem?_cons_zero]; rfl) (v := ?_) (by kernel_rfl) (by kernel_rfl) (by kernel_rfl) (fun _ _ _ h => h) (Or.inl ⟨by rfl, ?_⟩) (by assumption) ?_
            rotate_left
            · (intro w hSw; (try dsimp only at hSw); go_simp; first | done | with_reducible rfl)
            try simp only [Act.put, List.setIfInBounds_toArray, List.set_cons_zero, List.set_cons_succ]
            refine wpAnyH_take (i := 34) (hi := by simp only [List.getElem?_toArray, List.getElem?_cons_succ, List.getElem?_cons_zero]; rfl) (v := ?_) (by kernel_rfl) (by kernel_rfl) (by kernel_rfl) (fun _ _ _ h => h) (Or.inl ⟨by rfl, ?_⟩) (by assumption) ?_
            rotate_left
            · (intro w hSw; (try dsimp only at hSw); go_simp; first | done | with_reducible rfl)
            try simp only [Act.put, List.setIfInBounds_toArray, List.set_cons_zero, List.set_cons_succ]
            refine wpAnyH_done (by kernel_rfl) ?_ _
            refine NoPanic.normal ?_
            go_wp2_with fail
            go_ret
            have hbq : Hid (Below w.heap.size w w2) := by go_split_ands; assumption
            exact ⟨by simp, hbq.out⟩
end Go.Proofs.Ytjddoohlmgacjaa.Mo

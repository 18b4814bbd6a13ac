/- The law MomentMeans. -/
import Derived.Test.YtjddoohlmgacjaaMoF
import Derived.Test.YtjddoohlmgacjaaMoC
import Derived.Test.YtjddoohlmgacjaaMoS
namespace Go.Proofs.Ytjddoohlmgacjaa.Mo
open Go.RowKit Go.Proofs.Ytjddoohlmgacjaa.Kit Go.Proofs.Ytjddoohlmgacjaa.Flo Go.IntWalk
set_option linter.unusedVariables false
set_option linter.unusedSimpArgs false
def Span (b : Int) (l : List One) (low high : Int) (any : Bool) : Prop :=
  (any = false ∧ sumW l = 0 ∧ sumP l = 0 ∧ low = 0 ∧ high = 0) ∨
  (any = true ∧ 0 < sumW l ∧ ∃ lo hi, low = b + lo ∧ high = b + hi ∧ lo * sumW l ≤ sumP l ∧ sumP l ≤ hi * sumW l ∧ -1048576 < lo ∧ lo < 1048576 ∧ -1048576 < hi ∧ hi < 1048576)
theorem span_zero {b : Int} {l : List One} {low high : Int} {any : Bool} {o : One} (h : Span b l low high any) (hz : o.wt = 0) : Span b (l ++ [o]) low high any := by
  unfold Span at *
  rw [sumW_snoc, sumP_snoc, hz]
  simpa using h
theorem span_first {b : Int} {l : List One} {low high : Int} {o : One} (h : Span b l low high false) (hz : ¬ o.wt = 0) : Span b (l ++ [o]) (b + o.lag) (b + o.lag) true := by
  rcases h with ⟨_, h1, h2, _, _⟩ | ⟨h, _⟩
  · have hw := o.wt_bd
    have hl := o.lag_bd
    refine .inr ⟨rfl, ?_, o.lag, o.lag, rfl, rfl, ?_, ?_, hl.1, hl.2, hl.1, hl.2⟩
    · rw [sumW_snoc]; omega
    · rw [sumW_snoc, sumP_snoc, h1, h2, Int.zero_add, Int.zero_add, Int.mul_comm]; exact Int.le_refl _
    · rw [sumW_snoc, sumP_snoc, h1, h2, Int.zero_add, Int.zero_add, Int.mul_comm]; exact Int.le_refl _
  · exact absurd h (by decide)
theorem span_more {b : Int} {l : List One} {low high : Int} {o : One} (h : Span b l low high true) (hz : ¬ o.wt = 0) :
    Span b (l ++ [o]) (if b + o.lag < low then b + o.lag else low) (if b + o.lag > high then b + o.lag else high) true := by
  rcases h with ⟨h, _⟩ | ⟨_, h0, lo, hi, rfl, rfl, h1, h2, h3, h4, h5, h6⟩
  · exact absurd h (by decide)
  · have hw := o.wt_bd
    have hl := o.lag_bd
    obtain ⟨lo', e1, e2, e3, e4⟩ : ∃ lo', (if b + o.lag < b + lo then b + o.lag else b + lo) = b + lo' ∧ lo' ≤ lo ∧ lo' ≤ o.lag ∧ -1048576 < lo' := by
      by_cases h : b + o.lag < b + lo
      · exact ⟨o.lag, by rw [if_pos h], by omega, by omega, by omega⟩
      · exact ⟨lo, by rw [if_neg h], by omega, by omega, by omega⟩
    obtain ⟨hi', f1, f2, f3, f4⟩ : ∃ hi', (if b + o.lag > b + hi then b + o.lag else b + hi) = b + hi' ∧ hi ≤ hi' ∧ o.lag ≤ hi' ∧ hi' < 1048576 := by
      by_cases h : b + o.lag > b + hi
      · exact ⟨o.lag, by rw [if_pos h], by omega, by omega, by omega⟩
      · exact ⟨hi, by rw [if_neg h], by omega, by omega, by omega⟩
    rw [e1, f1]
    refine .inr ⟨rfl, ?_, lo', hi', rfl, rfl, ?_, ?_, by omega, by omega, by omega, by omega⟩
    · rw [sumW_snoc]; omega
    · rw [sumW_snoc, sumP_snoc, Int.mul_add]
      have k1 := Int.mul_le_mul_of_nonneg_right e2 (Int.le_of_lt h0)
      have k2 := Int.mul_le_mul_of_nonneg_right e3 hw.1
      rw [Int.mul_comm o.lag] at k2
      omega
    · rw [sumW_snoc, sumP_snoc, Int.mul_add]
      have k1 := Int.mul_le_mul_of_nonneg_right f2 (Int.le_of_lt h0)
      have k2 := Int.mul_le_mul_of_nonneg_right f3 hw.1
      rw [Int.mul_comm o.lag] at k2
      omega
theorem span_end {b W P lo hi : Int} (h0 : 0 < W) (h1 : lo * W ≤ P) (h2 : P ≤ hi * W) :
    ∃ q, meanOf b W P = b + q ∧ lo ≤ q ∧ q ≤ hi ∧ 0 ≤ P - W * lo ∧ P - W * hi ≤ 0 ∧ 0 ≤ P - W * q ∧ P - W * (q + 1) < 0 := by
  refine ⟨P / W, ?_, Int.le_ediv_of_mul_le h0 h1, Int.ediv_le_of_le_mul h0 h2, ?_, ?_, ?_, ?_⟩
  · unfold meanOf; rw [if_neg (by omega)]
  · rw [Int.mul_comm W]; omega
  · rw [Int.mul_comm W]; omega
  · have := Int.mul_ediv_add_emod P W; have := Int.emod_nonneg P (by omega : W ≠ 0); omega
  · have := Int.mul_ediv_add_emod P W; have := Int.emod_lt_of_pos P h0; rw [Int.mul_add]; omega
theorem based_bd (n : Int) : -1152921504606846976 < basedOf n ∧ basedOf n < 1152921504606846976 := tmod_bd _ _ (by decide)
theorem gap_small {W d : Int} (h0 : 0 ≤ W) (h1 : W ≤ 104857600) (h2 : -2097152 ≤ d) (h3 : d ≤ 2097152) : W.natAbs * d.natAbs < 4611686018427387904 := by
  have : W.natAbs * d.natAbs ≤ 104857600 * 2097152 := Nat.mul_le_mul (by omega) (by omega)
  omega
set_option maxHeartbeats 4000000 in
theorem meansLaw_any (n : Int) (A : Option Addr) (l : List One) (cap : Nat) (w : World) (ho : Hid (Ones w A l)) (hwf : ∀ o ∈ l, o.Wf) :
    Calls Try.prog 3 #[.int .i64 n, .slice A l.length cap] w (ValPost w (.bool true)) := by
  have HAW := Kit.hid awake_any
  by_cases hl : 30 < l.length
  · have g1 : (30 : Int) < (l.length : Int) := by omega
    go_enter Try.func3, Try.ntmps3
    go_wp2_with (go_at_call 9; refine (HAW.out _).mono ?_; rintro e w1 ⟨rfl, hd1⟩)
    go_ret
    exact ⟨rfl, hd1⟩
  · have g1 : ¬ (30 : Int) < (l.length : Int) := by omega
    have HB := Kit.hid (based_any n)
    have hb := based_bd n
    obtain ⟨b, hb'⟩ : ∃ b, b = basedOf n := ⟨_, rfl⟩
    rw [← hb'] at HB hb
    clear hb'
    obtain ⟨W, hW⟩ : ∃ W, W = sumW l := ⟨_, rfl⟩
    obtain ⟨P, hP⟩ : ∃ P, P = sumP l := ⟨_, rfl⟩
    have hbd := sum_bd l
    rw [← hW, ← hP] at hbd
    have hbs : 0 ≤ W ∧ W ≤ 31457280 ∧ -32985348833280 ≤ P ∧ P ≤ 32985348833280 := by omega
    clear hbd
    have HS : Hid (∀ w', Hid (Ones w' A l) → Calls Try.prog 11 #[.int .i64 b, .slice A l.length cap] w' (ValPost w' (mo b W P))) :=
      Kit.hid (fun w' h => by rw [hW, hP]; exact summed_any b A l cap w' h hwf (by omega) (by omega))
    have HWG := Kit.hid (fun w' => weight_any b W (fi P) w' (by omega))
    have HME := Kit.hid (fun w' => mean_any b W P w' (by omega) (by omega) (by omega))
    have HG : Hid (∀ v d, v - b = d → -2097152 ≤ d → d ≤ 2097152 → ∀ w', Calls Try.prog 16 #[mo b W P, .int .i64 v] w' (ValPost w' (.int .i64 (P - W * d)))) :=
      Kit.hid (fun v d h h2 h3 w' => gap_any b W P v d w' (by omega) (by omega) h (by omega) (gap_small (by omega) (by omega) h2 h3))
    have HWF := Kit.hid hwf
    have HWE := Kit.hid hW
    have HPE := Kit.hid hP
    have hst := store_complex
    clear hwf hbs hW hP
    unfold mo at HS HME HG
    go_enter Try.func3, Try.ntmps3
    go_wp2_with (first
      | (go_at_call 9; refine (HAW.out _).mono ?_; rintro e w1 ⟨rfl, hd1⟩)
      | (go_at_call 10; refine (HB.out _).mono ?_; rintro e w2 ⟨rfl, rfl⟩)
      | (go_at_call 11; refine (HS.out _ (ones_below ho hd1)).mono ?_; rintro e w3 ⟨rfl, hd3⟩))
    have hd13 := hd1.trans (hd3.mono hd1.size)
    have HM := Kit.hid (blk_new w3 (.cells #[.int .i64 b, .complex .f64 (fi W) (fi P)] 27))
    have HD := Kit.hid (hd13.alloc hd13.size (.cells #[.int .i64 b, .complex .f64 (fi W) (fi P)] 27))
    obtain ⟨g, hg⟩ : ∃ g, g = w3.heap.size := ⟨_, rfl⟩
    rw [← hg] at HM ⊢
    clear hd1 hd3 hd13 hg
    go_loopw [8, 9, 10, 11] (fun v8 v9 v10 v11 wr => ∃ (i : Nat) (low high : Int) (any : Bool), i ≤ l.length ∧ v8 = .int .i64 low ∧ v9 = .int .i64 high ∧ v10 = .bool any ∧ v11 = .int .i64 i ∧ Hid (Span b (l.take i) low high any) ∧ Hid (wr.heap[g]? = some (.cells #[.int .i64 b, .complex .f64 (fi W) (fi P)] 27 (0, 0))) ∧ Hid (Below w.heap.size w wr)) (fun _ _ _ i _ => l.length - (intOf i).toNat)
    case atStart => exact ⟨0, 0, 0, false, by omega, rfl, rfl, rfl, rfl, Kit.hid (.inl ⟨rfl, rfl, rfl, rfl, rfl⟩), HM, HD⟩
    case round =>
      obtain ⟨i, low, high, any, hi, rfl, rfl, rfl, rfl, hsp, hm, hbw⟩ := hrel
      by_cases hlt : i < l.length
      · obtain ⟨ad, rfl, k0, k1, k2⟩ := (ones_below ho hbw.out).out i hlt
        rw [add_part ad (i * 3) 1 (by decide)] at k1
        rw [add_part ad (i * 3) 2 (by decide)] at k2
        have hwf := HWF.out l[i] (List.getElem_mem hlt)
        obtain ⟨o, hoo⟩ : ∃ o, o = l[i] := ⟨_, rfl⟩
        rw [← hoo] at k0 k1 k2 hwf
        have HT : Hid (l.take (i + 1) = l.take i ++ [o]) := Kit.hid (by rw [List.take_succ_eq_append_getElem hlt, hoo])
        have ob := o.lag_bd
        have HBY := Kit.hid (fun w' => by_any o hwf w')
        have HWT := Kit.hid (fun w' => wt_any o hwf w')
        have r1 : IntKind.i64.wrap (b + o.lag) = b + o.lag := i64_in _ (by omega)
        have r2 : wrap64 (b + o.lag) = b + o.lag := by unfold wrap64; omega
        unfold One.val at HBY HWT
        clear hoo hwf ob
        by_cases hz : o.wt = 0
        · have hsp2 := Kit.hid (span_zero hsp.out hz)
          rw [← HT.out] at hsp2
          go_wp2_with (go_at_call 12; refine (HWT.out _).mono ?_; rintro e w4 ⟨rfl, hd4⟩)
          go_roundw
          case rel => exact ⟨i + 1, low, high, any, by omega, rfl, rfl, rfl, by go_num, hsp2, Kit.hid (blk_below hm.out hd4), hid_below hbw hd4⟩
          case measure => simp [intOf]; omega
        · cases any with
          | false =>
            have hsp2 := Kit.hid (span_first hsp.out hz)
            rw [← HT.out] at hsp2
            go_wp2_with (first
              | (go_at_call 12; refine (HWT.out _).mono ?_; rintro e w4 ⟨rfl, hd4⟩; have k0 := (hd4.cell (cell_lt k0)).trans k0; have k1 := (hd4.cell (cell_lt k1)).trans k1; have k2 := (hd4.cell (cell_lt k2)).trans k2)
              | (go_at_call 13; refine (HBY.out _).mono ?_; rintro e w5 ⟨rfl, hd5⟩))
            go_roundw
            case rel => exact ⟨i + 1, b + o.lag, b + o.lag, true, by omega, by go_num, by go_num, rfl, by go_num, hsp2, Kit.hid (blk_below (blk_below hm.out hd4) hd5), hid_below (hid_below hbw hd4) hd5⟩
            case measure => simp [intOf]; omega
          | true =>
            have hsp2 := Kit.hid (span_more hsp.out hz)
            rw [← HT.out] at hsp2
            by_cases hlo : b + o.lag < low
            · rw [if_pos hlo] at hsp2
              by_cases hhi : high < b + o.lag
              · rw [if_pos hhi] at hsp2
                go_wp2_with (first
                  | (go_at_call 12; refine (HWT.out _).mono ?_; rintro e w4 ⟨rfl, hd4⟩; have k0 := (hd4.cell (cell_lt k0)).trans k0; have k1 := (hd4.cell (cell_lt k1)).trans k1; have k2 := (hd4.cell (cell_lt k2)).trans k2)
                  | (go_at_call 13; refine (HBY.out _).mono ?_; rintro e w5 ⟨rfl, hd5⟩))
                go_roundw
                case rel => exact ⟨i + 1, _, _, true, by omega, rfl, rfl, rfl, by go_num, hsp2, Kit.hid (blk_below (blk_below hm.out hd4) hd5), hid_below (hid_below hbw hd4) hd5⟩
                case measure => simp [intOf]; omega
              · rw [if_neg hhi] at hsp2
                go_wp2_with (first
                  | (go_at_call 12; refine (HWT.out _).mono ?_; rintro e w4 ⟨rfl, hd4⟩; have k0 := (hd4.cell (cell_lt k0)).trans k0; have k1 := (hd4.cell (cell_lt k1)).trans k1; have k2 := (hd4.cell (cell_lt k2)).trans k2)
                  | (go_at_call 13; refine (HBY.out _).mono ?_; rintro e w5 ⟨rfl, hd5⟩))
                go_roundw
                case rel => exact ⟨i + 1, _, _, true, by omega, rfl, rfl, rfl, by go_num, hsp2, Kit.hid (blk_below (blk_below hm.out hd4) hd5), hid_below (hid_below hbw hd4) hd5⟩
                case measure => simp [intOf]; omega
            · rw [if_neg hlo] at hsp2
              by_cases hhi : high < b + o.lag
              · rw [if_pos hhi] at hsp2
                go_wp2_with (first
                  | (go_at_call 12; refine (HWT.out _).mono ?_; rintro e w4 ⟨rfl, hd4⟩; have k0 := (hd4.cell (cell_lt k0)).trans k0; have k1 := (hd4.cell (cell_lt k1)).trans k1; have k2 := (hd4.cell (cell_lt k2)).trans k2)
                  | (go_at_call 13; refine (HBY.out _).mono ?_; rintro e w5 ⟨rfl, hd5⟩))
                go_roundw
                case rel => exact ⟨i + 1, _, _, true, by omega, rfl, rfl, rfl, by go_num, hsp2, Kit.hid (blk_below (blk_below hm.out hd4) hd5), hid_below (hid_below hbw hd4) hd5⟩
                case measure => simp [intOf]; omega
              · rw [if_neg hhi] at hsp2
                go_wp2_with (first
                  | (go_at_call 12; refine (HWT.out _).mono ?_; rintro e w4 ⟨rfl, hd4⟩; have k0 := (hd4.cell (cell_lt k0)).trans k0; have k1 := (hd4.cell (cell_lt k1)).trans k1; have k2 := (hd4.cell (cell_lt k2)).trans k2)
                  | (go_at_call 13; refine (HBY.out _).mono ?_; rintro e w5 ⟨rfl, hd5⟩))
                go_roundw
                case rel => exact ⟨i + 1, _, _, true, by omega, rfl, rfl, rfl, by go_num, hsp2, Kit.hid (blk_below (blk_below hm.out hd4) hd5), hid_below (hid_below hbw hd4) hd5⟩
                case measure => simp [intOf]; omega
      · obtain rfl : i = l.length := by omega
        rw [List.take_length] at hsp
        have hs := hsp.out
        unfold Span at hs
        rw [← HWE.out, ← HPE.out] at hs
        obtain ⟨c0, c1, _, _, _, _⟩ := own_block hm.out (.int .i64 b)
        rcases hs with ⟨rfl, hW0, hP0, _, _⟩ | ⟨rfl, h0, lo, hi, rfl, rfl, h1, h2, h3, h4, h5, h6⟩
        · have hmean : meanOf b W P = b := by unfold meanOf; rw [if_pos (by omega)]
          rw [hmean] at HME
          clear hmean
          subst hW0 hP0
          go_wp2_with (first
            | (go_at_call 14; refine (HWG.out _).mono ?_; rintro e w4 ⟨rfl, hd4⟩; have c0 := (hd4.cell (cell_lt c0)).trans c0; have c1 := (hd4.cell (cell_lt c1)).trans c1)
            | (go_at_call 15; refine (HME.out _).mono ?_; rintro e w5 ⟨rfl, hd5⟩))
          go_ret
          exact ⟨by simp, (hid_below (hid_below hbw hd4) hd5).out⟩
        · obtain ⟨q, hq, q1, q2, q3, q4, q5, q6⟩ := span_end (b := b) h0 h1 h2
          rw [hq] at HME
          have HG1 := Kit.hid (HG.out (b + lo) lo (by omega) (by omega) (by omega))
          have HG2 := Kit.hid (HG.out (b + hi) hi (by omega) (by omega) (by omega))
          have HG3 := Kit.hid (HG.out (b + q) q (by omega) (by omega) (by omega))
          have HG4 := Kit.hid (HG.out (b + q + 1) (q + 1) (by omega) (by omega) (by omega))
          obtain ⟨x1, e1⟩ : ∃ x, x = P - W * lo := ⟨_, rfl⟩
          obtain ⟨x2, e2⟩ : ∃ x, x = P - W * hi := ⟨_, rfl⟩
          obtain ⟨x3, e3⟩ : ∃ x, x = P - W * q := ⟨_, rfl⟩
          obtain ⟨x4, e4⟩ : ∃ x, x = P - W * (q + 1) := ⟨_, rfl⟩
          rw [← e1] at HG1 q3
          rw [← e2] at HG2 q4
          rw [← e3] at HG3 q5
          rw [← e4] at HG4 q6
          have m1 : b + lo ≤ b + q := by omega
          have m2 : b + q ≤ b + hi := by omega
          have r1 : IntKind.i64.wrap (b + q + 1) = b + q + 1 := i64_in _ (by omega)
          have r2 : wrap64 (b + q + 1) = b + q + 1 := by unfold wrap64; omega
          clear hq h0 h1 h2 h3 h4 h5 h6 q1 q2 HG e1 e2 e3 e4 hb
          go_wp2_with (first
            | (go_at_call 15; refine (HME.out _).mono ?_; rintro e w5 ⟨rfl, hd5⟩; have c0 := (hd5.cell (cell_lt c0)).trans c0; have c1 := (hd5.cell (cell_lt c1)).trans c1; have hbw := hid_below hbw hd5)
            | (go_at_call 16; (with_reducible refine (HG1.out _).mono ?_); rintro e w6 ⟨rfl, hd6⟩; have c0 := (hd6.cell (cell_lt c0)).trans c0; have c1 := (hd6.cell (cell_lt c1)).trans c1; have hbw := hid_below hbw hd6)
            | (go_at_call 16; (with_reducible refine (HG2.out _).mono ?_); rintro e w7 ⟨rfl, hd7⟩; have c0 := (hd7.cell (cell_lt c0)).trans c0; have c1 := (hd7.cell (cell_lt c1)).trans c1; have hbw := hid_below hbw hd7)
            | (go_at_call 16; (with_reducible refine (HG3.out _).mono ?_); rintro e w8 ⟨rfl, hd8⟩; have c0 := (hd8.cell (cell_lt c0)).trans c0; have c1 := (hd8.cell (cell_lt c1)).trans c1; have hbw := hid_below hbw hd8)
            | (go_at_call 16; (with_reducible refine (HG4.out _).mono ?_); rintro e w9 ⟨rfl, hd9⟩; have hbw := hid_below hbw hd9))
          go_ret
          exact ⟨by simp, hbw.out⟩
end Go.Proofs.Ytjddoohlmgacjaa.Mo

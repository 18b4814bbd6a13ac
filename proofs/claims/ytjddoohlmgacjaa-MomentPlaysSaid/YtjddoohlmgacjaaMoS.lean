/- The walk of the laws' sum of members. -/
import Derived.Test.YtjddoohlmgacjaaMoR
namespace Go.Proofs.Ytjddoohlmgacjaa.Mo
open Go.RowKit Go.Proofs.Ytjddoohlmgacjaa.Kit Go.Proofs.Ytjddoohlmgacjaa.Flo Go.IntWalk
set_option linter.unusedVariables false
set_option linter.unusedSimpArgs false
def sumW : List One → Int
  | [] => 0
  | o :: l => o.wt + sumW l
def sumP : List One → Int
  | [] => 0
  | o :: l => o.wt * o.lag + sumP l
theorem sumW_snoc : ∀ (l : List One) (o : One), sumW (l ++ [o]) = sumW l + o.wt
  | [], o => by simp [sumW]
  | p :: l, o => by simp only [List.cons_append, sumW, sumW_snoc l o]; omega
theorem sumP_snoc : ∀ (l : List One) (o : One), sumP (l ++ [o]) = sumP l + o.wt * o.lag
  | [], o => by simp [sumP]
  | p :: l, o => by simp only [List.cons_append, sumP, sumP_snoc l o]; omega
theorem mul_bd (o : One) : -1099511627776 ≤ o.wt * o.lag ∧ o.wt * o.lag ≤ 1099511627776 := by
  have h1 := o.wt_bd
  have h2 := o.lag_bd
  have e : (o.wt * o.lag).natAbs ≤ 1048576 * 1048576 := by
    rw [Int.natAbs_mul]
    exact Nat.mul_le_mul (by omega) (by omega)
  omega
theorem sum_bd : ∀ l : List One, 0 ≤ sumW l ∧ sumW l ≤ 1048576 * (l.length : Int) ∧ -(1099511627776 * (l.length : Int)) ≤ sumP l ∧ sumP l ≤ 1099511627776 * (l.length : Int)
  | [] => by simp [sumW, sumP]
  | o :: l => by
    have h := sum_bd l
    have h1 := o.wt_bd
    have h2 := mul_bd o
    simp only [sumW, sumP, List.length_cons]
    omega
/-- The address of an element's part, as the walk reckons it. -/
theorem add_part (ad : Addr) (n j : Nat) (hj : 0 < j) : ad.add (n + j) = ⟨(ad.add n).block, (ad.add n).off + j, none⟩ := by
  unfold Addr.add
  by_cases hn : n = 0
  · subst hn
    simp [show j ≠ 0 by omega]
  · simp [hn, Nat.add_assoc]
set_option maxHeartbeats 16000000 in
theorem summed_any (base : Int) (A : Option Addr) (l : List One) (cap : Nat) (w : World) (ho : Hid (Ones w A l)) (hwf : ∀ o ∈ l, o.Wf) (hl : l.length ≤ 100) (hb : -1152921504606846976 ≤ base ∧ base ≤ 1152921504606846976) :
    Calls Try.prog 11 #[.int .i64 base, .slice A l.length cap] w (ValPost w (mo base (sumW l) (sumP l))) := by
  have HN : Hid (∀ w, Calls Try.prog 18 #[.int .i64 base] w (ValPost w (.agg #[.int .i64 base, .complex .f64 (fi 0) (fi 0)]))) := fun w => new_any base w
  have hst := store_complex
  have HWF := Kit.hid hwf
  clear hwf
  unfold mo
  go_enter Try.func11, Try.ntmps11
  go_wp2_with (first
    | (go_at_call 18; refine (HN.out _).mono ?_; rintro e w1 ⟨rfl, hd1⟩))
  obtain ⟨g, hg⟩ : ∃ g, g = w1.heap.size := ⟨_, rfl⟩
  have hgw : w.heap.size < g := by
    have := hd1.size
    rw [hg]
    have h2 : (w.alloc (.cells #[.int .i64 0, .complex .f64 0 0] 27)).heap.size = w.heap.size + 1 := by simp
    omega
  have hZ : w1.heap[w.heap.size]? = some (.cells #[.int .i64 0, .complex .f64 0 0] 27 (0, 0)) := blk_below (blk_new w (.cells #[.int .i64 0, .complex .f64 0 0] 27)) hd1
  have hd2 : Below w.heap.size w (w1.alloc (.cells #[.int .i64 base, .complex .f64 (fi 0) (fi 0)] 27)) := (((Below.refl _ _).alloc (Nat.le_refl _) _).trans (hd1.mono (by simp))).alloc (by rw [← hg]; omega) _
  have hZ2 := blk_alloc hZ (.cells #[.int .i64 base, .complex .f64 (fi 0) (fi 0)] 27)
  have hM := blk_new w1 (.cells #[.int .i64 base, .complex .f64 (fi 0) (fi 0)] 27)
  rw [← hg] at hM
  rw [← hg]
  have HZ2 := Kit.hid hZ2
  have HM := Kit.hid hM
  have HD2 := Kit.hid hd2
  clear hg hZ hZ2 hM hd2 hd1
  go_loopw [6] (fun v6 wr => ∃ (i : Nat), i ≤ l.length ∧ v6 = .int .i64 i ∧ Hid (wr.heap[g]? = some (.cells #[.int .i64 base, .complex .f64 (fi (sumW (l.take i))) (fi (sumP (l.take i)))] 27 (0, 0))) ∧ Hid (wr.heap[w.heap.size]? = some (.cells #[.int .i64 0, .complex .f64 0 0] 27 (0, 0))) ∧ Hid (Below w.heap.size w wr)) (fun i _ => l.length - (intOf i).toNat)
  case atStart => exact ⟨0, by omega, rfl, HM, HZ2, HD2⟩
  case round =>
    obtain ⟨i, hi, rfl, hm, hz, hbw⟩ := hrel
    by_cases hlt : i < l.length
    · obtain ⟨ad, rfl, k0, k1, k2⟩ := (ones_below ho hbw.out).out i hlt
      have hne0 : (ad.add (i * 3)).block ≠ g := by
        obtain ⟨ad', had, q0, _, _⟩ := ho.out i hlt
        cases had
        have := cell_lt q0
        omega
      have hne : ad.block ≠ g := by rw [add_block] at hne0; exact hne0
      rw [add_part ad (i * 3) 1 (by decide)] at k1
      rw [add_part ad (i * 3) 2 (by decide)] at k2
      have hwf := HWF.out l[i] (List.getElem_mem hlt)
      obtain ⟨o, hoo⟩ : ∃ o, o = l[i] := ⟨_, rfl⟩
      rw [← hoo] at k0 k1 k2 hwf
      have HSW : Hid (sumW (l.take (i + 1)) = sumW (l.take i) + o.wt) := Kit.hid (by rw [List.take_succ_eq_append_getElem hlt, sumW_snoc, hoo])
      have HSP : Hid (sumP (l.take (i + 1)) = sumP (l.take i) + o.wt * o.lag) := Kit.hid (by rw [List.take_succ_eq_append_getElem hlt, sumP_snoc, hoo])
      have hbd := sum_bd (l.take i)
      rw [List.length_take, Nat.min_eq_left hi] at hbd
      obtain ⟨W, hW⟩ : ∃ W, W = sumW (l.take i) := ⟨_, rfl⟩
      obtain ⟨P, hP⟩ : ∃ P, P = sumP (l.take i) := ⟨_, rfl⟩
      rw [← hW] at hbd HSW hm
      rw [← hP] at hbd HSP hm
      have ob := o.wt_bd
      have lb := o.lag_bd
      have mb := mul_bd o
      have HBY := Kit.hid (fun w' => by_any o hwf w')
      have HWT := Kit.hid (fun w' => wt_any o hwf w')
      have HAD : Hid (∀ w', Calls Try.prog 17 #[.agg #[.int .i64 base, .complex .f64 (fi W) (fi P)], .int .i64 (base + o.lag), .int .i64 o.wt] w' (ValPost w' (.agg #[.int .i64 base, .complex .f64 (fi (W + o.wt)) (fi (P + o.wt * o.lag))]))) :=
        Kit.hid (fun w' => add_any base W P (base + o.lag) o.wt o.lag w' (by omega) (by omega) ob.1 (by omega) (by rw [← Int.natAbs_mul]; omega) (by omega) (by omega) (by omega) (by omega))
      have r1 : IntKind.i64.wrap (base + o.lag) = base + o.lag := i64_in _ (by omega)
      have r2 : wrap64 (base + o.lag) = base + o.lag := by unfold wrap64; omega
      unfold One.val at HBY HWT
      have hbg := blk_lt hm.out
      clear hW hP hbd ob lb mb hoo hwf
      obtain ⟨c0, c1, z0, z1, _, _⟩ := own_block hm.out (.int .i64 base)
      go_wp2
      go_region_with (first
          | (go_at_call 13; refine (HBY.out _).mono ?_; rintro e w2 ⟨rfl, hd2⟩; have b2 := blk_below (w := wr.drew) hm.out hd2; obtain ⟨c0, c1, z0, z1, _, _⟩ := own_block b2 (.int .i64 base); have k0 := (hd2.cell (cell_lt k0)).trans k0; have k1 := (hd2.cell (cell_lt k1)).trans k1; have k2 := (hd2.cell (cell_lt k2)).trans k2)
          | (go_at_call 12; refine (HWT.out _).mono ?_; rintro e w3 ⟨rfl, hd3⟩; have b3 := blk_below b2 hd3; obtain ⟨c0, c1, z0, z1, _, _⟩ := own_block b3 (.int .i64 base))
          | (go_at_call 17; refine (HAD.out _).mono ?_; rintro e w4 ⟨rfl, hd4⟩; have b4 := blk_below b3 hd4; obtain ⟨c0, c1, z0, z1, _, z2⟩ := own_block b4 (.int .i64 base); obtain ⟨d0, d1, y0, y1, d2, y2⟩ := own_block b4 (.int .i64 base)))
      all_goals
        have hb4 : Below w.heap.size w w4 := by
          have h2 : Below w.heap.size w w2 := hbw.out.trans (Below.mono ⟨hd2.os, hd2.tape, hd2.output, hd2.size, hd2.block⟩ hbw.out.size)
          have h3 := h2.trans (hd3.mono h2.size)
          exact h3.trans (hd4.mono h3.size)
        have hz4 := blk_below (blk_below (blk_below (w := wr.drew) hz.out hd2) hd3) hd4
        have hgz : w.heap.size ≠ g := Nat.ne_of_lt hgw
        have hz5 := blk_far (blk_far hz4 (p := ⟨g, 0, none⟩) hgz (.int .i64 base)) (p := ⟨g, 1, none⟩) hgz (.complex .f64 (fi (W + o.wt)) (fi (P + o.wt * o.lag)))
        obtain ⟨_, _, hm5⟩ := own_done b4 (.int .i64 base) (.complex .f64 (fi (W + o.wt)) (fi (P + o.wt * o.lag)))
        rw [← HSW.out, ← HSP.out] at hm5 hz5
        have HM5 := Kit.hid hm5
        have HZ5 := Kit.hid hz5
        have HB5 := Kit.hid ((hb4.setCell (p := ⟨g, 0, none⟩) (Nat.le_of_lt hgw) (.int .i64 base)).setCell (p := ⟨g, 1, none⟩) (Nat.le_of_lt hgw) (.complex .f64 (fi (W + o.wt)) (fi (P + o.wt * o.lag))))
        rw [← HSW.out, ← HSP.out] at HB5
        rw [← HSW.out, ← HSP.out]
        clear hm5 hz5 hz4 b2 b3 b4 c0 c1 z0 z1 z2 d0 d1 y0 y1 d2 y2 k0 k1 k2 r1 r2
        go_wp2_with fail
        go_roundw
        case rel => exact ⟨i + 1, by omega, by go_num, HM5, HZ5, HB5⟩
        case measure => simp [intOf]; omega
    · obtain rfl : i = l.length := by omega
      rw [List.take_length] at hm
      obtain ⟨c0, c1, _, _, _, _⟩ := own_block hm.out (.int .i64 base)
      obtain ⟨d0, d1, y0, y1, d2, y2⟩ := own_block hz.out (.int .i64 base)
      obtain ⟨_, _, hR⟩ := own_done hz.out (.int .i64 base) (.complex .f64 (fi (sumW l)) (fi (sumP l)))
      have HR := Kit.hid hR
      clear hR
      go_wp2_with fail
      exact mo_ret rfl w.heap.size _ _ rfl HR.out rfl ⟨rfl, (hbw.out.setCell (p := ⟨w.heap.size, 0, none⟩) (Nat.le_refl _) _).setCell (p := ⟨w.heap.size, 1, none⟩) (Nat.le_refl _) _⟩
end Go.Proofs.Ytjddoohlmgacjaa.Mo

/- The plain law of PaceWeighs: what the printed functions compute answers as the statement says. No condition beyond the statement's own. -/
import Derived.Test.YthbnmdehcinikaaPPaceWeighsx5
import Derived.OpenShut
namespace Go.Proofs.Ythbnmdehcinikaa.Pure
set_option linter.unusedVariables false
set_option linter.unusedSimpArgs false
open Go.RowKit Go.Proofs.Ythbnmdehcinikaa.PPaceWeighs Go.Proofs.YthbnmdehcinikaaW.PrintWords Go.Proofs.YthbnmdehcinikaaW.PrintLast
def cl (w : Int) : Int := if w < 1 then 1 else if 1048576 < w then 1048576 else w
theorem cl_bd (w : Int) : 1 ≤ cl w ∧ cl w ≤ 1048576 := by
  unfold cl
  repeat' split
  all_goals omega
theorem w64 {n : Int} (h0 : -9223372036854775808 ≤ n) (h1 : n ≤ 9223372036854775807) : wrap64 n = n := by unfold wrap64; omega
theorem weighs_eq (w : Int) : pace_weighs.f w = some (cl w) := by
  unfold pace_weighs.f pace_held_int.f
  simp only [Option.bind_some]
  congr 1
  unfold mx mn cl
  repeat' split
  all_goals omega
def ct (t : Int) : Int := if t < 0 then 0 else if 1099511627776 < t then 1099511627776 else t
theorem ct_bd (w : Int) : 0 ≤ ct w ∧ ct w ≤ 1099511627776 := by
  unfold ct
  repeat' split
  all_goals omega
theorem ct_id {t : Int} (h0 : 0 ≤ t) (h1 : t ≤ 1099511627776) : ct t = t := by unfold ct; rw [if_neg (by omega), if_neg (by omega)]
theorem held_ct (t : Int) : pace_held_int.f t 0 1099511627776 = some (ct t) := by
  unfold pace_held_int.f
  congr 1
  unfold mx mn ct
  repeat' split
  all_goals omega
theorem div_bd {T w : Int} (h0 : 0 ≤ T) (hw : 1 ≤ w) : 0 ≤ T / w ∧ T / w ≤ T :=
  ⟨Int.ediv_nonneg h0 (by omega), Int.ediv_le_self _ h0⟩
theorem mod_bd {T w : Int} (hw : 1 ≤ w) : 0 ≤ T % w ∧ T % w < w := ⟨Int.emod_nonneg _ (by omega), Int.emod_lt_of_pos _ (by omega)⟩
theorem run_eq {v r w t : Int} (hv0 : 0 ≤ v) (hv : v ≤ 4611686018427387904) (hr : 0 ≤ r) (hr2 : r ≤ 1048576) :
    pace_Run.f v r w t = some (v + (1048576 * ct t + r) / cl w, (1048576 * ct t + r) % cl w) := by
  unfold pace_Run.f
  rw [weighs_eq, held_ct]
  simp only [Option.bind_some]
  have hw := cl_bd w
  have ht := ct_bd t
  rw [if_neg (by omega), w64 (n := 1048576 * ct t) (by omega) (by omega), w64 (n := 1048576 * ct t + r) (by omega) (by omega)]
  have hT : 0 ≤ 1048576 * ct t + r := by omega
  have hd := div_bd hT hw.1
  rw [Int.tdiv_eq_ediv_of_nonneg hT, Int.tmod_eq_emod_of_nonneg hT, w64 (n := (1048576 * ct t + r) / cl w) (by omega) (by omega), w64 (by omega) (by omega)]
theorem done_eq {v r w : Int} (h0 : 0 ≤ v * cl w) (hr : 0 ≤ r) (h : v * cl w + r ≤ 9223372036854775807) :
    pace_Done.f v r w = some ((v * cl w + r) / 1048576) := by
  unfold pace_Done.f
  rw [weighs_eq]
  simp only [Option.bind_some]
  rw [w64 (n := v * cl w) (by omega) (by omega), w64 (n := v * cl w + r) (by omega) (by omega), Int.tdiv_eq_ediv_of_nonneg (by omega)]
  have hd := div_bd (T := v * cl w + r) (w := 1048576) (by omega) (by omega)
  rw [w64 (by omega) (by omega)]
theorem right_eq (v r w : Int) : pace_Right.f v r w = some (decide (0 ≤ v ∧ v ≤ 2305843009213693952 ∧ 0 ≤ r ∧ r < cl w)) := by
  unfold pace_Right.f
  rw [weighs_eq]
  simp only [Option.bind_some, ge_iff_le]
  repeat' split
  all_goals (congr 1; symm; first | (apply decide_eq_false; omega) | (apply decide_eq_decide.2; omega))
theorem awake_eq : diapauselaw04_awake.f = some true := by
  unfold diapauselaw04_awake.f
  rw [run_eq (by omega) (by omega) (by omega) (by omega), run_eq (by omega) (by omega) (by omega) (by omega)]
  decide +kernel
theorem weight_eq (w : Int) : diapauseref04_Weight.f w = some (cl w) := by
  unfold diapauseref04_Weight.f cl
  repeat' split
  all_goals first | rfl | (congr 1; omega)
theorem rright_eq (v r w : Int) : diapauseref04_Right.f v r w = some (decide (0 ≤ v ∧ v ≤ 2305843009213693952 ∧ 0 ≤ r ∧ r < cl w)) := by
  unfold diapauseref04_Right.f
  rw [weight_eq]
  simp only [Option.bind_some, ge_iff_le]
  repeat' split
  all_goals (congr 1; symm; first | (apply decide_eq_false; omega) | (apply decide_eq_decide.2; omega))
theorem rew_eq {v r a b : Int} (hr : 0 ≤ r) (hr2 : r ≤ 1048576) : pace_Reweigh.f v r a b = some (v, r * cl b / cl a) := by
  have ha := cl_bd a
  have hb := cl_bd b
  unfold pace_Reweigh.f
  rw [weighs_eq, weighs_eq]
  simp only [Option.bind_some]
  have hp : 0 ≤ r * cl b := Int.mul_nonneg hr (by omega)
  have hq : r * cl b ≤ 1048576 * 1048576 := Int.mul_le_mul hr2 hb.2 (by omega) (by omega)
  have hd := div_bd hp ha.1
  rw [if_neg (by omega), w64 (n := r * cl b) (by omega) (by omega), Int.tdiv_eq_ediv_of_nonneg hp, w64 (n := r * cl b / cl a) (by omega) (by omega)]
theorem rem_lt {r a b : Int} (hr : 0 ≤ r) (hra : r < a) (hb : 1 ≤ b) : r * b / a < b := by
  apply Int.ediv_lt_of_lt_mul (by omega)
  rw [Int.mul_comm]
  exact Int.mul_lt_mul_of_pos_left hra (by omega)
theorem back_le {r a b : Int} (hr : 0 ≤ r) (ha : 1 ≤ a) (hb : 1 ≤ b) : r * b / a * a / b ≤ r := by
  apply Int.ediv_le_of_le_mul (by omega)
  exact Int.ediv_mul_le _ (by omega)
theorem PaceWeighs (a b f t : Int) : diapauselaw04_PaceWeighs.f a b f t = some true := by
  unfold diapauselaw04_PaceWeighs.f
  rw [awake_eq, rright_eq]
  simp only [Option.bind_some]
  have hf := cl_bd f
  have ht := cl_bd t
  by_cases hr : 0 ≤ a ∧ a ≤ 2305843009213693952 ∧ 0 ≤ b ∧ b < cl f
  · rw [if_pos (decide_eq_true hr)]
    obtain ⟨h1, h2, h3, h4⟩ := hr
    have hl := rem_lt h3 h4 ht.1
    have hn : 0 ≤ b * cl t / cl f := Int.ediv_nonneg (Int.mul_nonneg h3 (by omega)) (by omega)
    have hbk := back_le (a := cl f) (b := cl t) h3 hf.1 ht.1
    have hself : b * cl f / cl f = b := Int.mul_ediv_cancel _ (by omega)
    rw [rew_eq h3 (by omega)]
    simp only [Option.bind_some]
    rw [rew_eq hn (by omega), rew_eq h3 (by omega), hself, right_eq]
    simp only [Option.bind_some, if_true, BEq.rfl, Bool.and_self]
    rw [if_pos (decide_eq_true ⟨h1, h2, hn, hl⟩)]
    congr 1
    exact decide_eq_true hbk
  · rw [if_neg (by simpa using hr)]
end Go.Proofs.Ythbnmdehcinikaa.Pure

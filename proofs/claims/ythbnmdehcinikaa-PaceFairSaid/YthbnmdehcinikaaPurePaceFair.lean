/- The plain law of PaceFair: what the printed functions compute answers as the statement says. No condition beyond the statement's own. -/
import Derived.Test.YthbnmdehcinikaaPPaceFairx3
import Derived.OpenShut
namespace Go.Proofs.Ythbnmdehcinikaa.Pure
set_option linter.unusedVariables false
set_option linter.unusedSimpArgs false
open Go.RowKit Go.Proofs.Ythbnmdehcinikaa.PPaceFair Go.Proofs.YthbnmdehcinikaaW.PrintWords Go.Proofs.YthbnmdehcinikaaW.PrintLast
def cl (w : Int) : Int := if w < 1 then 1 else if 1048576 < w then 1048576 else w
theorem cl_bd (w : Int) : 1 ≤ cl w ∧ cl w ≤ 1048576 := by
  unfold cl
  repeat' split
  all_goals omega
theorem w64 {n : Int} (h0 : -9223372036854775808 ≤ n) (h1 : n ≤ 9223372036854775807) : wrap64 n = n := by unfold wrap64; omega
theorem weighs_eq (w : Int) : pace_weighs.f w = some (cl w) := by
  unfold pace_weighs.f pace_held_int.f
  simp only [Option.bind_some]
  congr 1
  unfold mx mn cl
  repeat' split
  all_goals omega
def ct (t : Int) : Int := if t < 0 then 0 else if 1099511627776 < t then 1099511627776 else t
theorem ct_bd (w : Int) : 0 ≤ ct w ∧ ct w ≤ 1099511627776 := by
  unfold ct
  repeat' split
  all_goals omega
theorem ct_id {t : Int} (h0 : 0 ≤ t) (h1 : t ≤ 1099511627776) : ct t = t := by unfold ct; rw [if_neg (by omega), if_neg (by omega)]
theorem held_ct (t : Int) : pace_held_int.f t 0 1099511627776 = some (ct t) := by
  unfold pace_held_int.f
  congr 1
  unfold mx mn ct
  repeat' split
  all_goals omega
theorem div_bd {T w : Int} (h0 : 0 ≤ T) (hw : 1 ≤ w) : 0 ≤ T / w ∧ T / w ≤ T :=
  ⟨Int.ediv_nonneg h0 (by omega), Int.ediv_le_self _ h0⟩
theorem mod_bd {T w : Int} (hw : 1 ≤ w) : 0 ≤ T % w ∧ T % w < w := ⟨Int.emod_nonneg _ (by omega), Int.emod_lt_of_pos _ (by omega)⟩
theorem run_eq {v r w t : Int} (hv0 : 0 ≤ v) (hv : v ≤ 4611686018427387904) (hr : 0 ≤ r) (hr2 : r ≤ 1048576) :
    pace_Run.f v r w t = some (v + (1048576 * ct t + r) / cl w, (1048576 * ct t + r) % cl w) := by
  unfold pace_Run.f
  rw [weighs_eq, held_ct]
  simp only [Option.bind_some]
  have hw := cl_bd w
  have ht := ct_bd t
  rw [if_neg (by omega), w64 (n := 1048576 * ct t) (by omega) (by omega), w64 (n := 1048576 * ct t + r) (by omega) (by omega)]
  have hT : 0 ≤ 1048576 * ct t + r := by omega
  have hd := div_bd hT hw.1
  rw [Int.tdiv_eq_ediv_of_nonneg hT, Int.tmod_eq_emod_of_nonneg hT, w64 (n := (1048576 * ct t + r) / cl w) (by omega) (by omega), w64 (by omega) (by omega)]
theorem done_eq {v r w : Int} (h0 : 0 ≤ v * cl w) (hr : 0 ≤ r) (h : v * cl w + r ≤ 9223372036854775807) :
    pace_Done.f v r w = some ((v * cl w + r) / 1048576) := by
  unfold pace_Done.f
  rw [weighs_eq]
  simp only [Option.bind_some]
  rw [w64 (n := v * cl w) (by omega) (by omega), w64 (n := v * cl w + r) (by omega) (by omega), Int.tdiv_eq_ediv_of_nonneg (by omega)]
  have hd := div_bd (T := v * cl w + r) (w := 1048576) (by omega) (by omega)
  rw [w64 (by omega) (by omega)]
theorem right_eq (v r w : Int) : pace_Right.f v r w = some (decide (0 ≤ v ∧ v ≤ 2305843009213693952 ∧ 0 ≤ r ∧ r < cl w)) := by
  unfold pace_Right.f
  rw [weighs_eq]
  simp only [Option.bind_some, ge_iff_le]
  repeat' split
  all_goals (congr 1; symm; first | (apply decide_eq_false; omega) | (apply decide_eq_decide.2; omega))
theorem awake_eq : diapauselaw04_awake.f = some true := by
  unfold diapauselaw04_awake.f
  rw [run_eq (by omega) (by omega) (by omega) (by omega), run_eq (by omega) (by omega) (by omega) (by omega)]
  decide +kernel
theorem step_bd {r w : Int} (hw : 1 ≤ w) (hr : r < w) : (1048576 + r) / w ≤ 1048576 / w + 1 := by
  have h := Int.ediv_le_ediv (a := 1048576 + r) (b := 1048576 + 1 * w) (c := w) (by omega) (by omega)
  rw [Int.add_mul_ediv_right _ _ (by omega)] at h
  exact h
theorem less_eq (a b c d : Int) : pace_Less.f a b c d = some (decide (a < c ∨ a = c ∧ b < d)) := by
  unfold pace_Less.f
  repeat' split
  all_goals (congr 1; symm; first | (apply decide_eq_false; omega) | (apply decide_eq_true; omega) | (apply decide_eq_decide.2; omega))
theorem inv_step {v r w m : Int} (hw : 1 ≤ w) (h : v * w + r = 1048576 * m) : (v + (1048576 + r) / w) * w + (1048576 + r) % w = 1048576 * (m + 1) := by
  have he : (1048576 + r) / w * w + (1048576 + r) % w = 1048576 + r := by rw [Int.mul_comm]; exact Int.mul_ediv_add_emod _ _
  rw [Int.add_mul]; omega
end Go.Proofs.Ythbnmdehcinikaa.Pure

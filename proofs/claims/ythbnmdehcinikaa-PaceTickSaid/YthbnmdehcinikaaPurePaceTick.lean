/- The plain law of PaceTick: what the printed functions compute answers as the statement says. No condition beyond the statement's own. -/
import Derived.Test.YthbnmdehcinikaaPPaceTickx5
import Derived.OpenShut
namespace Go.Proofs.Ythbnmdehcinikaa.Pure
set_option linter.unusedVariables false
set_option linter.unusedSimpArgs false
open Go.RowKit Go.Proofs.Ythbnmdehcinikaa.PPaceTick Go.Proofs.YthbnmdehcinikaaW.PrintWords Go.Proofs.YthbnmdehcinikaaW.PrintLast
def cl (w : Int) : Int := if w < 1 then 1 else if 1048576 < w then 1048576 else w
theorem cl_bd (w : Int) : 1 ≤ cl w ∧ cl w ≤ 1048576 := by
  unfold cl
  repeat' split
  all_goals omega
theorem w64 {n : Int} (h0 : -9223372036854775808 ≤ n) (h1 : n ≤ 9223372036854775807) : wrap64 n = n := by unfold wrap64; omega
theorem weighs_eq (w : Int) : pace_weighs.f w = some (cl w) := by
  unfold pace_weighs.f pace_held_int.f
  simp only [Option.bind_some]
  congr 1
  unfold mx mn cl
  repeat' split
  all_goals omega
def ct (t : Int) : Int := if t < 0 then 0 else if 1099511627776 < t then 1099511627776 else t
theorem ct_bd (w : Int) : 0 ≤ ct w ∧ ct w ≤ 1099511627776 := by
  unfold ct
  repeat' split
  all_goals omega
theorem ct_id {t : Int} (h0 : 0 ≤ t) (h1 : t ≤ 1099511627776) : ct t = t := by unfold ct; rw [if_neg (by omega), if_neg (by omega)]
theorem held_ct (t : Int) : pace_held_int.f t 0 1099511627776 = some (ct t) := by
  unfold pace_held_int.f
  congr 1
  unfold mx mn ct
  repeat' split
  all_goals omega
theorem div_bd {T w : Int} (h0 : 0 ≤ T) (hw : 1 ≤ w) : 0 ≤ T / w ∧ T / w ≤ T :=
  ⟨Int.ediv_nonneg h0 (by omega), Int.ediv_le_self _ h0⟩
theorem mod_bd {T w : Int} (hw : 1 ≤ w) : 0 ≤ T % w ∧ T % w < w := ⟨Int.emod_nonneg _ (by omega), Int.emod_lt_of_pos _ (by omega)⟩
theorem run_eq {v r w t : Int} (hv0 : 0 ≤ v) (hv : v ≤ 4611686018427387904) (hr : 0 ≤ r) (hr2 : r ≤ 1048576) :
    pace_Run.f v r w t = some (v + (1048576 * ct t + r) / cl w, (1048576 * ct t + r) % cl w) := by
  unfold pace_Run.f
  rw [weighs_eq, held_ct]
  simp only [Option.bind_some]
  have hw := cl_bd w
  have ht := ct_bd t
  rw [if_neg (by omega), w64 (n := 1048576 * ct t) (by omega) (by omega), w64 (n := 1048576 * ct t + r) (by omega) (by omega)]
  have hT : 0 ≤ 1048576 * ct t + r := by omega
  have hd := div_bd hT hw.1
  rw [Int.tdiv_eq_ediv_of_nonneg hT, Int.tmod_eq_emod_of_nonneg hT, w64 (n := (1048576 * ct t + r) / cl w) (by omega) (by omega), w64 (by omega) (by omega)]
theorem done_eq {v r w : Int} (h0 : 0 ≤ v * cl w) (hr : 0 ≤ r) (h : v * cl w + r ≤ 9223372036854775807) :
    pace_Done.f v r w = some ((v * cl w + r) / 1048576) := by
  unfold pace_Done.f
  rw [weighs_eq]
  simp only [Option.bind_some]
  rw [w64 (n := v * cl w) (by omega) (by omega), w64 (n := v * cl w + r) (by omega) (by omega), Int.tdiv_eq_ediv_of_nonneg (by omega)]
  have hd := div_bd (T := v * cl w + r) (w := 1048576) (by omega) (by omega)
  rw [w64 (by omega) (by omega)]
theorem right_eq (v r w : Int) : pace_Right.f v r w = some (decide (0 ≤ v ∧ v ≤ 2305843009213693952 ∧ 0 ≤ r ∧ r < cl w)) := by
  unfold pace_Right.f
  rw [weighs_eq]
  simp only [Option.bind_some, ge_iff_le]
  repeat' split
  all_goals (congr 1; symm; first | (apply decide_eq_false; omega) | (apply decide_eq_decide.2; omega))
theorem awake_eq : diapauselaw04_awake.f = some true := by
  unfold diapauselaw04_awake.f
  rw [run_eq (by omega) (by omega) (by omega) (by omega), run_eq (by omega) (by omega) (by omega) (by omega)]
  decide +kernel
theorem weight_eq (w : Int) : diapauseref04_Weight.f w = some (cl w) := by
  unfold diapauseref04_Weight.f cl
  repeat' split
  all_goals first | rfl | (congr 1; omega)
theorem rright_eq (v r w : Int) : diapauseref04_Right.f v r w = some (decide (0 ≤ v ∧ v ≤ 2305843009213693952 ∧ 0 ≤ r ∧ r < cl w)) := by
  unfold diapauseref04_Right.f
  rw [weight_eq]
  simp only [Option.bind_some, ge_iff_le]
  repeat' split
  all_goals (congr 1; symm; first | (apply decide_eq_false; omega) | (apply decide_eq_decide.2; omega))
theorem one_loop (w r0 : Int) (hw : 1 ≤ w) : ∀ (d k : Nat) (left v : Int), left / w = d → d < k → 0 ≤ left → left ≤ 4194304 → 0 ≤ v → v ≤ 4611686018427387904 - left →
    diapauseref04_One.l0 k w left v r0 = some (v + left / w, left % w)
  | 0, k, left, v, hd, hk, h0, h1, hv0, hv1 => by
    obtain ⟨k, rfl⟩ : ∃ m, k = m + 1 := ⟨k - 1, by omega⟩
    have hm := Int.mul_ediv_add_emod left w
    have hr := mod_bd (T := left) hw
    rw [hd] at hm
    simp only [diapauseref04_One.l0]
    have hlt : left < w := by
      have : w * ((0 : Nat) : Int) = 0 := by simp
      omega
    rw [if_neg (by omega), hd, Int.emod_eq_of_lt h0 hlt]
    simp
  | d + 1, k, left, v, hd, hk, h0, h1, hv0, hv1 => by
    obtain ⟨k, rfl⟩ : ∃ m, k = m + 1 := ⟨k - 1, by omega⟩
    have hge : w ≤ left := by
      by_cases h : left < w
      · rw [Int.ediv_eq_zero_of_lt h0 h] at hd; omega
      · omega
    have e1 : (left - w) / w = left / w - 1 := Int.sub_ediv_of_dvd left (Int.dvd_refl w) |>.trans (by rw [Int.ediv_self (by omega)])
    have e2 : (left - w) % w = left % w := by simp
    simp only [diapauseref04_One.l0]
    rw [if_pos (by omega), w64 (n := left - w) (by omega) (by omega), w64 (n := v + 1) (by omega) (by omega)]
    rw [one_loop w r0 hw d k (left - w) (v + 1) (by rw [e1, hd]; omega) (by omega) (by omega) (by omega) (by omega) (by omega), e1, e2]
    congr 2
    omega
theorem PaceTick (a b w : Int) : ∃ k, diapauselaw04_PaceTick.f k a b w = some true := by
  refine ⟨2097160, ?_⟩
  have hw := cl_bd w
  unfold diapauselaw04_PaceTick.f
  rw [awake_eq, rright_eq]
  simp only [Option.bind_some]
  by_cases hr : 0 ≤ a ∧ a ≤ 2305843009213693952 ∧ 0 ≤ b ∧ b < cl w
  · rw [if_pos (decide_eq_true hr)]
    obtain ⟨h1, h2, h3, h4⟩ := hr
    rw [show (2097160 : Nat) = 2097159 + 1 from rfl]
    simp only [diapauselaw04_PaceTick.j0]
    by_cases hlt : w < 1024
    · rw [if_pos (decide_eq_true hlt)]
    · rw [if_neg (by simpa using hlt), run_eq h1 (by omega) h3 (by omega), ct_id (by omega) (by omega)]
      simp only [Option.bind_some, Int.mul_one]
      unfold diapauseref04_One.f
      rw [weight_eq]
      simp only [Option.bind_some]
      have hd := div_bd (T := 1048576 + b) (by omega) hw.1
      have hm := mod_bd (T := 1048576 + b) hw.1
      rw [w64 (n := 1048576 + b) (by omega) (by omega), one_loop (cl w) b hw.1 ((1048576 + b) / cl w).toNat 2097159 (1048576 + b) a (by omega) (by omega) (by omega) (by omega) h1 (by omega)]
      simp only [Option.bind_some, BEq.rfl, Bool.and_self, if_true]
      rw [if_pos (by omega)]
      congr 1
      apply decide_eq_true
      omega
  · rw [if_neg (by simpa using hr), show (2097160 : Nat) = 2097159 + 1 from rfl]
    simp only [diapauselaw04_PaceTick.j0, if_true]
end Go.Proofs.Ythbnmdehcinikaa.Pure

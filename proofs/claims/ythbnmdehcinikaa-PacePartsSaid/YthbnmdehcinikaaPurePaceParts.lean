/- The plain law of PaceParts: what the printed functions compute answers as the statement says. No condition beyond the statement's own. -/
import Derived.Test.YthbnmdehcinikaaPPacePartsx4
import Derived.OpenShut
namespace Go.Proofs.Ythbnmdehcinikaa.Pure
set_option linter.unusedVariables false
set_option linter.unusedSimpArgs false
open Go.RowKit Go.Proofs.Ythbnmdehcinikaa.PPaceParts Go.Proofs.YthbnmdehcinikaaW.PrintWords Go.Proofs.YthbnmdehcinikaaW.PrintLast
def cl (w : Int) : Int := if w < 1 then 1 else if 1048576 < w then 1048576 else w
theorem cl_bd (w : Int) : 1 ≤ cl w ∧ cl w ≤ 1048576 := by
  unfold cl
  repeat' split
  all_goals omega
theorem w64 {n : Int} (h0 : -9223372036854775808 ≤ n) (h1 : n ≤ 9223372036854775807) : wrap64 n = n := by unfold wrap64; omega
theorem weighs_eq (w : Int) : pace_weighs.f w = some (cl w) := by
  unfold pace_weighs.f pace_held_int.f
  simp only [Option.bind_some]
  congr 1
  unfold mx mn cl
  repeat' split
  all_goals omega
def ct (t : Int) : Int := if t < 0 then 0 else if 1099511627776 < t then 1099511627776 else t
theorem ct_bd (w : Int) : 0 ≤ ct w ∧ ct w ≤ 1099511627776 := by
  unfold ct
  repeat' split
  all_goals omega
theorem ct_id {t : Int} (h0 : 0 ≤ t) (h1 : t ≤ 1099511627776) : ct t = t := by unfold ct; rw [if_neg (by omega), if_neg (by omega)]
theorem held_ct (t : Int) : pace_held_int.f t 0 1099511627776 = some (ct t) := by
  unfold pace_held_int.f
  congr 1
  unfold mx mn ct
  repeat' split
  all_goals omega
theorem div_bd {T w : Int} (h0 : 0 ≤ T) (hw : 1 ≤ w) : 0 ≤ T / w ∧ T / w ≤ T :=
  ⟨Int.ediv_nonneg h0 (by omega), Int.ediv_le_self _ h0⟩
theorem mod_bd {T w : Int} (hw : 1 ≤ w) : 0 ≤ T % w ∧ T % w < w := ⟨Int.emod_nonneg _ (by omega), Int.emod_lt_of_pos _ (by omega)⟩
theorem run_eq {v r w t : Int} (hv0 : 0 ≤ v) (hv : v ≤ 4611686018427387904) (hr : 0 ≤ r) (hr2 : r ≤ 1048576) :
    pace_Run.f v r w t = some (v + (1048576 * ct t + r) / cl w, (1048576 * ct t + r) % cl w) := by
  unfold pace_Run.f
  rw [weighs_eq, held_ct]
  simp only [Option.bind_some]
  have hw := cl_bd w
  have ht := ct_bd t
  rw [if_neg (by omega), w64 (n := 1048576 * ct t) (by omega) (by omega), w64 (n := 1048576 * ct t + r) (by omega) (by omega)]
  have hT : 0 ≤ 1048576 * ct t + r := by omega
  have hd := div_bd hT hw.1
  rw [Int.tdiv_eq_ediv_of_nonneg hT, Int.tmod_eq_emod_of_nonneg hT, w64 (n := (1048576 * ct t + r) / cl w) (by omega) (by omega), w64 (by omega) (by omega)]
theorem done_eq {v r w : Int} (h0 : 0 ≤ v * cl w) (hr : 0 ≤ r) (h : v * cl w + r ≤ 9223372036854775807) :
    pace_Done.f v r w = some ((v * cl w + r) / 1048576) := by
  unfold pace_Done.f
  rw [weighs_eq]
  simp only [Option.bind_some]
  rw [w64 (n := v * cl w) (by omega) (by omega), w64 (n := v * cl w + r) (by omega) (by omega), Int.tdiv_eq_ediv_of_nonneg (by omega)]
  have hd := div_bd (T := v * cl w + r) (w := 1048576) (by omega) (by omega)
  rw [w64 (by omega) (by omega)]
theorem right_eq (v r w : Int) : pace_Right.f v r w = some (decide (0 ≤ v ∧ v ≤ 2305843009213693952 ∧ 0 ≤ r ∧ r < cl w)) := by
  unfold pace_Right.f
  rw [weighs_eq]
  simp only [Option.bind_some, ge_iff_le]
  repeat' split
  all_goals (congr 1; symm; first | (apply decide_eq_false; omega) | (apply decide_eq_decide.2; omega))
theorem awake_eq : diapauselaw04_awake.f = some true := by
  unfold diapauselaw04_awake.f
  rw [run_eq (by omega) (by omega) (by omega) (by omega), run_eq (by omega) (by omega) (by omega) (by omega)]
  decide +kernel
theorem weight_eq (w : Int) : diapauseref04_Weight.f w = some (cl w) := by
  unfold diapauseref04_Weight.f cl
  repeat' split
  all_goals first | rfl | (congr 1; omega)
theorem rright_eq (v r w : Int) : diapauseref04_Right.f v r w = some (decide (0 ≤ v ∧ v ≤ 2305843009213693952 ∧ 0 ≤ r ∧ r < cl w)) := by
  unfold diapauseref04_Right.f
  rw [weight_eq]
  simp only [Option.bind_some, ge_iff_le]
  repeat' split
  all_goals (congr 1; symm; first | (apply decide_eq_false; omega) | (apply decide_eq_decide.2; omega))
theorem merge {v w r S n : Int} (hw : 1 ≤ w) : v + (1048576 * S + r) / w + (1048576 * n + (1048576 * S + r) % w) / w = v + (1048576 * (S + n) + r) / w ∧
    (1048576 * n + (1048576 * S + r) % w) % w = (1048576 * (S + n) + r) % w := by
  have e : 1048576 * (S + n) + r = 1048576 * n + (1048576 * S + r) % w + (1048576 * S + r) / w * w := by
    have := Int.mul_ediv_add_emod (1048576 * S + r) w
    rw [Int.mul_comm] at this
    omega
  rw [e, Int.add_mul_ediv_right _ _ (by omega), Int.add_mul_emod_self_right]
  exact ⟨by omega, rfl⟩
theorem part_bd {x : Int} (h0 : 0 ≤ x) (h1 : x ≤ 4294967295) : wrap64 (Int.tmod x 1000000) = x % 1000000 := by
  rw [Int.tmod_eq_emod_of_nonneg h0]
  exact w64 (by omega) (by omega)
theorem parts_loop (a b w : Int) (l : List Int) (hl : (l.length : Int) ≤ 20) (hx : ∀ i : Int, 0 ≤ rd l i ∧ rd l i ≤ 4294967295)
    (ha0 : 0 ≤ a) (ha : a ≤ 1152921504606846976) (hb0 : 0 ≤ b) (hb : b < cl w) (d : Nat) :
    ∀ (k : Nat) (S i V R : Int), (l.length : Int) - i = d → d < k → 0 ≤ i → 0 ≤ S → S ≤ 1000000 * i → V = a + (1048576 * S + b) / cl w → R = (1048576 * S + b) % cl w →
      diapauselaw04_PaceParts.l0 k w l true S i a b V R = some true := by
  have hw := cl_bd w
  induction d with
  | zero =>
    intro k S i V R hd hk hi hS hS2 hV hR
    obtain ⟨k, rfl⟩ : ∃ m, k = m + 1 := ⟨k - 1, by omega⟩
    simp only [diapauselaw04_PaceParts.l0]
    have z : (0 + b) / cl w = 0 := by rw [Int.zero_add]; exact Int.ediv_eq_zero_of_lt hb0 hb
    have z' : (0 + b) % cl w = b := by rw [Int.zero_add]; exact Int.emod_eq_of_lt hb0 hb
    rw [if_neg (by omega), run_eq ha0 (by omega) hb0 (by omega), run_eq ha0 (by omega) hb0 (by omega), run_eq ha0 (by omega) hb0 (by omega), ct_id hS (by omega)]
    have c0 : ct 0 = 0 := rfl
    have c1 : ct (-1) = 0 := rfl
    rw [c0, c1, hV, hR]
    simp [z, z', Int.mul_zero]
    have z2 : b / cl w = 0 := Int.ediv_eq_zero_of_lt hb0 hb
    have z3 : b % cl w = b := Int.emod_eq_of_lt hb0 hb
    simp [z2, z3]
  | succ d ih =>
    intro k S i V R hd hk hi hS hS2 hV hR
    obtain ⟨k, rfl⟩ : ∃ m, k = m + 1 := ⟨k - 1, by omega⟩
    have hxi := hx i
    simp only [diapauselaw04_PaceParts.l0]
    have hT : 0 ≤ 1048576 * S + b := by omega
    have hdv := div_bd hT hw.1
    have hmd := mod_bd (T := 1048576 * S + b) hw.1
    rw [if_pos (by omega), if_pos hi, part_bd hxi.1 hxi.2, run_eq (by omega) (by omega) (by omega) (by omega), ct_id (t := rd l i % 1000000) (by omega) (by omega)]
    simp only [Option.bind_some]
    rw [w64 (n := S + rd l i % 1000000) (by omega) (by omega), w64 (n := i + 1) (by omega) (by omega)]
    have hmg := merge (v := a) (w := cl w) (r := b) (S := S) (n := rd l i % 1000000) hw.1
    exact ih k (S + rd l i % 1000000) (i + 1) _ _ (by omega) (by omega) (by omega) (by omega) (by omega) (by rw [hV, hR]; exact hmg.1) (by rw [hR]; exact hmg.2)
theorem PaceParts (a b w : Int) (l : List Int) (hw : ∀ x ∈ l, (Lit.int .u32 x).wf = true) : ∃ k, diapauselaw04_PaceParts.f k a b w l = some true := by
  have hx : ∀ i : Int, 0 ≤ rd l i ∧ rd l i ≤ 4294967295 := by
    intro i
    unfold rd
    by_cases h : i.toNat < l.length
    · rw [List.getD_eq_getElem?_getD, List.getElem?_eq_getElem h]
      exact Go.bounds_u32 (hw _ (List.getElem_mem h))
    · rw [List.getD_eq_getElem?_getD, List.getElem?_eq_none (by omega)]
      simp
  refine ⟨23, ?_⟩
  unfold diapauselaw04_PaceParts.f
  rw [awake_eq, rright_eq]
  simp only [Option.bind_some]
  have hw := cl_bd w
  by_cases hr : 0 ≤ a ∧ a ≤ 2305843009213693952 ∧ 0 ≤ b ∧ b < cl w
  · rw [if_pos (decide_eq_true hr)]
    obtain ⟨h1, h2, h3, h4⟩ := hr
    rw [show (23 : Nat) = 22 + 1 from rfl]
    by_cases hl : (l.length : Int) > 20
    · rw [if_pos hl]
      simp only [diapauselaw04_PaceParts.j0, if_true]
    · rw [if_neg hl]
      simp only [diapauselaw04_PaceParts.j0]
      by_cases hA : a > 1152921504606846976
      · rw [if_pos (decide_eq_true hA)]
      · rw [if_neg (by simpa using hA)]
        exact parts_loop a b w l (by omega) hx h1 (by omega) h3 h4 l.length 22 0 0 a b (by omega) (by omega) (by omega) (by omega) (by omega)
          (by rw [Int.mul_zero, Int.zero_add, Int.ediv_eq_zero_of_lt h3 h4, Int.add_zero]) (by rw [Int.mul_zero, Int.zero_add, Int.emod_eq_of_lt h3 h4])
  · rw [if_neg (by simpa using hr), show (23 : Nat) = 22 + 1 from rfl]
    simp only [diapauselaw04_PaceParts.j0, if_true]
end Go.Proofs.Ythbnmdehcinikaa.Pure

/- The walks of the document's answer of layer 5, and of the comparison. -/
import Derived.Test.YtjddoohlmgacjaaMoL
namespace Go.Proofs.Ytjddoohlmgacjaa.Mo
open Go.RowKit Go.Proofs.Ytjddoohlmgacjaa.Kit Go.Proofs.Ytjddoohlmgacjaa.Flo Go.IntWalk
set_option linter.unusedVariables false
set_option linter.unusedSimpArgs false
/-- The document's moment. -/
def rm (base W P : Int) : Value := .agg #[.int .i64 base, .int .i64 W, .int .i64 P]
set_option maxHeartbeats 400000 in
theorem radd_any (base W P v wt t d : Int) (w : World) (hd : v - base = d) (r0 : -9223372036854775808 ≤ d ∧ d ≤ 9223372036854775807) (r1 : -9223372036854775808 ≤ t * wt ∧ t * wt ≤ 9223372036854775807) (r2 : -9223372036854775808 ≤ W + t * wt ∧ W + t * wt ≤ 9223372036854775807)
    (r3 : -9223372036854775808 ≤ t * wt * d ∧ t * wt * d ≤ 9223372036854775807) (r4 : -9223372036854775808 ≤ P + t * wt * d ∧ P + t * wt * d ≤ 9223372036854775807) :
    Calls Try.prog 19 #[rm base W P, .int .i64 v, .int .i64 wt, .int .i64 t] w (ValPost w (rm base (W + t * wt) (P + t * wt * d))) := by
  have e0 : wrap64 (v - base) = d := by rw [hd]; unfold wrap64; omega
  have e1 : wrap64 (t * wt) = t * wt := by unfold wrap64; omega
  have e2 : wrap64 (W + t * wt) = W + t * wt := by unfold wrap64; omega
  have e3 : wrap64 (t * wt * d) = t * wt * d := by unfold wrap64; omega
  have e4 : wrap64 (P + t * wt * d) = P + t * wt * d := by unfold wrap64; omega
  have HR : Hid (∀ x0 x1 x2 : Int, x0 = base → x1 = W + t * wt → x2 = P + t * wt * d → (.agg #[.int .i64 x0, .int .i64 x1, .int .i64 x2] : Value) = rm base (W + t * wt) (P + t * wt * d)) := by
    show ∀ _ _ _, _
    intro x0 x1 x2 h0 h1 h2
    rw [h0, h1, h2]
    rfl
  unfold rm
  clear r0 r1 r2 r3 r4 hd
  go_enter Try.func19, Try.ntmps19
  go_wp2
  exact bodyPost_ret (results_cell_row rfl _ _ (w.heap.size + 1) 39 _ (0, 0) _ rfl (heap_alloc2_new _ _ _) Try.underlying39 rfl (by kernel_rfl)) rfl ⟨rfl, ((Below.refl _ _).alloc (Nat.le_refl _) _).alloc (by simp) _⟩
set_option maxHeartbeats 400000 in
theorem rgap_any (base W P v d : Int) (w : World) (hd : v - base = d) (r0 : -9223372036854775808 ≤ d ∧ d ≤ 9223372036854775807) (r1 : -9223372036854775808 ≤ W * d ∧ W * d ≤ 9223372036854775807) (r2 : -9223372036854775808 ≤ P - W * d ∧ P - W * d ≤ 9223372036854775807) :
    Calls Try.prog 23 #[rm base W P, .int .i64 v] w (ValPost w (.int .i64 (P - W * d))) := by
  have e0 : wrap64 (v - base) = d := by rw [hd]; unfold wrap64; omega
  have e1 : wrap64 (W * d) = W * d := by unfold wrap64; omega
  have E2 : Hid (wrap64 (P - W * d) = P - W * d) := Kit.hid (by unfold wrap64; omega)
  unfold rm
  clear r0 r1 r2 hd
  go_enter Try.func23, Try.ntmps23
  go_wp2
  go_ret
  refine ⟨?_, (Below.refl _ _).alloc (Nat.le_refl _) _⟩
  first
    | rfl
    | exact congrArg (fun z => Ending.returned (.int .i64 z)) E2.out
/-- The document's mean: the floor of the sum by the weights. -/
theorem floor_step (P W q : Int) (hW : 0 < W) (h1 : P / W ≤ q) (h2 : ¬ q * W > P) : q = P / W := by
  have h3 : q ≤ P / W := (Int.le_ediv_iff_mul_le hW).2 (by omega)
  omega
set_option maxHeartbeats 400000 in
theorem rmean_any (base W P : Int) (w : World) (hW : 0 ≤ W ∧ W ≤ 4294967296) (hP : -1099511627776000 ≤ P ∧ P ≤ 1099511627776000) (hb : -2305843009213693952 ≤ base ∧ base ≤ 2305843009213693952) :
    Calls Try.prog 22 #[rm base W P] w (ValPost w (.int .i64 (meanOf base W P))) := by
  unfold rm
  by_cases h0 : W = 0
  · subst h0
    have HQ : Hid (meanOf base 0 P = base) := Kit.hid rfl
    go_enter Try.func22, Try.ntmps22
    go_wp2
    go_ret
    rw [HQ.out]
    exact ⟨rfl, (Below.refl _ _).alloc (Nat.le_refl _) _⟩
  · have hpos : 0 < W := by omega
    have HQ : Hid (meanOf base W P = base + P / W) := Kit.hid (by unfold meanOf; rw [if_neg (by omega)])
    have g0 : (W == 0) = false := beq_eq_false_iff_ne.2 h0
    have htd : (P.tdiv W).natAbs ≤ P.natAbs := by rw [Int.natAbs_tdiv]; exact Nat.div_le_self _ _
    have hq1 : P / W ≤ P.tdiv W := by
      have h := quo_floor P W hpos
      split at h <;> omega
    have hpq : (P / W).natAbs ≤ P.natAbs := Int.natAbs_ediv_le_natAbs P W
    obtain ⟨t, ht⟩ : ∃ t, P.tdiv W = t := ⟨_, rfl⟩
    rw [ht] at htd hq1
    have w1 : wrap64 t = t := by unfold wrap64; omega
    have HA := Kit.hid (blk_new w (.cells #[.int .i64 base, .int .i64 W, .int .i64 P] 39))
    go_enter Try.func22, Try.ntmps22
    go_wp2
    go_loop [3] (fun v3 => ∃ q : Int, v3 = .int .i64 q ∧ P / W ≤ q ∧ q ≤ t) (fun v3 => (intOf v3 - P / W).toNat)
    case atStart => exact ⟨t, rfl, hq1, Int.le_refl _⟩
    case round =>
      obtain ⟨q, rfl, hq2, hq3⟩ := hrel
      have hlo : P - W < q * W := by
        have h1 := Int.mul_le_mul_of_nonneg_right hq2 (show 0 ≤ W by omega)
        have h2 := Int.mul_ediv_add_emod P W
        have h3 := Int.emod_lt_of_pos P hpos
        rw [Int.mul_comm W] at h2
        omega
      have hhi : q * W < P + W := by
        have h1 := Int.mul_le_mul_of_nonneg_right hq3 (show 0 ≤ W by omega)
        have h2 := Int.mul_tdiv_add_tmod P W
        have h3 := tmod_bd P W hpos
        rw [ht, Int.mul_comm W] at h2
        omega
      have wm : wrap64 (q * W) = q * W := by unfold wrap64; omega
      by_cases hgt : P < q * W
      · have hne : P / W + 1 ≤ q := by
          rcases Int.lt_or_le (P / W) q with h | h
          · omega
          · have h2 : q ≤ P / W := h
            have h3 := (Int.le_ediv_iff_mul_le hpos).1 h2
            omega
        have wq : wrap64 (q - 1) = q - 1 := by unfold wrap64; omega
        have gg : decide (P < q * W) = true := decide_eq_true hgt
        clear hlo hhi hgt ht hq1 hpq htd
        go_wp2
        go_round
        case rel => exact ⟨q - 1, by simp [wq], by omega, by omega⟩
        case measure => simp [intOf, wq]; omega
      · have he := floor_step P W q hpos hq2 hgt
        have gg : decide (P < q * W) = false := decide_eq_false hgt
        have W2 : Hid (wrap64 (base + q) = base + P / W) := Kit.hid (by rw [← he]; unfold wrap64; omega)
        clear hlo hhi hgt ht hq1 hpq htd he
        go_wp2
        go_ret
        rw [HQ.out]
        exact ⟨congrArg (fun z => Ending.returned (.int .i64 z)) W2.out, (Below.refl _ _).alloc (Nat.le_refl _) _⟩
set_option maxHeartbeats 400000 in
theorem same_any (base W P : Int) (w : World) (hW : small W) (hP : small P) : Calls Try.prog 21 #[mo base W P, rm base W P] w (ValPost w (.bool true)) := by
  have q1 : (FloatKind.f64.format.order (fi W) (fi W) == some Ordering.eq) = true := by rw [order_fi W W hW hW]; simp
  have q2 : (FloatKind.f64.format.order (fi P) (fi P) == some Ordering.eq) = true := by rw [order_fi P P hP hP]; simp
  have hf := floatOfInt_fi
  unfold mo rm
  clear hW hP
  go_enter Try.func21, Try.ntmps21
  go_wp2
  go_ret
  exact ⟨rfl, ((Below.refl _ _).alloc (Nat.le_refl _) _).alloc (by simp) _⟩
end Go.Proofs.Ytjddoohlmgacjaa.Mo

/- The walks of package moment: weight, mean, gap, from another base on, joined. -/
import Derived.Test.YtggcbeoinmnopaaMo
import Derived.BigQuiet
namespace Go.Proofs.Ytggcbeoinmnopaa.Mo
open Go.RowKit Go.Proofs.Ytggcbeoinmnopaa.Kit Go.Proofs.Ytggcbeoinmnopaa.Flo Go.IntWalk
set_option linter.unusedVariables false
set_option linter.unusedSimpArgs false
theorem new_any (base : Int) (w : World) : Calls Try.prog 42 #[.int .i64 base] w (ValPost w (mo base 0 0)) := by
  have hst := store_complex
  have hz := fi_zero
  unfold mo
  rw [hz]
  go_enter Try.func42, Try.ntmps42
  go_wp2
  exact mo_ret rfl w.heap.size _ _ rfl (blk_new _ _) rfl ⟨rfl, (Below.refl _ _).alloc (Nat.le_refl _) _⟩
/-- What stands in the block that a method makes first, behind a call that turns nothing. -/
theorem one_block (w w1 : World) (a b : Value) (hd : Below (w.alloc (.cells #[a, b] 86)).heap.size (w.alloc (.cells #[a, b] 86)) w1) :
    w1.cell? ⟨w.heap.size, 0, none⟩ = some a ∧ w1.cell? ⟨w.heap.size, 1, none⟩ = some b ∧ Below w.heap.size w w1 := by
  have f0 := blk_below (blk_new w (.cells #[a, b] 86)) hd
  exact ⟨(blk_cell f0 0).trans rfl, (blk_cell f0 1).trans rfl, ((Below.refl _ _).alloc (Nat.le_refl _) _).trans (hd.mono (by simp))⟩
theorem conv_int (W : Int) (hW : small W) (w : World) : (convert 107 3 (.float .f64 (fi W))).run Try.prog w = .ok (.int .i64 W) w :=
  run_convert_float_int (P := Try.prog) w 107 3 .f64 .i64 (fi W) W (by kernel_rfl) Try.underlying3 (toInt_fi W hW)
theorem weight_any (base : Int) (W : Int) (im : Nat) (w : World) (hW : small W) : Calls Try.prog 60 #[.agg #[.int .i64 base, .complex .f64 (fi W) im]] w (ValPost w (.int .i64 W)) := by
  have hc := conv_int W hW
  clear hW
  go_enter Try.func60, Try.ntmps60
  go_wp2
  go_ret
  exact ⟨rfl, (Below.refl _ _).alloc (Nat.le_refl _) _⟩
theorem integral_number (name : String) (way : Ieee.Toward) (x : Nat) (s : Bool) (m : Nat) (e : Int) (h : FloatKind.f64.decode x = .number s m e) :
    Extern.MathFloor.toIntegral name way #[.float .f64 x] = pure (.float .f64 (FloatKind.f64.encode ((Ieee.Datum.number s m e).integral way))) := by
  show (match FloatKind.f64.decode x with
    | .nan s t =>
      if FloatKind.f64.format.quiet t = t then pure (Value.float .f64 x) else do
      let kept ← choose (.extern "math.Floor,Ceil,Trunc,RoundToEven.signallingNaN kept" 2)
      pure (Value.float .f64 (if kept == 1 then x else FloatKind.f64.encode (.nan s (FloatKind.f64.format.quiet t))))
    | d => pure (Value.float .f64 (FloatKind.f64.encode (d.integral way)))) = _
  rw [h]
theorem floor_any (P : Int) (w : World) (hP : small P) : Calls Try.prog 61 #[.float .f64 (fi P)] w fun e w' => e = .returned (.float .f64 (fi P)) ∧ w = w' := by
  have hx : ∀ w' : World, (callFunc 69 #[.float .f64 (fi P)]).run Try.prog w' = .ok (.value (.float .f64 (fi P))) w' := by
    intro w'
    rw [run_callFunc_extern Try.func69 (by kernel_rfl) (by kernel_rfl) (by kernel_rfl) (show Extern.find Try.f69 = some (Extern.MathFloor.toIntegral "math.archFloor" .down) by kernel_rfl)]
    have e : FloatKind.f64.decode (fi P) = .number (decide (P < 0)) (P.natAbs * 2 ^ back P.natAbs) (-(back P.natAbs : Int)) := read_bf _ _ hP
    have h := floor_fi P hP
    rw [integral_number _ _ _ _ _ _ e, ← e, h]
    rfl
  clear hP
  go_enter Try.func61, Try.ntmps61
  go_wp2
  go_ret
  exact ⟨rfl, rfl⟩
/-- How far all are: not above the sum. -/
def meanOf (base W P : Int) : Int := if W ≤ 0 then base else base + P / W
theorem quo_floor (P W : Int) (hW : 0 < W) : (if P.tmod W < 0 then P.tdiv W - 1 else P.tdiv W) = P / W := by
  rcases Int.lt_or_le P 0 with h | h
  · obtain ⟨n, rfl⟩ : ∃ n : Nat, P = -(n : Int) := ⟨P.natAbs, by omega⟩
    have h1 := Int.mul_tdiv_add_tmod (-(n : Int)) W
    have h2 : (-(n : Int)).tmod W = -((n : Int).tmod W) := Int.neg_tmod ..
    have h3 : 0 ≤ (n : Int).tmod W := Int.tmod_nonneg _ (by omega)
    have h4 : (n : Int).tmod W < W := Int.tmod_lt_of_pos _ hW
    have h5 := Int.mul_ediv_add_emod (-(n : Int)) W
    have h6 := Int.emod_nonneg (-(n : Int)) (show W ≠ 0 by omega)
    have h7 := Int.emod_lt_of_pos (-(n : Int)) hW
    generalize (-(n : Int)).tdiv W = q at *
    generalize (-(n : Int)) / W = p at *
    rw [h2] at h1 ⊢
    generalize (n : Int).tmod W = r at *
    generalize (-(n : Int)) % W = s at *
    split
    · have e : W * (q - p) = r + s := by rw [Int.mul_sub]; omega
      have h8 : q - p = 1 := by
        have a1 : 0 < W * (q - p) := by omega
        have a2 : W * (q - p) < W * 2 := by omega
        have a3 : 0 < q - p := by
          rcases Int.lt_or_le 0 (q - p) with h | h
          · exact h
          · have := Int.mul_nonneg (show 0 ≤ W by omega) (show 0 ≤ -(q - p) by omega)
            rw [Int.mul_neg] at this
            omega
        have a4 : q - p < 2 := Int.lt_of_mul_lt_mul_left a2 (by omega)
        omega
      omega
    · have h9 : r = 0 := by omega
      subst h9
      have e : W * (q - p) = s := by rw [Int.mul_sub]; omega
      have h8 : q - p = 0 := by
        have a2 : W * (q - p) < W * 1 := by omega
        have a4 : q - p < 1 := Int.lt_of_mul_lt_mul_left a2 (by omega)
        have a3 : 0 ≤ q - p := by
          rcases Int.lt_or_le (q - p) 0 with h | h
          · have := Int.mul_neg_of_pos_of_neg hW h
            omega
          · exact h
        omega
      omega
  · rw [if_neg (by have := Int.tmod_nonneg W h; omega), Int.tdiv_eq_ediv_of_nonneg h]
set_option maxHeartbeats 800000 in
theorem mean_any (base W P : Int) (w : World) (hW : small W) (hP : small P) (hb : -2305843009213693952 ≤ base ∧ base ≤ 2305843009213693952) :
    Calls Try.prog 44 #[mo base W P] w (ValPost w (.int .i64 (meanOf base W P))) := by
  have HWt := Kit.hid (fun w' => weight_any base W (fi P) w' hW)
  have HF := Kit.hid (fun w' => floor_any P w' hP)
  have hc := conv_int P hP
  unfold mo
  by_cases h0 : W ≤ 0
  · have hq : meanOf base W P = base := by unfold meanOf; rw [if_pos h0]
    have HQ := Kit.hid hq
    have g1 : decide (W ≤ 0) = true := decide_eq_true h0
    clear hq h0 hW hP hb
    go_enter Try.func44, Try.ntmps44
    go_wp2_with (first
      | (go_at_call 60; refine (HWt.out _).mono ?_; rintro e w1 ⟨rfl, hd1⟩
         obtain ⟨c0, c1, hb1⟩ := one_block w w1 _ _ hd1))
    go_ret
    rw [HQ.out]
    exact ⟨rfl, hb1⟩
  · have hq : meanOf base W P = base + P / W := by unfold meanOf; rw [if_neg h0]
    have hqq := quo_floor P W (by omega)
    have g1 : decide (W ≤ 0) = false := decide_eq_false h0
    have hw1 : (W == 0) = false := beq_eq_false_iff_ne.2 (by omega)
    have hpq : (P / W).natAbs ≤ P.natAbs := by
      have := Int.natAbs_ediv_le_natAbs P W
      exact this
    have htd : (P.tdiv W).natAbs ≤ P.natAbs := by rw [Int.natAbs_tdiv]; exact Nat.div_le_self _ _
    obtain ⟨t, ht⟩ : ∃ t, t = P.tdiv W := ⟨_, rfl⟩
    obtain ⟨m, hm⟩ : ∃ m, m = P.tmod W := ⟨_, rfl⟩
    obtain ⟨q, hq0⟩ : ∃ q, q = P / W := ⟨_, rfl⟩
    rw [← hq0] at hq hqq hpq
    rw [← ht] at hqq htd
    rw [← hm] at hqq
    have HQ := Kit.hid hq
    have w1 : wrap64 t = t := by unfold wrap64; omega
    have W2 : Hid (wrap64 (base + q) = base + q) := Kit.hid (by unfold wrap64; omega)
    have hw0 : ¬ W = 0 := by omega
    have ht' : P.tdiv W = t := ht.symm
    have hm' : P.tmod W = m := hm.symm
    by_cases h1 : m < 0
    · rw [if_pos h1] at hqq
      have g2 : decide (m < 0) = true := decide_eq_true h1
      have hq3 : t - 1 = q := hqq
      have w3 : wrap64 (t - 1) = q := by rw [hq3]; unfold wrap64; omega
      clear hq h0 hW hP hb hq0 ht hm hqq hpq htd h1 hq3
      go_enter Try.func44, Try.ntmps44
      go_wp2_with (first
        | (go_at_call 60; refine (HWt.out _).mono ?_; rintro e w1 ⟨rfl, hd1⟩
           obtain ⟨c0, c1, hb1⟩ := one_block w w1 _ _ hd1)
        | (go_at_call 61; refine (HF.out _).mono ?_; rintro e w2 ⟨rfl, rfl⟩))
      go_ret
      rw [HQ.out]
      exact ⟨congrArg (fun z => Ending.returned (.int .i64 z)) W2.out, hb1⟩
    · rw [if_neg h1] at hqq
      have g2 : decide (m < 0) = false := decide_eq_false h1
      subst hqq
      clear hq h0 hW hP hb hq0 ht hm hpq htd h1
      go_enter Try.func44, Try.ntmps44
      go_wp2_with (first
        | (go_at_call 60; refine (HWt.out _).mono ?_; rintro e w1 ⟨rfl, hd1⟩
           obtain ⟨c0, c1, hb1⟩ := one_block w w1 _ _ hd1)
        | (go_at_call 61; refine (HF.out _).mono ?_; rintro e w2 ⟨rfl, rfl⟩))
      go_ret
      rw [HQ.out]
      exact ⟨congrArg (fun z => Ending.returned (.int .i64 z)) W2.out, hb1⟩
end Go.Proofs.Ytggcbeoinmnopaa.Mo

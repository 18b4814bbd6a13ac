/- Whole numbers below 2^53 as words of double: how they are read, added, multiplied, told in order. No program in sight. -/
import Derived.Laws.ComplexArith
namespace Go.Proofs.Ytggcbeoinmnopaa.Flo
open Ieee
set_option linter.unusedVariables false
set_option linter.unusedSimpArgs false
/-- The word of a whole number with a sign. -/
def bf (s : Bool) (n : Nat) : Nat := double.nearest s n 0
/-- The word of a whole number; 0 is +0. -/
def fi (n : Int) : Nat := bf (decide (n < 0)) n.natAbs
def sv (s : Bool) (n : Nat) : Int := if s then -(n : Int) else (n : Int)

theorem log2_shift (n k : Nat) (hn : n ≠ 0) : (n * 2 ^ k).log2 = n.log2 + k := by
  have h1 := Nat.log2_self_le hn
  have h2 := @Nat.lt_log2_self n
  have h3 : n * 2 ^ k ≠ 0 := Nat.mul_ne_zero hn (Nat.ne_of_gt (Nat.two_pow_pos k))
  rw [Nat.log2_eq_iff h3]
  constructor
  · rw [Nat.pow_add]
    exact Nat.mul_le_mul_right _ h1
  · rw [show n.log2 + k + 1 = (n.log2 + 1) + k from by omega, Nat.pow_add]
    exact Nat.mul_lt_mul_of_pos_right h2 (Nat.two_pow_pos k)
theorem least : double.leastPlace = -1074 := by decide
theorem sw : double.signWeight = 9223372036854775808 := by decide
theorem bin : double.binade = 4503599627370496 := by decide
theorem inf : double.infRung = 9218868437227405312 := by decide
theorem frac : double.fractionBits = 52 := rfl
/-- What is kept of a whole number is it, as far to the left as may be. -/
theorem cut_exact (s : Bool) (n d : Nat) (hd : d ≤ (n * 2 ^ d).log2 + 2) : Toward.even.cut s (n * 2 ^ d) d = n := by
  unfold Toward.cut
  have h1 : min d ((n * 2 ^ d).log2 + 2) = d := Nat.min_eq_left hd
  have hp := Nat.two_pow_pos d
  simp only [h1, Nat.shiftLeft_eq, Nat.one_mul, Nat.mul_mod_left, Nat.mul_zero, Nat.mul_div_cancel n hp]
  have h2 : decide (2 ^ d < 0) = false := by simp
  have h3 : (2 ^ d == 0) = false := by simp
  simp [h2, h3]
theorem cut_zero_exact (s : Bool) (n d : Nat) (hd : d ≤ (n * 2 ^ d).log2 + 2) : Toward.zero.cut s (n * 2 ^ d) d = n := by
  unfold Toward.cut
  have h1 : min d ((n * 2 ^ d).log2 + 2) = d := Nat.min_eq_left hd
  have hp := Nat.two_pow_pos d
  simp [h1, Nat.shiftLeft_eq, Nat.mul_div_cancel n hp]
/-- The rung of a whole number. -/
def rung (n : Nat) : Nat := if n = 0 then 0 else (n.log2 + 1022) * 4503599627370496 + n * 2 ^ (52 - n.log2)
theorem log2_small {n : Nat} (hn : n ≠ 0) (h : n < 9007199254740992) : n.log2 ≤ 52 := by
  have := (Nat.log2_lt hn (k := 53)).2 (by simpa using h)
  omega
theorem man_bd {n : Nat} (hn : n ≠ 0) (h : n < 9007199254740992) : 4503599627370496 ≤ n * 2 ^ (52 - n.log2) ∧ n * 2 ^ (52 - n.log2) < 9007199254740992 := by
  have hl := log2_small hn h
  have h1 := Nat.log2_self_le hn
  have h2 := @Nat.lt_log2_self n
  have h3 := Nat.mul_le_mul_right (2 ^ (52 - n.log2)) h1
  have h4 := Nat.mul_lt_mul_of_pos_right h2 (Nat.two_pow_pos (52 - n.log2))
  rw [← Nat.pow_add, show n.log2 + (52 - n.log2) = 52 from by omega] at h3
  rw [← Nat.pow_add, show n.log2 + 1 + (52 - n.log2) = 53 from by omega] at h4
  exact ⟨by simpa using h3, by simpa using h4⟩
theorem rung_bd {n : Nat} (h : n < 9007199254740992) : rung n < 9218868437227405312 := by
  unfold rung
  split
  · decide
  · rename_i hn
    have h1 := man_bd hn h
    have h2 := log2_small hn h
    omega
/-- A whole number, written with so many digits behind the point that are 0. -/
theorem nearest_exact (s : Bool) (n k : Nat) (h : n < 9007199254740992) : double.nearest s (n * 2 ^ k) (-(k : Int)) = double.word s (rung n) := by
  unfold Format.nearest
  by_cases hn : n = 0
  · subst hn
    simp [rung]
  · have hm : n * 2 ^ k ≠ 0 := Nat.mul_ne_zero hn (Nat.ne_of_gt (Nat.two_pow_pos k))
    have hl := log2_small hn h
    rw [if_neg hm, log2_shift n k hn]
    have hlast : max (-(k : Int) + ((n.log2 + k : Nat) : Int) - ((double.fractionBits : Nat) : Int)) double.leastPlace = (n.log2 : Int) - 52 := by
      rw [least, frac]
      omega
    simp only [hlast]
    have hkept : Toward.even.cut s ((n * 2 ^ k) <<< (-(k : Int) - ((n.log2 : Int) - 52)).toNat) (((n.log2 : Int) - 52) - -(k : Int)).toNat = n * 2 ^ (52 - n.log2) := by
      rw [Nat.shiftLeft_eq]
      by_cases hc : k ≤ 52 - n.log2
      · rw [show (((n.log2 : Int) - 52) - -(k : Int)).toNat = 0 from by omega, show (-(k : Int) - ((n.log2 : Int) - 52)).toNat = 52 - n.log2 - k from by omega]
        have e : n * 2 ^ k * 2 ^ (52 - n.log2 - k) = n * 2 ^ (52 - n.log2) * 2 ^ 0 := by
          rw [Nat.mul_assoc, ← Nat.pow_add, show k + (52 - n.log2 - k) = 52 - n.log2 from by omega]
          simp
        rw [e]
        exact cut_exact s _ 0 (by omega)
      · rw [show (-(k : Int) - ((n.log2 : Int) - 52)).toNat = 0 from by omega, show (((n.log2 : Int) - 52) - -(k : Int)).toNat = k - (52 - n.log2) from by omega]
        have e : n * 2 ^ k * 2 ^ 0 = n * 2 ^ (52 - n.log2) * 2 ^ (k - (52 - n.log2)) := by
          rw [Nat.mul_assoc n, Nat.mul_assoc n, ← Nat.pow_add, ← Nat.pow_add]
          congr 2
          omega
        rw [e]
        refine cut_exact s _ _ ?_
        rw [log2_shift _ _ (by have := (man_bd hn h).1; omega)]
        omega
    rw [hkept, least, bin, inf]
    have hr := rung_bd h
    unfold rung at hr ⊢
    rw [if_neg hn] at hr ⊢
    rw [show ((n.log2 : Int) - 52 - -1074).toNat = n.log2 + 1022 from by omega, Nat.min_eq_left (by omega)]
theorem bf_word (s : Bool) (n : Nat) (h : n < 9007199254740992) : bf s n = double.word s (rung n) := by
  have e := nearest_exact s n 0 h
  simpa [bf] using e
theorem nearest_bf (s : Bool) (n k : Nat) (h : n < 9007199254740992) : double.nearest s (n * 2 ^ k) (-(k : Int)) = bf s n := by
  rw [nearest_exact s n k h, bf_word s n h]
/-- Reading a whole number's word: the digits behind the point. -/
def back (n : Nat) : Nat := if n = 0 then 1074 else 52 - n.log2
theorem read_bf (s : Bool) (n : Nat) (h : n < 9007199254740992) : double.read (bf s n) = .number s (n * 2 ^ back n) (-(back n : Int)) := by
  rw [bf_word s n h]
  have hr := rung_bd h
  have e1 : double.word s (rung n) / double.signWeight % 2 = if s then 1 else 0 := by
    rw [sw]
    unfold Format.word
    rw [sw]
    cases s <;> simp <;> omega
  have e2 : double.word s (rung n) % double.signWeight = rung n := by
    rw [sw]
    unfold Format.word
    rw [sw]
    cases s <;> simp <;> omega
  unfold Format.read
  simp only [e1, e2]
  have e3 : ((if s = true then 1 else 0 : Nat) == 1) = s := by cases s <;> rfl
  rw [e3, bin, inf, least]
  by_cases hn : n = 0
  · subst hn
    rw [show rung 0 = 0 from rfl, if_pos (by decide), Nat.zero_mul, show back 0 = 1074 from rfl]
    rfl
  · have h1 := man_bd hn h
    have hl := log2_small hn h
    have er : rung n = (n.log2 + 1022) * 4503599627370496 + n * 2 ^ (52 - n.log2) := by unfold rung; rw [if_neg hn]
    have eb : back n = 52 - n.log2 := by unfold back; rw [if_neg hn]
    rw [eb]
    generalize n * 2 ^ (52 - n.log2) = M at *
    rw [if_neg (by omega), if_pos hr]
    congr 1
    · omega
    · omega
theorem signed_sv (s : Bool) (n a b : Nat) : signed s (n * 2 ^ a) b = sv s n * (2 : Int) ^ (a + b) := by
  have e : ((n * 2 ^ a) <<< b : Nat) = n * 2 ^ (a + b) := by rw [Nat.shiftLeft_eq, Nat.mul_assoc, Nat.pow_add]
  unfold signed sv
  rw [e]
  cases s <;> simp [Int.neg_mul]
theorem sum_bf (s t : Bool) (m n : Nat) (hm : m < 9007199254740992) (hn : n < 9007199254740992) (hs : (sv s m + sv t n).natAbs < 9007199254740992) :
    ((double.read (bf s m)).sum (.number t (n * 2 ^ back n) (-(back n : Int)))).map double.write = some (bf (if sv s m + sv t n = 0 then s && t else decide (sv s m + sv t n < 0)) (sv s m + sv t n).natAbs) := by
  rw [read_bf s m hm]
  unfold Datum.sum
  simp only [Option.map_some, Format.write]
  obtain ⟨B, hB, h1, h2⟩ : ∃ B : Nat, min (-(back m : Int)) (-(back n : Int)) = -(B : Int) ∧ back m ≤ B ∧ back n ≤ B := ⟨max (back m) (back n), by omega, by omega, by omega⟩
  rw [hB, show (-(back m : Int) - -(B : Int)).toNat = B - back m from by omega, show (-(back n : Int) - -(B : Int)).toNat = B - back n from by omega, signed_sv, signed_sv,
    show back m + (B - back m) = B from by omega, show back n + (B - back n) = B from by omega, ← Int.add_mul]
  generalize sv s m + sv t n = c at *
  have hp : (0 : Int) < 2 ^ B := Int.pow_pos (by decide)
  have e1 : (c * 2 ^ B).natAbs = c.natAbs * 2 ^ B := by rw [Int.natAbs_mul, Int.natAbs_pow]; rfl
  have e2 : (c * 2 ^ B = 0) ↔ c = 0 := by
    constructor
    · intro h
      rcases Int.mul_eq_zero.1 h with h | h
      · exact h
      · omega
    · intro h
      rw [h, Int.zero_mul]
  have e3 : (c * 2 ^ B < 0) ↔ c < 0 := by
    constructor
    · intro h
      rcases Int.lt_or_le c 0 with h1 | h1
      · exact h1
      · have := Int.mul_nonneg h1 (Int.le_of_lt hp)
        omega
    · intro h
      exact Int.mul_neg_of_neg_of_pos h hp
  rw [e1, nearest_bf _ _ _ hs]
  simp only [e2, e3]
theorem add_bf (s t : Bool) (m n : Nat) (hm : m < 9007199254740992) (hn : n < 9007199254740992) (hs : (sv s m + sv t n).natAbs < 9007199254740992) :
    double.add (bf s m) (bf t n) = some (bf (if sv s m + sv t n = 0 then s && t else decide (sv s m + sv t n < 0)) (sv s m + sv t n).natAbs) := by
  unfold Format.add
  rw [read_bf t n hn]
  exact sum_bf s t m n hm hn hs
theorem sub_bf (s t : Bool) (m n : Nat) (hm : m < 9007199254740992) (hn : n < 9007199254740992) (hs : (sv s m - sv t n).natAbs < 9007199254740992) :
    double.sub (bf s m) (bf t n) = some (bf (if sv s m - sv t n = 0 then s && !t else decide (sv s m - sv t n < 0)) (sv s m - sv t n).natAbs) := by
  unfold Format.sub
  rw [read_bf t n hn]
  have e : sv s m - sv t n = sv s m + sv (!t) n := by
    unfold sv
    cases t <;> simp <;> omega
  rw [e] at hs ⊢
  exact sum_bf s (!t) m n hm hn hs
theorem mul_bf (s t : Bool) (m n : Nat) (hm : m < 9007199254740992) (hn : n < 9007199254740992) (hs : m * n < 9007199254740992) : double.mul (bf s m) (bf t n) = some (bf (s ^^ t) (m * n)) := by
  unfold Format.mul
  rw [read_bf s m hm, read_bf t n hn]
  unfold Datum.product
  simp only [Option.map_some, Format.write]
  rw [show (-(back m : Int) + -(back n : Int)) = -((back m + back n : Nat) : Int) from by omega]
  have e : m * 2 ^ back m * (n * 2 ^ back n) = m * n * 2 ^ (back m + back n) := by
    rw [Nat.pow_add]
    ac_rfl
  rw [e, nearest_bf _ _ _ hs]
theorem order_bf (s t : Bool) (m n : Nat) (hm : m < 9007199254740992) (hn : n < 9007199254740992) : double.order (bf s m) (bf t n) = some (compare (sv s m) (sv t n)) := by
  unfold Format.order
  rw [read_bf s m hm, read_bf t n hn]
  unfold Datum.order
  simp only
  obtain ⟨B, hB, h1, h2⟩ : ∃ B : Nat, min (-(back m : Int)) (-(back n : Int)) = -(B : Int) ∧ back m ≤ B ∧ back n ≤ B := ⟨max (back m) (back n), by omega, by omega, by omega⟩
  rw [hB, show (-(back m : Int) - -(B : Int)).toNat = B - back m from by omega, show (-(back n : Int) - -(B : Int)).toNat = B - back n from by omega, signed_sv, signed_sv,
    show back m + (B - back m) = B from by omega, show back n + (B - back n) = B from by omega]
  generalize sv s m = a
  generalize sv t n = b
  have hp : (0 : Int) < 2 ^ B := Int.pow_pos (by decide)
  congr 1
  have h1 : (a * 2 ^ B < b * 2 ^ B) ↔ a < b := ⟨fun h => Int.lt_of_mul_lt_mul_right h (Int.le_of_lt hp), fun h => Int.mul_lt_mul_of_pos_right h hp⟩
  have h2 : (a * 2 ^ B = b * 2 ^ B) ↔ a = b := ⟨fun h => Int.eq_of_mul_eq_mul_right (by omega) h, fun h => by rw [h]⟩
  simp only [compare, compareOfLessAndEq, h1, h2]
theorem toInt_bf (s : Bool) (n : Nat) (h : n < 9007199254740992) : (double.read (bf s n)).toInt .zero = some (sv s n) := by
  rw [read_bf s n h]
  unfold Datum.toInt Datum.integral
  simp only
  rw [show (-(back n : Int)).toNat = 0 from by omega, show (- -(back n : Int)).toNat = back n from by omega, Nat.shiftLeft_eq, Nat.pow_zero, Nat.mul_one]
  by_cases hn : n = 0
  · subst hn
    unfold Toward.cut signed sv
    cases s <;> simp
  · rw [cut_zero_exact s n (back n) (by
      rw [log2_shift n _ hn]
      unfold back
      rw [if_neg hn]
      have := log2_small hn h
      omega)]
    have e := signed_sv s n 0 0
    simpa using e
/-! ### the same, of integers -/
theorem sv_abs (a : Int) : sv (decide (a < 0)) a.natAbs = a := by
  unfold sv
  by_cases h : a < 0
  · rw [if_pos (by simpa using h)]; omega
  · rw [if_neg (by simpa using h)]; omega
theorem fi_bf (c : Int) (x : Bool) (hx : c = 0 → x = false) : bf (if c = 0 then x else decide (c < 0)) c.natAbs = fi c := by
  unfold fi
  by_cases h : c = 0
  · rw [if_pos h, hx h, h]
    rfl
  · rw [if_neg h]
theorem add_fi (a b : Int) (ha : a.natAbs < 9007199254740992) (hb : b.natAbs < 9007199254740992) (hs : (a + b).natAbs < 9007199254740992) : double.add (fi a) (fi b) = some (fi (a + b)) := by
  have h := add_bf (decide (a < 0)) (decide (b < 0)) a.natAbs b.natAbs ha hb (by rw [sv_abs, sv_abs]; exact hs)
  rw [sv_abs, sv_abs, fi_bf _ _ (fun h0 => by
    by_cases h1 : a < 0
    · simp [h1]; omega
    · simp [h1])] at h
  exact h
theorem sub_fi (a b : Int) (ha : a.natAbs < 9007199254740992) (hb : b.natAbs < 9007199254740992) (hs : (a - b).natAbs < 9007199254740992) : double.sub (fi a) (fi b) = some (fi (a - b)) := by
  have h := sub_bf (decide (a < 0)) (decide (b < 0)) a.natAbs b.natAbs ha hb (by rw [sv_abs, sv_abs]; exact hs)
  rw [sv_abs, sv_abs, fi_bf _ _ (fun h0 => by
    by_cases h1 : a < 0
    · simp [h1]; omega
    · simp [h1])] at h
  exact h
end Go.Proofs.Ytggcbeoinmnopaa.Flo
namespace Go.Proofs.Ytggcbeoinmnopaa.Flo
open Go
theorem floatOfInt_fi (n : Int) : floatOfInt .f64 n = fi n := rfl
theorem fi_zero : fi 0 = 0 := by decide
theorem fi_one : fi 1 = 4607182418800017408 := by decide
theorem mul_zero_any (t : Bool) (n : Nat) (hn : n < 9007199254740992) : Ieee.double.mul 0 (bf t n) = some (bf t 0) := by
  have h := mul_bf false t 0 n (by decide) hn (by omega)
  rw [Nat.zero_mul, show bf false 0 = 0 by decide] at h
  simpa using h
/-- A weight times a lag: both parts. -/
theorem cmul_part (w d : Int) (hw0 : 0 ≤ w) (hw : w.natAbs < 9007199254740992) (hd : d.natAbs < 9007199254740992) (hwd : w.natAbs * d.natAbs < 9007199254740992) :
    cMulBits (fi w) 0 4607182418800017408 (fi d) = some (fi w, fi (w * d)) := by
  have hnn : decide (w < 0) = false := decide_eq_false (by omega)
  have e1 : floatBits .mul .f64 (fi w) 4607182418800017408 = some (fi w) := by
    have h := mul_bf (decide (w < 0)) false w.natAbs 1 hw (by decide) (by omega)
    rw [Nat.mul_one, Bool.xor_false, show bf false 1 = 4607182418800017408 by decide] at h
    exact h
  have e2 : floatBits .mul .f64 0 (fi d) = some (bf (decide (d < 0)) 0) := mul_zero_any _ _ hd
  have e3 : floatBits .sub .f64 (fi w) (bf (decide (d < 0)) 0) = some (fi w) := by
    have h := sub_bf (decide (w < 0)) (decide (d < 0)) w.natAbs 0 hw (by decide) (by
      have : sv (decide (d < 0)) 0 = 0 := by unfold sv; split <;> rfl
      rw [sv_abs, this, Int.sub_zero]; exact hw)
    have e : sv (decide (d < 0)) 0 = 0 := by unfold sv; split <;> rfl
    rw [sv_abs, e, Int.sub_zero, fi_bf w _ (fun _ => by rw [hnn]; rfl)] at h
    exact h
  have e4 : floatBits .mul .f64 (fi w) (fi d) = some (bf (decide (w < 0) ^^ decide (d < 0)) (w.natAbs * d.natAbs)) := mul_bf _ _ _ _ hw hd hwd
  have e5 : floatBits .mul .f64 0 4607182418800017408 = some (bf false 0) := by
    have h := mul_zero_any false 1 (by decide)
    rw [show bf false 1 = 4607182418800017408 by decide] at h
    exact h
  have e6 : floatBits .add .f64 (bf (decide (w < 0) ^^ decide (d < 0)) (w.natAbs * d.natAbs)) (bf false 0) = some (fi (w * d)) := by
    have hz : sv (decide (w < 0) ^^ decide (d < 0)) (w.natAbs * d.natAbs) = w * d := by
      rw [hnn, Bool.false_xor]
      have hw2 : (w.natAbs : Int) = w := by omega
      have hd2 := sv_abs d
      unfold sv at hd2 ⊢
      rw [Int.natCast_mul, hw2]
      by_cases h : d < 0
      · simp only [h, decide_true, if_true] at hd2 ⊢
        rw [← hd2]
        simp [Int.mul_neg]
      · simp only [h, decide_false] at hd2 ⊢
        simp only [Bool.false_eq_true, if_false] at hd2 ⊢
        rw [hd2]
    have h := add_bf (decide (w < 0) ^^ decide (d < 0)) false (w.natAbs * d.natAbs) 0 hwd (by decide) (by
      rw [hz]
      show (w * d + 0).natAbs < _
      rw [Int.add_zero, Int.natAbs_mul]
      exact hwd)
    have e : sv false 0 = 0 := rfl
    rw [hz, e, Int.add_zero, fi_bf (w * d) _ (fun _ => by rw [Bool.and_false]), ] at h
    exact h
  unfold cMulBits
  simp only [e1, e2, e3, e4, e5, e6, Option.bind_some]
/-- A sum of two: both parts. -/
theorem csum_add (a b c d : Int) (h1 : a.natAbs < 9007199254740992) (h2 : b.natAbs < 9007199254740992) (h3 : c.natAbs < 9007199254740992) (h4 : d.natAbs < 9007199254740992) (h5 : (a + c).natAbs < 9007199254740992) (h6 : (b + d).natAbs < 9007199254740992) :
    cSumBits .add .f64 (fi a) (fi b) (fi c) (fi d) = some (fi (a + c), fi (b + d)) := by
  unfold cSumBits
  have e1 : floatBits .add .f64 (fi a) (fi c) = some (fi (a + c)) := add_fi a c h1 h3 h5
  have e2 : floatBits .add .f64 (fi b) (fi d) = some (fi (b + d)) := add_fi b d h2 h4 h6
  simp only [e1, e2, Option.bind_some]
theorem csum_sub (a b c d : Int) (h1 : a.natAbs < 9007199254740992) (h2 : b.natAbs < 9007199254740992) (h3 : c.natAbs < 9007199254740992) (h4 : d.natAbs < 9007199254740992) (h5 : (a - c).natAbs < 9007199254740992) (h6 : (b - d).natAbs < 9007199254740992) :
    cSumBits .sub .f64 (fi a) (fi b) (fi c) (fi d) = some (fi (a - c), fi (b - d)) := by
  unfold cSumBits
  have e1 : floatBits .sub .f64 (fi a) (fi c) = some (fi (a - c)) := sub_fi a c h1 h3 h5
  have e2 : floatBits .sub .f64 (fi b) (fi d) = some (fi (b - d)) := sub_fi b d h2 h4 h6
  simp only [e1, e2, Option.bind_some]
/-- A sum and what it is shifted by: the factor may be -0. -/
theorem csum_shift (a b k w : Int) (h1 : a.natAbs < 9007199254740992) (h2 : b.natAbs < 9007199254740992) (h3 : k.natAbs * w.natAbs < 9007199254740992) (h4 : (b + k * w).natAbs < 9007199254740992) (x : Nat) (hx : x = bf (decide (k < 0) ^^ decide (w < 0)) (k.natAbs * w.natAbs)) :
    cSumBits .add .f64 (fi a) (fi b) 0 x = some (fi a, fi (b + k * w)) := by
  have hz : sv (decide (k < 0) ^^ decide (w < 0)) (k.natAbs * w.natAbs) = k * w := by
    have hk' : (k.natAbs : Int) = if k < 0 then -k else k := by split <;> omega
    have hw' : (w.natAbs : Int) = if w < 0 then -w else w := by split <;> omega
    unfold sv
    rw [Int.natCast_mul, hk', hw']
    by_cases h : k < 0 <;> by_cases h' : w < 0 <;> simp [h, h', Int.neg_mul, Int.mul_neg]
  have e1 : floatBits .add .f64 (fi a) 0 = some (fi a) := by
    have h := add_fi a 0 h1 (by decide) (by rw [Int.add_zero]; exact h1)
    rw [Int.add_zero, fi_zero] at h
    exact h
  have e2 : floatBits .add .f64 (fi b) x = some (fi (b + k * w)) := by
    subst hx
    have h := add_bf (decide (b < 0)) (decide (k < 0) ^^ decide (w < 0)) b.natAbs (k.natAbs * w.natAbs) h2 h3 (by rw [sv_abs, hz]; exact h4)
    rw [sv_abs, hz, fi_bf _ _ (fun h0 => by
      by_cases hb : b < 0
      · have hkw : 0 < k * w := by omega
        have : (decide (k < 0) ^^ decide (w < 0)) = false := by
          rcases Int.lt_trichotomy k 0 with hk | hk | hk
          · have hw : w < 0 := by
              rcases Int.lt_or_le w 0 with h | h
              · exact h
              · have := Int.mul_nonneg h (show 0 ≤ -k by omega)
                rw [Int.mul_neg, Int.mul_comm] at this
                omega
            simp [hk, hw]
          · rw [hk] at hkw
            simp at hkw
          · have hw : ¬ w < 0 := fun h => by
              have := Int.mul_neg_of_pos_of_neg hk h
              omega
            simp [show ¬ k < 0 by omega, hw]
        rw [this, Bool.and_false]
      · simp [hb])] at h
    exact h
  unfold cSumBits
  simp only [e1, e2, Option.bind_some]
theorem mul_fi (k w : Int) (h1 : k.natAbs < 9007199254740992) (h2 : w.natAbs < 9007199254740992) (h3 : k.natAbs * w.natAbs < 9007199254740992) : floatBits .mul .f64 (fi k) (fi w) = some (bf (decide (k < 0) ^^ decide (w < 0)) (k.natAbs * w.natAbs)) := mul_bf _ _ _ _ h1 h2 h3
theorem toInt_fi (n : Int) (h : n.natAbs < 9007199254740992) : floatToIntVal .f64 (fi n) .i64 = some n := by
  unfold floatToIntVal
  have e : (FloatKind.f64.decode (fi n)).toInt .zero = some n := by
    have h1 := toInt_bf (decide (n < 0)) n.natAbs h
    rw [sv_abs] at h1
    exact h1
  rw [e]
  simp only
  rw [if_pos]
  have e1 : IntKind.i64.min = -9223372036854775808 := by decide
  have e2 : IntKind.i64.max = 9223372036854775807 := by decide
  rw [e1, e2]
  omega
theorem order_fi (a b : Int) (ha : a.natAbs < 9007199254740992) (hb : b.natAbs < 9007199254740992) : (FloatKind.f64.format.order (fi a) (fi b) == some Ordering.eq) = (a == b) := by
  have h : Ieee.double.order (fi a) (fi b) = some (compare a b) := by
    have h := order_bf (decide (a < 0)) (decide (b < 0)) a.natAbs b.natAbs ha hb
    rw [sv_abs, sv_abs] at h
    exact h
  show (Ieee.double.order (fi a) (fi b) == some Ordering.eq) = (a == b)
  rw [h]
  by_cases he : a = b
  · subst he
    simp [compare, compareOfLessAndEq]
  · have : compare a b ≠ Ordering.eq := by
      simp only [compare, compareOfLessAndEq]
      split <;> simp
    have h2 : (a == b) = false := by simp [he]
    rw [h2]
    cases hc : compare a b <;> first | rfl | exact absurd hc this
theorem floor_fi (n : Int) (h : n.natAbs < 9007199254740992) : FloatKind.f64.encode ((FloatKind.f64.decode (fi n)).integral .down) = fi n := by
  have e : FloatKind.f64.decode (fi n) = .number (decide (n < 0)) (n.natAbs * 2 ^ back n.natAbs) (-(back n.natAbs : Int)) := read_bf _ _ h
  rw [e]
  unfold Ieee.Datum.integral
  simp only
  show Ieee.double.nearest _ _ 0 = _
  rw [show (-(back n.natAbs : Int)).toNat = 0 from by omega, show (- -(back n.natAbs : Int)).toNat = back n.natAbs from by omega, Nat.shiftLeft_eq, Nat.pow_zero, Nat.mul_one]
  by_cases hn : n.natAbs = 0
  · have h0 : n = 0 := by omega
    have hc : Ieee.Toward.down.cut (decide (n < 0)) (n.natAbs * 2 ^ back n.natAbs) (back n.natAbs) = 0 := by
      rw [hn, Nat.zero_mul]
      unfold Ieee.Toward.cut
      simp
    rw [hc, h0]
    rfl
  · have hc : Ieee.Toward.down.cut (decide (n < 0)) (n.natAbs * 2 ^ back n.natAbs) (back n.natAbs) = n.natAbs := by
      unfold Ieee.Toward.cut
      have h1 : min (back n.natAbs) ((n.natAbs * 2 ^ back n.natAbs).log2 + 2) = back n.natAbs := by
        rw [log2_shift _ _ hn]
        unfold back
        rw [if_neg hn]
        have := log2_small hn h
        omega
      have hp := Nat.two_pow_pos (back n.natAbs)
      simp [h1, Nat.shiftLeft_eq, Nat.mul_div_cancel _ hp]
    rw [hc]
    rfl
end Go.Proofs.Ytggcbeoinmnopaa.Flo

/- The plain law of numbers as bytes. -/
namespace Go.Proofs.YtlmbghemlphoaaaDoor.LeM
set_option linter.unusedVariables false
set_option linter.unusedSimpArgs false
/-- A number's bytes, the lowest one first. -/
def dig (n : Nat) : Nat → List (BitVec 8)
  | 0 => []
  | w + 1 => BitVec.ofNat 8 n :: dig (n / 256) w
/-- What bytes tell. -/
def num : List (BitVec 8) → Nat
  | [] => 0
  | b :: l => b.toNat + 256 * num l
/-- A width that can be. -/
def hw (w : Int) : Nat := if w < 1 then 1 else if 8 < w then 8 else w.toNat
theorem hw_bd (w : Int) : 1 ≤ hw w ∧ hw w ≤ 8 := by
  unfold hw
  repeat' split
  all_goals omega
theorem dig_length : ∀ (w n : Nat), (dig n w).length = w
  | 0, _ => rfl
  | w + 1, n => by simp [dig, dig_length w]
theorem num_lt : ∀ l : List (BitVec 8), num l < 256 ^ l.length
  | [] => by simp [num]
  | b :: l => by
    have h := num_lt l
    have hb := b.isLt
    simp only [num, List.length_cons, Nat.pow_succ]
    omega
theorem num_dig : ∀ (w n : Nat), num (dig n w) = n % 256 ^ w
  | 0, n => by simp [dig, num, Nat.mod_one]
  | w + 1, n => by
    simp only [dig, num, num_dig w, BitVec.toNat_ofNat]
    have e : 256 ^ (w + 1) = 256 * 256 ^ w := by rw [Nat.pow_succ, Nat.mul_comm]
    rw [e, Nat.mod_mul]
theorem dig_num : ∀ l : List (BitVec 8), dig (num l) l.length = l
  | [] => rfl
  | b :: l => by
    have hb := b.isLt
    have e1 : (b.toNat + 256 * num l) / 256 = num l := by omega
    have e2 : BitVec.ofNat 8 (b.toNat + 256 * num l) = b := by
      apply BitVec.eq_of_toNat_eq
      rw [BitVec.toNat_ofNat]
      omega
    simp only [num, List.length_cons, dig, e1, e2, dig_num l]
theorem dig_eq (w a b : Nat) : dig a w = dig b w ↔ a % 256 ^ w = b % 256 ^ w := by
  constructor
  · intro h
    rw [← num_dig, ← num_dig, h]
  · intro h
    have h1 : num (dig a w) = num (dig b w) := by rw [num_dig, num_dig, h]
    have h2 := dig_num (dig a w)
    have h3 := dig_num (dig b w)
    rw [dig_length] at h2 h3
    rw [← h2, ← h3, h1]
theorem dig_mod (w n : Nat) : dig (n % 256 ^ w) w = dig n w := by
  rw [dig_eq, Nat.mod_mod]
theorem dig_add : ∀ (a b n : Nat), dig n (a + b) = dig n a ++ dig (n / 256 ^ a) b
  | 0, b, n => by simp [dig]
  | a + 1, b, n => by
    rw [Nat.add_right_comm]
    show BitVec.ofNat 8 n :: dig (n / 256) (a + b) = BitVec.ofNat 8 n :: (dig (n / 256) a ++ dig (n / 256 ^ (a + 1)) b)
    rw [dig_add a b, Nat.div_div_eq_div_mul, Nat.pow_succ, Nat.mul_comm (256 ^ a) 256]
theorem num_append : ∀ l m : List (BitVec 8), num (l ++ m) = num l + 256 ^ l.length * num m
  | [], m => by simp [num]
  | b :: l, m => by
    simp only [List.cons_append, num, num_append l m, List.length_cons, Nat.pow_succ]
    rw [Nat.mul_add, ← Nat.mul_assoc, Nat.mul_comm 256 (256 ^ l.length), Nat.add_assoc]
theorem num_snoc (l : List (BitVec 8)) (b : BitVec 8) : num (b :: l) = b.toNat + 256 * num l := rfl
/-- A number with a sign. -/
def sgn (n k : Nat) : Int := if 256 ^ k ≤ 2 * (n % 256 ^ k) then ((n % 256 ^ k : Nat) : Int) - ((256 ^ k : Nat) : Int) else ((n % 256 ^ k : Nat) : Int)
/-- The highest byte tells the sign: what is laid behind it. -/
def fill (h : BitVec 8) : BitVec 8 := if 128 ≤ h.toNat then 255#8 else 0#8
theorem sgn_pad (n k : Nat) (h1 : 1 ≤ k) (h8 : k ≤ 8) (h : BitVec 8) (hh : h = BitVec.ofNat 8 (n / 256 ^ (k - 1))) :
    ((num (dig n k ++ List.replicate (8 - k) (fill h)) : Nat) : Int) = (if 256 ^ k ≤ 2 * (n % 256 ^ k) then ((n % 256 ^ k : Nat) : Int) + 18446744073709551616 - ((256 ^ k : Nat) : Int) else ((n % 256 ^ k : Nat) : Int)) := by
  have hn : h.toNat = n / 256 ^ (k - 1) % 256 := by rw [hh, BitVec.toNat_ofNat]
  rw [num_append, dig_length, num_dig]
  have r0 : ∀ m ≤ 7, num (List.replicate m 0#8) = 0 := by decide
  have r1 : ∀ m ≤ 7, num (List.replicate m 255#8) = 256 ^ m - 1 := by decide
  have hc : k = 1 ∨ k = 2 ∨ k = 3 ∨ k = 4 ∨ k = 5 ∨ k = 6 ∨ k = 7 ∨ k = 8 := by omega
  unfold fill
  by_cases hx : 128 ≤ h.toNat
  · rw [if_pos hx, r1 _ (by omega)]
    rcases hc with rfl | rfl | rfl | rfl | rfl | rfl | rfl | rfl
    all_goals
      simp only [Nat.reducePow, Nat.reduceSub] at hn ⊢
      split <;> omega
  · rw [if_neg hx, r0 _ (by omega)]
    rcases hc with rfl | rfl | rfl | rfl | rfl | rfl | rfl | rfl
    all_goals
      simp only [Nat.reducePow, Nat.reduceSub] at hn ⊢
      split <;> omega
end Go.Proofs.YtlmbghemlphoaaaDoor.LeM

/- The plain law of the check: registers as 32 bits; a byte is eight bits' steps; a bstep is linear, and loses nothing. -/
namespace Go.Proofs.YtlmbghemlphoaaaDoor.CrcM
set_option linter.unusedVariables false
set_option linter.unusedSimpArgs false
def poly : BitVec 32 := 3988292384#32
/-- One bit's step. -/
def bstep (c : BitVec 32) : BitVec 32 := (c >>> 1) ^^^ (if c.getLsbD 0 then poly else 0#32)
def stepN : Nat → BitVec 32 → BitVec 32
  | 0, c => c
  | n + 1, c => stepN n (bstep c)
def halves : List Nat := [0, 498536548, 997073096, 651767980, 1994146192, 1802195444, 1303535960, 1342533948, 3988292384, 4027552580, 3604390888, 3412177804, 2607071920, 2262029012, 2685067896, 3183342108]
def half (i : Nat) : BitVec 32 := BitVec.ofNat 32 (halves.getD i 0)
/-- As the program does a byte. -/
def inB (c : BitVec 32) (b : BitVec 8) : BitVec 32 :=
  let x := c ^^^ b.setWidth 32
  let y := (x >>> 4) ^^^ half (x &&& 15#32).toNat
  (y >>> 4) ^^^ half (y &&& 15#32).toNat
def more (c : BitVec 32) (l : List (BitVec 8)) : BitVec 32 := ~~~(l.foldl inB (~~~c))
def zer (c : BitVec 32) : Nat → BitVec 32
  | 0 => c
  | n + 1 => zer (inB c 0#8) n
def many (m : Int) : Nat := if m < 0 then 0 else if 65536 < m then 65536 else m.toNat
def mend (c : BitVec 32) (b : BitVec 8) (m : Int) : BitVec 32 := c ^^^ zer (inB 0#32 b) (many m)

theorem step_xor (a b : BitVec 32) : bstep (a ^^^ b) = bstep a ^^^ bstep b := by
  unfold bstep
  rw [BitVec.getLsbD_xor, BitVec.ushiftRight_xor_distrib]
  have lc : ∀ x y z : BitVec 32, x ^^^ (y ^^^ z) = y ^^^ (x ^^^ z) := fun x y z => by rw [← BitVec.xor_assoc, BitVec.xor_comm x y, BitVec.xor_assoc]
  cases a.getLsbD 0 <;> cases b.getLsbD 0 <;> simp [BitVec.xor_assoc, BitVec.xor_comm, lc]
  rw [← BitVec.xor_assoc poly poly, BitVec.xor_self, BitVec.zero_xor]
theorem stepN_xor : ∀ (n : Nat) (a b : BitVec 32), stepN n (a ^^^ b) = stepN n a ^^^ stepN n b
  | 0, _, _ => rfl
  | n + 1, a, b => by
    show stepN n (bstep (a ^^^ b)) = _
    rw [step_xor, stepN_xor n]
    rfl
theorem step_zero : bstep 0#32 = 0#32 := by decide
theorem stepN_zero : ∀ n : Nat, stepN n 0#32 = 0#32
  | 0 => rfl
  | n + 1 => by
    show stepN n (bstep 0#32) = 0#32
    rw [step_zero, stepN_zero n]
theorem stepN_add : ∀ (m n : Nat) (c : BitVec 32), stepN (m + n) c = stepN n (stepN m c)
  | 0, n, c => by rw [Nat.zero_add]; rfl
  | m + 1, n, c => by
    rw [Nat.add_right_comm]
    show stepN (m + n) (bstep c) = stepN n (stepN m (bstep c))
    exact stepN_add m n (bstep c)
/-- A bstep loses nothing. -/
theorem step_eq_zero {c : BitVec 32} (h : bstep c = 0#32) : c = 0#32 := by
  unfold bstep at h
  cases hb : c.getLsbD 0 with
  | false =>
    rw [hb] at h
    simp only [Bool.false_eq_true, if_false, BitVec.xor_zero] at h
    apply BitVec.eq_of_getLsbD_eq
    intro i hi
    simp only [BitVec.getLsbD_zero]
    cases i with
    | zero => exact hb
    | succ i =>
      have := congrArg (fun x : BitVec 32 => x.getLsbD i) h
      simpa [BitVec.getLsbD_ushiftRight, Nat.add_comm] using this
  | true =>
    rw [hb] at h
    have := congrArg (fun x : BitVec 32 => x.getLsbD 31) h
    simp only [if_true, BitVec.getLsbD_xor, BitVec.getLsbD_ushiftRight, BitVec.getLsbD_zero] at this
    rw [BitVec.getLsbD_of_ge c (1 + 31) (by omega)] at this
    exact absurd this (by decide)
theorem stepN_eq_zero : ∀ {n : Nat} {c : BitVec 32}, stepN n c = 0#32 → c = 0#32
  | 0, _, h => h
  | n + 1, _, h => step_eq_zero (stepN_eq_zero (n := n) h)

/-- A bstep of what is even is half of it. -/
theorem step_shl (d : BitVec 32) (n : Nat) (hd : d.toNat * 2 ^ (n + 1) < 2 ^ 32) : bstep (d <<< (n + 1)) = d <<< n := by
  have e0 : (d <<< (n + 1)).getLsbD 0 = false := by
    rw [BitVec.getLsbD_shiftLeft]
    simp
  unfold bstep
  rw [e0]
  simp only [Bool.false_eq_true, if_false, BitVec.xor_zero]
  apply BitVec.eq_of_toNat_eq
  have hp : d.toNat * 2 ^ n < 2 ^ 32 := by
    have h2 : d.toNat * 2 ^ (n + 1) = d.toNat * 2 ^ n * 2 := by rw [Nat.pow_succ, Nat.mul_assoc]
    omega
  rw [BitVec.toNat_ushiftRight, BitVec.toNat_shiftLeft, BitVec.toNat_shiftLeft, Nat.shiftLeft_eq, Nat.shiftLeft_eq, Nat.mod_eq_of_lt hd, Nat.mod_eq_of_lt hp, Nat.shiftRight_eq_div_pow, Nat.pow_succ]
  rw [← Nat.mul_assoc]
  exact Nat.mul_div_cancel _ (by decide)
theorem step4_shl (d : BitVec 32) (hd : d.toNat < 2 ^ 28) : stepN 4 (d <<< 4) = d := by
  show bstep (bstep (bstep (bstep (d <<< 4)))) = d
  rw [step_shl d 3 (by omega), step_shl d 2 (by omega), step_shl d 1 (by omega), step_shl d 0 (by omega)]
  simp
theorem half_step : ∀ i : Fin 16, stepN 4 (BitVec.ofNat 32 i.val) = half i.val := by decide
theorem step4 (x : BitVec 32) : stepN 4 x = (x >>> 4) ^^^ half (x &&& 15#32).toNat := by
  have hlow : (x &&& 15#32).toNat < 16 := by
    rw [BitVec.toNat_and]
    exact Nat.lt_of_le_of_lt Nat.and_le_right (by decide)
  have e : x = ((x >>> 4) <<< 4) ^^^ (x &&& 15#32) := by
    apply BitVec.eq_of_getLsbD_eq
    intro i hi
    have e15 : ∀ i < 32, (15#32).getLsbD i = decide (i < 4) := by decide
    rw [BitVec.getLsbD_xor, BitVec.getLsbD_and, e15 i hi, BitVec.getLsbD_shiftLeft, BitVec.getLsbD_ushiftRight]
    by_cases h4 : i < 4
    · simp [h4]
    · have : 4 + (i - 4) = i := by omega
      simp [h4, hi, this]
  have hd : (x >>> 4).toNat < 2 ^ 28 := by
    rw [BitVec.toNat_ushiftRight, Nat.shiftRight_eq_div_pow]
    have := x.isLt
    omega
  have h := half_step ⟨(x &&& 15#32).toNat, hlow⟩
  simp only [BitVec.ofNat_toNat, BitVec.setWidth_eq] at h
  conv => lhs; rw [e]
  rw [stepN_xor, step4_shl _ hd, h]
theorem inB_eq (c : BitVec 32) (b : BitVec 8) : inB c b = stepN 8 (c ^^^ b.setWidth 32) := by
  rw [stepN_add 4 4 (c ^^^ b.setWidth 32), step4, step4]
  rfl
theorem more_more (c : BitVec 32) (a b : List (BitVec 8)) : more (more c a) b = more c (a ++ b) := by
  unfold more
  rw [BitVec.not_not, List.foldl_append]
theorem more_none (c : BitVec 32) : more c [] = c := by
  unfold more
  simp
end Go.Proofs.YtlmbghemlphoaaaDoor.CrcM

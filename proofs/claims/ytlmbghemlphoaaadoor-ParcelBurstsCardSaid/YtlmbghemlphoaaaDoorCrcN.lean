/- The plain law of the check, on: what another byte, another bit, or a xor'd text does to it. -/
import Derived.Test.YtlmbghemlphoaaaDoorCrcM
namespace Go.Proofs.YtlmbghemlphoaaaDoor.CrcM
set_option linter.unusedVariables false
set_option linter.unusedSimpArgs false
theorem zer_eq : ∀ (n : Nat) (c : BitVec 32), zer c n = stepN (8 * n) c
  | 0, _ => rfl
  | n + 1, c => by
    show zer (inB c 0#8) n = _
    rw [zer_eq n, inB_eq, show 8 * (n + 1) = 8 + 8 * n from by omega, stepN_add 8 (8 * n)]
    simp
theorem inB_xor (c d : BitVec 32) (b : BitVec 8) : inB (c ^^^ d) b = inB c b ^^^ stepN 8 d := by
  rw [inB_eq, inB_eq, ← stepN_xor]
  congr 1
  rw [BitVec.xor_assoc, BitVec.xor_assoc, BitVec.xor_comm d]
theorem inB_byte (c : BitVec 32) (b d : BitVec 8) : inB c (b ^^^ d) = inB c b ^^^ inB 0#32 d := by
  rw [inB_eq, inB_eq, inB_eq, ← stepN_xor]
  congr 1
  rw [BitVec.zero_xor, BitVec.xor_assoc, BitVec.setWidth_xor]
theorem fold_xor : ∀ (l : List (BitVec 8)) (c d : BitVec 32), l.foldl inB (c ^^^ d) = l.foldl inB c ^^^ stepN (8 * l.length) d
  | [], c, d => rfl
  | b :: l, c, d => by
    show l.foldl inB (inB (c ^^^ d) b) = l.foldl inB (inB c b) ^^^ _
    rw [inB_xor, fold_xor l, show 8 * (b :: l).length = 8 + 8 * l.length from by simp; omega, stepN_add 8 (8 * l.length)]
theorem not_xor (a b : BitVec 32) : ~~~(a ^^^ b) = ~~~a ^^^ b := by
  rw [← BitVec.allOnes_xor, ← BitVec.allOnes_xor, BitVec.xor_assoc]
/-- One byte is another one. -/
theorem fold_set (l : List (BitVec 8)) (k : Nat) (hk : k < l.length) (c : BitVec 32) (d : BitVec 8) :
    (l.set k (l[k] ^^^ d)).foldl inB c = l.foldl inB c ^^^ stepN (8 * (l.length - 1 - k)) (inB 0#32 d) := by
  have e1 : l = l.take k ++ l[k] :: l.drop (k + 1) := by simp
  have e2 : l.set k (l[k] ^^^ d) = l.take k ++ (l[k] ^^^ d) :: l.drop (k + 1) := by
    rw [List.set_eq_take_append_cons_drop, if_pos hk]
  rw [e2, List.foldl_append]
  conv => rhs; lhs; rw [e1, List.foldl_append]
  show (l.drop (k + 1)).foldl inB (inB _ (l[k] ^^^ d)) = (l.drop (k + 1)).foldl inB (inB _ l[k]) ^^^ _
  rw [inB_byte, fold_xor, List.length_drop]
  congr 3
  omega
theorem more_set (c : BitVec 32) (l : List (BitVec 8)) (k : Nat) (hk : k < l.length) (d : BitVec 8) :
    more c (l.set k (l[k] ^^^ d)) = more c l ^^^ stepN (8 * (l.length - 1 - k)) (inB 0#32 d) := by
  unfold more
  rw [fold_set l k hk, not_xor]
theorem setWidth_zero {d : BitVec 8} (h : d.setWidth 32 = 0#32) : d = 0#8 := by
  apply BitVec.eq_of_toNat_eq
  have := congrArg BitVec.toNat h
  rw [BitVec.toNat_setWidth, Nat.mod_eq_of_lt (by have := d.isLt; omega)] at this
  simpa using this
theorem xor_eq_self {a b : BitVec 32} : a ^^^ b = a ↔ b = 0#32 := by
  constructor
  · intro h
    have : a ^^^ (a ^^^ b) = a ^^^ a := by rw [h]
    rwa [← BitVec.xor_assoc, BitVec.xor_self, BitVec.zero_xor] at this
  · rintro rfl
    simp
theorem more_set_iff (c : BitVec 32) (l : List (BitVec 8)) (k : Nat) (hk : k < l.length) (d : BitVec 8) : more c (l.set k (l[k] ^^^ d)) = more c l ↔ d = 0#8 := by
  rw [more_set c l k hk, xor_eq_self]
  constructor
  · intro h
    have h1 := stepN_eq_zero h
    rw [inB_eq, BitVec.zero_xor] at h1
    exact setWidth_zero (stepN_eq_zero h1)
  · rintro rfl
    have : inB 0#32 0#8 = 0#32 := by decide +kernel
    rw [this, stepN_zero]
/-- The law of a mended check. -/
theorem mend_set (l : List (BitVec 8)) (k : Nat) (hk : k < l.length) (hl : l.length ≤ 65536) (d : BitVec 8) (m : Int) (hm : m = (l.length : Int) - 1 - (k : Int)) :
    mend (more 0#32 l) d m = more 0#32 (l.set k (l[k] ^^^ d)) := by
  have e : many m = l.length - 1 - k := by
    unfold many
    repeat' split
    all_goals omega
  unfold mend
  rw [e, zer_eq, more_set 0#32 l k hk]

/-! ### bits -/
theorem step_one (p : Nat) (hp : p < 32) : stepN p (1#32 <<< p) = 1#32 := by
  induction p with
  | zero => rfl
  | succ p ih =>
    show stepN p (bstep (1#32 <<< (p + 1))) = 1#32
    have h2 : (2 : Nat) ^ (p + 1) < 2 ^ 32 := Nat.pow_lt_pow_right (by decide) hp
    rw [step_shl 1#32 p (by simpa using h2)]
    exact ih (by omega)
/-- One bit is another one. -/
theorem more_flip (c : BitVec 32) (l : List (BitVec 8)) (q p : Nat) (hq : q < l.length) (hp : p < 8) :
    more c (l.set q (l[q] ^^^ (1#8 <<< p))) = more c l ^^^ stepN (8 * l.length - (8 * q + p)) 1#32 := by
  rw [more_set c l q hq, inB_eq, BitVec.zero_xor, ← stepN_add]
  congr 1
  have e : (1#8 <<< p).setWidth 32 = 1#32 <<< p := by
    have : ∀ p : Fin 8, (1#8 <<< p.val).setWidth 32 = 1#32 <<< p.val := by decide
    exact this ⟨p, hp⟩
  rw [e, show 8 + 8 * (l.length - 1 - q) = p + (8 * l.length - (8 * q + p)) from by omega, stepN_add, step_one p (by omega)]
/-- Bit i of a burst that begins at bit k. -/
theorem more_burst (c : BitVec 32) (l : List (BitVec 8)) (k i : Nat) (hi : i < 32) (hk : k + i < 8 * l.length) :
    more c (l.set ((k + i) / 8) (l[(k + i) / 8]'(by omega) ^^^ (1#8 <<< ((k + i) % 8)))) = more c l ^^^ stepN (8 * l.length - k) (1#32 <<< i) := by
  rw [more_flip c l ((k + i) / 8) ((k + i) % 8) (by omega) (by omega)]
  congr 1
  rw [show 8 * ((k + i) / 8) + (k + i) % 8 = k + i from by omega, show 8 * l.length - k = i + (8 * l.length - (k + i)) from by omega, stepN_add, step_one i hi]

/-! ### four bytes -/
theorem step8_shl (d : BitVec 32) (hd : d.toNat < 2 ^ 24) : stepN 8 (d <<< 8) = d := by
  have e : d <<< 8 = (d <<< 4) <<< 4 := by rw [← BitVec.shiftLeft_add]
  have h4 : (d <<< 4).toNat < 2 ^ 28 := by
    rw [BitVec.toNat_shiftLeft, Nat.shiftLeft_eq]
    have := Nat.mod_le (d.toNat * 2 ^ 4) (2 ^ 32)
    omega
  rw [stepN_add 4 4 (d <<< 8), e, step4_shl _ h4, step4_shl _ (by omega)]
theorem step_inj {n : Nat} {a b : BitVec 32} (h : stepN n a = stepN n b) : a = b := by
  have h1 : stepN n (a ^^^ b) = 0#32 := by rw [stepN_xor, h, BitVec.xor_self]
  have h2 := stepN_eq_zero h1
  have : b ^^^ (a ^^^ b) = b := by rw [h2]; simp
  rw [BitVec.xor_comm a b, ← BitVec.xor_assoc, BitVec.xor_self, BitVec.zero_xor] at this
  exact this
theorem xor_left_cancel {a b c : BitVec 32} (h : a ^^^ b = a ^^^ c) : b = c := by
  have : a ^^^ (a ^^^ b) = a ^^^ (a ^^^ c) := by rw [h]
  rwa [← BitVec.xor_assoc, ← BitVec.xor_assoc, BitVec.xor_self, BitVec.zero_xor, BitVec.zero_xor] at this
/-- A register behind a byte tells the register ahead of it, up to the byte. -/
theorem peel {c d : BitVec 32} {x y : BitVec 8} (h : inB c x = inB d y) : c ^^^ x.setWidth 32 = d ^^^ y.setWidth 32 := by
  rw [inB_eq, inB_eq] at h
  exact step_inj h
/-- The four bytes that go into a register, side by side. -/
def word (x0 x1 x2 x3 : BitVec 8) : BitVec 32 := x3 ++ x2 ++ x1 ++ x0
theorem word_low (x0 x1 x2 x3 : BitVec 8) : word x0 x1 x2 x3 = (x0.setWidth 32) ^^^ ((x3 ++ x2 ++ x1).setWidth 32 <<< 8) := by
  unfold word
  apply BitVec.eq_of_getLsbD_eq
  intro i hi
  rw [BitVec.getLsbD_append, BitVec.getLsbD_xor, BitVec.getLsbD_setWidth, BitVec.getLsbD_shiftLeft, BitVec.getLsbD_setWidth]
  by_cases h8 : i < 8
  · simp [h8, hi]
  · have hz : x0.getLsbD i = false := BitVec.getLsbD_of_ge x0 i (by omega)
    have h9 : i - 8 < 32 := by omega
    simp [h8, hi, hz, h9]
theorem lt24 (x : BitVec 24) : (x.setWidth 32).toNat < 2 ^ 24 := by
  rw [BitVec.toNat_setWidth]
  have := x.isLt
  have := Nat.mod_le x.toNat (2 ^ 32)
  omega
theorem inB_word (c : BitVec 32) (x0 : BitVec 8) (t : BitVec 24) : stepN 8 (c ^^^ ((x0.setWidth 32) ^^^ (t.setWidth 32 <<< 8))) = inB c x0 ^^^ t.setWidth 32 := by
  rw [inB_eq, ← BitVec.xor_assoc, stepN_xor, step8_shl _ (lt24 t)]
theorem low24 (x1 x2 x3 : BitVec 8) : (x3 ++ x2 ++ x1).setWidth 32 = word x1 x2 x3 0#8 := by
  unfold word
  apply BitVec.eq_of_getLsbD_eq
  intro i hi
  simp only [BitVec.getLsbD_setWidth, BitVec.getLsbD_append, hi, decide_true, Bool.true_and]
  by_cases h8 : i < 8
  · simp [h8]
  · by_cases h16 : i - 8 < 8
    · simp [h8, h16]
    · by_cases h24 : i - 8 - 8 < 8
      · simp [h8, h16, h24]
      · have : x3.getLsbD (i - 8 - 8) = false := BitVec.getLsbD_of_ge _ _ (by omega)
        simp [h8, h16, h24, this]
theorem fold_four (c : BitVec 32) (x0 x1 x2 x3 : BitVec 8) : [x0, x1, x2, x3].foldl inB c = stepN 32 (c ^^^ word x0 x1 x2 x3) := by
  have one : ∀ (c : BitVec 32) (x0 x1 x2 x3 : BitVec 8), stepN 8 (c ^^^ word x0 x1 x2 x3) = inB c x0 ^^^ word x1 x2 x3 0#8 := by
    intro c x0 x1 x2 x3
    rw [word_low, inB_word, low24]
  show inB (inB (inB (inB c x0) x1) x2) x3 = _
  rw [stepN_add 8 24, one, stepN_add 8 16, one, stepN_add 8 8, one, one]
  have : word 0#8 0#8 0#8 0#8 = 0#32 := by decide
  rw [this, BitVec.xor_zero]
theorem app_inj {m : Nat} {a c : BitVec m} {b d : BitVec 8} (h : a ++ b = c ++ d) : a = c ∧ b = d := by
  have hb : ∀ i, (a ++ b).getLsbD i = (c ++ d).getLsbD i := fun i => by rw [h]
  refine ⟨?_, ?_⟩ <;> apply BitVec.eq_of_getLsbD_eq <;> intro i hi
  · have := hb (8 + i)
    rw [BitVec.getLsbD_append, BitVec.getLsbD_append] at this
    have e1 : ¬ 8 + i < 8 := by omega
    have e2 : 8 + i - 8 = i := by omega
    simp only [e1, e2, if_false, decide_false, cond_false] at this
    exact this
  · have := hb i
    rw [BitVec.getLsbD_append, BitVec.getLsbD_append] at this
    simp only [hi, if_true, decide_true, cond_true] at this
    exact this
theorem word_inj {x0 x1 x2 x3 y0 y1 y2 y3 : BitVec 8} (h : word x0 x1 x2 x3 = word y0 y1 y2 y3) : x0 = y0 ∧ x1 = y1 ∧ x2 = y2 ∧ x3 = y3 := by
  have h0 : (x3 ++ x2 ++ x1) ++ x0 = (y3 ++ y2 ++ y1) ++ y0 := h
  obtain ⟨h1, e0⟩ := app_inj h0
  have h1' : (x3 ++ x2) ++ x1 = (y3 ++ y2) ++ y1 := h1
  obtain ⟨h2, e1⟩ := app_inj h1'
  obtain ⟨e3, e2⟩ := app_inj h2
  exact ⟨e0, e1, e2, e3⟩
theorem fold_inj : ∀ (l : List (BitVec 8)) {c d : BitVec 32}, l.foldl inB c = l.foldl inB d → c = d
  | [], _, _, h => h
  | b :: l, c, d, h => by
    have h1 := peel (fold_inj l (c := inB c b) (d := inB d b) h)
    rw [BitVec.xor_comm c, BitVec.xor_comm d] at h1
    exact xor_left_cancel h1
theorem not_inj {a b : BitVec 32} (h : ~~~a = ~~~b) : a = b := by rw [← BitVec.not_not (b := a), h, BitVec.not_not]
theorem four_iff (c : BitVec 32) (a z : List (BitVec 8)) (x0 x1 x2 x3 y0 y1 y2 y3 : BitVec 8) :
    more c (a ++ [x0, x1, x2, x3] ++ z) = more c (a ++ [y0, y1, y2, y3] ++ z) ↔ x0 = y0 ∧ x1 = y1 ∧ x2 = y2 ∧ x3 = y3 := by
  constructor
  · intro h
    unfold more at h
    have h1 := not_inj h
    rw [List.foldl_append, List.foldl_append, List.foldl_append, List.foldl_append] at h1
    have h2 := fold_inj z h1
    rw [fold_four, fold_four] at h2
    exact word_inj (xor_left_cancel (step_inj h2))
  · rintro ⟨rfl, rfl, rfl, rfl⟩
    rfl

/-! ### three texts of one length -/
def xor3 (a b c : List (BitVec 8)) : List (BitVec 8) := List.zipWith (· ^^^ ·) (List.zipWith (· ^^^ ·) a b) c
theorem inB_two (c d : BitVec 32) (x y : BitVec 8) : inB (c ^^^ d) (x ^^^ y) = inB c x ^^^ inB d y := by
  rw [inB_eq, inB_eq, inB_eq, ← stepN_xor, BitVec.setWidth_xor]
  congr 1
  rw [BitVec.xor_assoc, BitVec.xor_assoc, ← BitVec.xor_assoc d, BitVec.xor_comm d (x.setWidth 32), BitVec.xor_assoc (x.setWidth 32)]
theorem fold_two : ∀ (a b : List (BitVec 8)) (c d : BitVec 32), a.length = b.length → (List.zipWith (· ^^^ ·) a b).foldl inB (c ^^^ d) = a.foldl inB c ^^^ b.foldl inB d
  | [], [], _, _, _ => rfl
  | x :: a, y :: b, c, d, h => by
    show (List.zipWith (· ^^^ ·) a b).foldl inB (inB (c ^^^ d) (x ^^^ y)) = a.foldl inB (inB c x) ^^^ b.foldl inB (inB d y)
    rw [inB_two]
    exact fold_two a b _ _ (by simpa using h)
  | [], _ :: _, _, _, h => by simp at h
  | _ :: _, [], _, _, h => by simp at h
theorem more_three (a b c : List (BitVec 8)) (hb : b.length = a.length) (hc : c.length = a.length) : more 0#32 (xor3 a b c) = more 0#32 a ^^^ more 0#32 b ^^^ more 0#32 c := by
  unfold more xor3
  have e : (~~~0#32 : BitVec 32) = (~~~0#32 ^^^ ~~~0#32) ^^^ ~~~0#32 := by decide
  conv => lhs; rw [e]
  rw [fold_two _ _ _ _ (by simp [hb, hc]), fold_two _ _ _ _ hb.symm, not_xor, not_xor]
  have n1 : ∀ x y : BitVec 32, x ^^^ ~~~y = ~~~(x ^^^ y) := fun x y => by rw [BitVec.xor_comm x y, not_xor, BitVec.xor_comm]
  simp only [n1, not_xor, BitVec.not_not]
end Go.Proofs.YtlmbghemlphoaaaDoor.CrcM

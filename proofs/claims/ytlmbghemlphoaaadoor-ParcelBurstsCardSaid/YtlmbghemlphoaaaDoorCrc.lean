/- The walks of package crc: what each function answers, given that the table holds its sixteen numbers. -/
import Derived.Test.YtlmbghemlphoaaaDoorKit
import Derived.Test.YtlmbghemlphoaaaDoorCrcM
namespace Go.Proofs.YtlmbghemlphoaaaDoor.Crc
open Go.RowKit Go.Proofs.YtlmbghemlphoaaaDoor.Kit Go.Proofs.YtlmbghemlphoaaaDoor.CrcM
set_option linter.unusedVariables false
set_option linter.unusedSimpArgs false
/-- The table, as it lies in memory. -/
def Tab (w : World) : Prop := ∀ i : Nat, i < 16 → w.cell? ⟨0, i, none⟩ = some (.int .u32 (half i).toNat)

theorem wrap_u32 {n : Int} (h0 : 0 ≤ n) (h1 : n < 4294967296) : IntKind.u32.wrap n = n := by
  rw [IntKind.wrap_u32]; omega
theorem ofInt_nat (w n : Nat) : BitVec.ofInt w (n : Int) = BitVec.ofNat w n := by
  apply BitVec.eq_of_toNat_eq
  simp
theorem bits_xor (a b : BitVec 32) : bits .xor .u32 (a.toNat : Int) (b.toNat : Int) = ((a ^^^ b).toNat : Int) := by
  unfold bits
  simp only [IntKind.bits, ofInt_nat, BitVec.ofNat_toNat, BitVec.setWidth_eq]
  have := (a ^^^ b).isLt
  exact wrap_u32 (by omega) (by omega)
theorem bits_xor8 (a : BitVec 32) (b : BitVec 8) : bits .xor .u32 (a.toNat : Int) (b.toNat : Int) = ((a ^^^ b.setWidth 32).toNat : Int) := by
  have e : (b.toNat : Int) = ((b.setWidth 32).toNat : Int) := by
    rw [BitVec.toNat_setWidth, Nat.mod_eq_of_lt (by have := b.isLt; omega)]
  rw [e, bits_xor]
theorem bits_and15 (a : BitVec 32) : bits .and .u32 (a.toNat : Int) 15 = ((a &&& 15#32).toNat : Int) := by
  unfold bits
  have e : BitVec.ofInt IntKind.u32.bits 15 = (15#32) := rfl
  rw [e]
  simp only [IntKind.bits, ofInt_nat, BitVec.ofNat_toNat, BitVec.setWidth_eq]
  have := (a &&& 15#32).isLt
  exact wrap_u32 (by omega) (by omega)
theorem shr4 (a : BitVec 32) : (a.toNat : Int) / (16 : Int) = ((a >>> 4).toNat : Int) := by
  rw [BitVec.toNat_ushiftRight, Nat.shiftRight_eq_div_pow]
  omega
theorem and15_lt (a : BitVec 32) : (a &&& 15#32).toNat < 16 := by
  rw [BitVec.toNat_and]
  exact Nat.lt_of_le_of_lt Nat.and_le_right (by decide)
set_option maxHeartbeats 400000 in
theorem in_any (c : BitVec 32) (b : BitVec 8) (w : World) (hT : Hid (Tab w)) :
    Calls Tryd.prog 41 #[.int .u32 c.toNat, .int .u8 b.toNat] w fun e w' => e = .returned (.int .u32 (inB c b).toNat) ∧ w = w' := by
  obtain ⟨x, hx⟩ : ∃ x, x = c ^^^ b.setWidth 32 := ⟨_, rfl⟩
  have e1 := bits_xor8 c b
  rw [← hx] at e1
  have l1 := and15_lt x
  have e2 := bits_and15 x
  have t1 := hT.out _ l1
  obtain ⟨i, hi⟩ : ∃ i, i = (x &&& 15#32).toNat := ⟨_, rfl⟩
  rw [← hi] at l1 e2 t1
  obtain ⟨y, hy⟩ : ∃ y, y = (x >>> 4) ^^^ half i := ⟨_, rfl⟩
  have e3 : bits .xor .u32 ((x.toNat : Int) / (16 : Int)) ((half i).toNat : Int) = (y.toNat : Int) := by
    rw [shr4, bits_xor, hy]
  have l2 := and15_lt y
  have e4 := bits_and15 y
  have t2 := hT.out _ l2
  obtain ⟨j, hj⟩ : ∃ i, i = (y &&& 15#32).toNat := ⟨_, rfl⟩
  rw [← hj] at l2 e4 t2
  obtain ⟨z, hz⟩ : ∃ z, z = (y >>> 4) ^^^ half j := ⟨_, rfl⟩
  have e5 : bits .xor .u32 ((y.toNat : Int) / (16 : Int)) ((half j).toNat : Int) = (z.toNat : Int) := by
    rw [shr4, bits_xor, hz]
  have HF : Hid (inB c b = z) := by
    show inB c b = z
    rw [hz, hj, hy, hi, hx]
    rfl
  have bx := x.isLt
  have by_ := y.isLt
  have bb := b.isLt
  clear hx hi hy hj hz
  go_enter Tryd.func41, Tryd.ntmps41
  go_wp2
  go_ret
  rw [HF.out]
  exact ⟨rfl, rfl⟩
theorem bits_not (a : BitVec 32) : bits .xor .u32 IntKind.u32.max (a.toNat : Int) = ((~~~a).toNat : Int) := by
  have e : (~~~a) = (BitVec.allOnes 32) ^^^ a := (BitVec.allOnes_xor).symm
  rw [e, ← bits_xor]
  rfl
theorem bits_not' (a : BitVec 32) : ∃ b, bits .xor .u32 IntKind.u32.max (a.toNat : Int) = (b.toNat : Int) ∧ Hid (b = ~~~a) := ⟨_, bits_not a, Kit.hid rfl⟩
theorem take_snoc {α : Type} {l : List α} {i : Nat} (h : i < l.length) : l.take (i + 1) = l.take i ++ [l[i]] := by
  rw [List.take_succ_eq_append_getElem h]
set_option maxHeartbeats 400000 in
theorem more_any (c : BitVec 32) (A : Option Addr) (l : List (BitVec 8)) (cap : Nat) (w : World) (hT : Hid (Tab w)) (hb : Hid (Bytes w A l)) (hl : l.length ≤ 140737488351232) :
    Calls Tryd.prog 36 #[.int .u32 c.toNat, .slice A l.length cap] w fun e w' => e = .returned (.int .u32 (more c l).toNat) ∧ w = w' := by
  obtain ⟨d, e1, hd⟩ := bits_not' c
  have HM : Hid (∀ x, x = l.foldl inB d → more c l = ~~~x) := by
    show ∀ x, x = l.foldl inB d → more c l = ~~~x
    rintro x rfl
    rw [hd.out]
    rfl
  clear hd
  go_enter Tryd.func36, Tryd.ntmps36
  go_wp2
  refine scope_label 0 (fun a' w' => w = w' ∧ ∃ (i : Nat) (x : BitVec 32) (u7 u8 u9 u10 u11 u12 u13 u14 u15 u16 u17 u18 u19 u20 u21 u22 : Value), a' = { tmps := #[.int .u32 c.toNat, .slice A l.length cap, undef, undef, .int .u32 0, .int .u32 x.toNat, .int .i64 i, u7, u8, u9, u10, u11, u12, u13, u14, u15, u16, u17, u18, u19, u20, u21, u22], defers := [] } ∧ Hid (x = (l.take i).foldl inB d) ∧ i ≤ l.length) (fun a' _ => l.length - (intOf (a'.tmps.getD 6 undef)).toNat) rfl ?_ ?_
  · rintro a' w' ⟨rfl, i, x, u7, u8, u9, u10, u11, u12, u13, u14, u15, u16, u17, u18, u19, u20, u21, u22, rfl, hx, hi⟩
    obtain ⟨y, e2, hy⟩ := bits_not' x
    by_cases hlt : i < l.length
    · obtain ⟨ad, rfl, hc⟩ := hb.out i hlt
      have h0 : ((i : Int) == (l.length : Int)) = false := by simp; omega
      obtain ⟨b, hbb⟩ : ∃ b, b = l[i] := ⟨_, rfl⟩
      rw [← hbb] at hc
      have HB := Kit.hid hbb
      clear hbb
      go_wp2_with (go_at_call 41; refine (in_any x b _ hT).mono ?_; rintro e w' ⟨rfl, rfl⟩)
      go_step3
      refine ⟨rfl, ⟨rfl, i + 1, inB x b, _, _, _, _, _, _, _, _, _, _, _, _, _, _, _, _, ⟨by first | rfl | (congr 1), ?_, by omega⟩⟩, ?_⟩
      · show inB x b = _
        rw [take_snoc hlt, List.foldl_append, ← hx.out, ← HB.out]
        rfl
      · simp [intOf]
        omega
    · have h0 : ((i : Int) == (l.length : Int)) = true := by simp; omega
      go_wp2
      simp only [Exit.jump]
      go_ret
      refine ⟨?_, rfl⟩
      rw [hy.out, HM.out x (by rw [hx.out, List.take_of_length_le (by omega)])]
      rfl
  · intro HF
    go_wp2
    go_step3
    rename_i K hK
    refine hK _ _ ?_
    exact HF.out _ _ ⟨rfl, 0, d, _, _, _, _, _, _, _, _, _, _, _, _, _, _, _, _, ⟨by first | rfl | (congr 1), by rfl, Nat.zero_le _⟩⟩
theorem in_int (z v : Int) (c : BitVec 32) (b : BitVec 8) (w : World) (hT : Hid (Tab w)) (hz : z = (c.toNat : Int)) (hv : v = (b.toNat : Int)) :
    Calls Tryd.prog 41 #[.int .u32 z, .int .u8 v] w fun e w' => e = .returned (.int .u32 (inB c b).toNat) ∧ w = w' := by
  subst hz hv
  exact in_any c b w hT
theorem more_int (z : Int) (c : BitVec 32) (A : Option Addr) (l : List (BitVec 8)) (n : Int) (len cap : Nat) (w : World) (hT : Hid (Tab w)) (hb : Hid (Bytes w A l)) (hl : l.length ≤ 140737488351232) (hz : z = (c.toNat : Int)) (hn : len = l.length) :
    Calls Tryd.prog 36 #[.int .u32 z, .slice A len cap] w fun e w' => e = .returned (.int .u32 (more c l).toNat) ∧ w = w' := by
  subst hz hn
  exact more_any c A l cap w hT hb hl
theorem of_any (A : Option Addr) (l : List (BitVec 8)) (len cap : Nat) (w : World) (hT : Hid (Tab w)) (hb : Hid (Bytes w A l)) (hl : l.length ≤ 140737488351232) (hn : len = l.length) :
    Calls Tryd.prog 24 #[.slice A len cap] w fun e w' => e = .returned (.int .u32 (more 0#32 l).toNat) ∧ w = w' := by
  go_enter Tryd.func24, Tryd.ntmps24
  have HN := Kit.hid hn
  clear hn
  go_wp2_with (go_at_call 36; refine (more_int 0 0#32 A l 0 len cap _ hT hb hl rfl HN.out).mono ?_; rintro e w' ⟨rfl, rfl⟩)
  go_ret
  exact ⟨rfl, rfl⟩
end Go.Proofs.YtlmbghemlphoaaaDoor.Crc

/- The laws LeUnlike and LeSigned. -/
import Derived.Test.YtpgfjiglkmpnaaaLeF
namespace Go.Proofs.Ytpgfjiglkmpnaaa.Le
open Go.RowKit Go.Proofs.Ytpgfjiglkmpnaaa.Kit Go.Proofs.Ytpgfjiglkmpnaaa.LeM
set_option linter.unusedVariables false
set_option linter.unusedSimpArgs false
theorem ret_bool {b c : Bool} (h : b = c) : Ending.returned (.bool b) = Ending.returned (.bool c) := by rw [h]
theorem dec_beq (x y : Int) : (decide (x = y) == (x == y)) = true := by
  by_cases h : x = y
  · subst h; simp
  · simp [h]
/-- What a number put as bytes of its own leaves. -/
def PutNil (w : World) (D : List (BitVec 8)) (e : Ending) (w' : World) : Prop :=
  ∃ (A : Option Addr) (c : Nat), e = .returned (.slice A D.length c) ∧ Hid (Bytes w' A D) ∧ D.length ≤ c ∧ (∀ ad, A = some ad → w.heap.size ≤ ad.block) ∧ w'.ownsRow w.heap.size 5 1 (.slice A D.length c) D.length (D.map byteV) ∧ Below w.heap.size w w'
theorem putnil_any (n : Nat) (z width : Int) (w : World) (hn : n < 18446744073709551616) (hz : z = (n : Int)) :
    Calls Try.prog 13 #[.slice none 0 0, .int .u64 z, .int .i64 width] w (PutNil w (dig n (hw width))) := by
  subst hz
  refine (put_any w.heap.size (.slice none 0 0) [] n width w (World.ownsRow_nil _ _ _ _) (Nat.le_refl _) (by decide) hn).mono ?_
  rintro e w1 ⟨v1, rfl, hown, hg1, _⟩
  rw [List.nil_append] at hown
  have hd1 := below_own (Below.refl _ _) (World.ownsRow_nil w w.heap.size 5 1) hg1 (Nat.le_refl _)
  obtain ⟨A1, cap1, rfl, hc1, hcap1, hf⟩ := own_reads hown
  refine ⟨A1, cap1, rfl, bytes_of_cells hc1, hcap1, fun ad h => ?_, hown, hd1⟩
  rcases hf with ⟨rfl, _⟩ | ⟨g, rfl, hg, _⟩
  · cases h
  · cases h
    exact hg
theorem shl8 : ∀ k : Nat, k < 8 → IntKind.u64.wrap ((2 : Int) ^ (8 * k)) = ((256 ^ k : Nat) : Int) := by decide
theorem dig_same (a b k : Nat) : decide (dig a k = dig b k) = decide (((a : Int) % ((256 ^ k : Nat) : Int)) = ((b : Int) % ((256 ^ k : Nat) : Int))) := by
  refine decide_eq_decide.2 ((dig_eq k a b).trans ?_)
  omega
set_option maxHeartbeats 400000 in
theorem unlikeLaw_any (a b : Nat) (width : Int) (w : World) (ha : a < 18446744073709551616) (hb : b < 18446744073709551616) :
    Calls Try.prog 4 #[.int .u64 a, .int .u64 b, .int .i64 width] w fun e w' => e = .returned (.bool true) ∧ Below w.heap.size w w' := by
  have hk := hw_bd width
  have HA := Kit.hid (fun w => putnil_any a a width w ha rfl)
  have HB := Kit.hid (fun w => putnil_any b b width w hb rfl)
  have HS := Kit.hid (dig_same a b (hw width))
  have hla := dig_length (hw width) a
  have hlb := dig_length (hw width) b
  obtain ⟨k, hkk⟩ : ∃ k, k = hw width := ⟨_, rfl⟩
  rw [← hkk] at hk HA HB HS hla hlb
  clear hkk
  obtain ⟨x, hx⟩ : ∃ x, x = dig a k := ⟨_, rfl⟩
  obtain ⟨y, hy⟩ : ∃ y, y = dig b k := ⟨_, rfl⟩
  rw [← hx] at HA HS hla
  rw [← hy] at HB HS hlb
  have HX := Kit.hid hla
  have HY := Kit.hid hlb
  have g0 : ((k : Int) != (k : Int)) = false := by simp
  by_cases h8 : k < 8
  · have hp : 256 ^ k ≤ 72057594037927936 := Nat.pow_le_pow_right (n := 256) (by decide) (show k ≤ 7 by omega)
    have hp0 : 0 < 256 ^ k := Nat.pow_pos (by decide)
    have hsh := shl8 k h8
    obtain ⟨P, hP⟩ : ∃ P, P = 256 ^ k := ⟨_, rfl⟩
    rw [← hP] at hp hp0 hsh HS
    have hP1 : ((P : Int) == 0) = false := beq_eq_false_iff_ne.2 (by omega)
    clear hP hx hy hla hlb
    go_enter Try.func4, Try.ntmps4
    go_wp2_with (first
      | (go_at_call 10; refine (awake_any _).mono ?_; rintro e w1 ⟨rfl, hd1⟩; have hsz1 := hd1.size)
      | (go_at_call 13; (with_reducible refine (HA.out _).mono ?_); rintro e w2 ⟨A2, c2, rfl, hB2, hc2, hf2, _, hd2⟩
         have hd12 := hd1.trans (hd2.mono hsz1)
         have hsz2 := hd12.size
         rw [HX.out])
      | (go_at_call 13; (with_reducible refine (HB.out _).mono ?_); rintro e w3 ⟨A3, c3, rfl, hB3, hc3, hf3, _, hd3⟩
         have hd13 := hd12.trans (hd3.mono hsz2)
         have hsz3 := hd13.size
         have hB23 := bytes_below hB2 hd3
         have HSM := Kit.hid (same_any A2 x c2 A3 y c3 w3.drew (bytes_below hB23 (below_drewN (Below.refl _ _) 1)) (bytes_below hB3 (below_drewN (Below.refl _ _) 1)) (by have := HX.out; omega) (by have := HY.out; omega))
         rw [HX.out, HY.out, HS.out] at HSM
         rw [HY.out]))
    go_region
    go_wp2_with (go_at_call 12; refine HSM.out.mono ?_; rintro e w4 ⟨rfl, n4, rfl⟩)
    go_ret
    exact ⟨ret_bool (dec_beq _ _), below_drewN hd13 _⟩
  · have hd : decide (x = y) = decide ((a : Int) = (b : Int)) := by
      rw [HS.out]
      obtain rfl : k = 8 := by omega
      refine decide_eq_decide.2 ?_
      simp only [Nat.reducePow]
      omega
    have HS2 := Kit.hid hd
    clear hd hx hy hla hlb
    go_enter Try.func4, Try.ntmps4
    go_wp2_with (first
      | (go_at_call 10; refine (awake_any _).mono ?_; rintro e w1 ⟨rfl, hd1⟩; have hsz1 := hd1.size)
      | (go_at_call 13; (with_reducible refine (HA.out _).mono ?_); rintro e w2 ⟨A2, c2, rfl, hB2, hc2, hf2, _, hd2⟩
         have hd12 := hd1.trans (hd2.mono hsz1)
         have hsz2 := hd12.size
         rw [HX.out])
      | (go_at_call 13; (with_reducible refine (HB.out _).mono ?_); rintro e w3 ⟨A3, c3, rfl, hB3, hc3, hf3, _, hd3⟩
         have hd13 := hd12.trans (hd3.mono hsz2)
         have hsz3 := hd13.size
         have hB23 := bytes_below hB2 hd3
         have HSM := Kit.hid (same_any A2 x c2 A3 y c3 w3 hB23 hB3 (by have := HX.out; omega) (by have := HY.out; omega))
         rw [HX.out, HY.out, HS2.out] at HSM
         rw [HY.out])
      | (go_at_call 12; refine HSM.out.mono ?_; rintro e w4 ⟨rfl, n4, rfl⟩))
    go_ret
    exact ⟨ret_bool (dec_beq _ _), below_drewN hd13 _⟩
end Go.Proofs.Ytpgfjiglkmpnaaa.Le

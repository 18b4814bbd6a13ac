/- The walks of the document's answer for crc: each function answers as the program's does. -/
import Derived.Test.YtlmbghemlphoaaaDoorCrc
namespace Go.Proofs.YtlmbghemlphoaaaDoor.Crc
open Go.RowKit Go.Proofs.YtlmbghemlphoaaaDoor.Kit Go.Proofs.YtlmbghemlphoaaaDoor.CrcM
set_option linter.unusedVariables false
set_option linter.unusedSimpArgs false
theorem odd_iff (x : BitVec 32) : x.getLsbD 0 = decide ((x.toNat : Int) % (2 : Int) = 1) := by
  rw [BitVec.getLsbD_eq_getElem (by decide), BitVec.getElem_eq_testBit_toNat, Nat.testBit_zero]
  apply decide_eq_decide.2
  omega
theorem step_even {x : BitVec 32} (h : (x.toNat : Int) % (2 : Int) ≠ 1) : (x.toNat : Int) / (2 : Int) = ((bstep x).toNat : Int) := by
  have e : x.getLsbD 0 = false := by rw [odd_iff]; exact decide_eq_false h
  unfold bstep
  rw [e]
  simp only [Bool.false_eq_true, if_false, BitVec.xor_zero, BitVec.toNat_ushiftRight, Nat.shiftRight_eq_div_pow]
  omega
theorem half1 (x : BitVec 32) : (x.toNat : Int) / (2 : Int) = ((x >>> 1).toNat : Int) := by
  rw [BitVec.toNat_ushiftRight, Nat.shiftRight_eq_div_pow]
  omega
theorem step_odd {x : BitVec 32} (h : (x.toNat : Int) % (2 : Int) = 1) : bits .xor .u32 ((x.toNat : Int) / (2 : Int)) 3988292384 = ((bstep x).toNat : Int) := by
  have e : x.getLsbD 0 = true := by rw [odd_iff]; exact decide_eq_true h
  have e2 : ((3988292384 : Int)) = ((poly.toNat : Nat) : Int) := rfl
  rw [half1, e2, bits_xor]
  unfold bstep
  rw [e]
  rfl
set_option maxHeartbeats 400000 in
theorem rin_any (c : BitVec 32) (b : BitVec 8) (w : World) :
    Calls Tryd.prog 44 #[.int .u32 c.toNat, .int .u8 b.toNat] w fun e w' => e = .returned (.int .u32 (inB c b).toNat) ∧ w = w' := by
  have e1 := bits_xor8 c b
  obtain ⟨d, hd⟩ : ∃ d, d = c ^^^ b.setWidth 32 := ⟨_, rfl⟩
  rw [← hd] at e1
  have HD : Hid (inB c b = stepN 8 d) := by
    show _ = _
    rw [hd, inB_eq]
  have bb := b.isLt
  have bd := d.isLt
  clear hd
  go_enter Tryd.func44, Tryd.ntmps44
  go_wp2
  go_loop [0, 5] (fun c i => ∃ (k : Nat) (x : BitVec 32), k ≤ 8 ∧ i = .int .i64 k ∧ c = .int .u32 x.toNat ∧ Hid (stepN 8 d = stepN (8 - k) x)) (fun _ i => 8 - (intOf i).toNat)
  case atStart => exact ⟨0, d, by omega, rfl, rfl, by rfl⟩
  case round =>
    obtain ⟨k, x, hk, rfl, rfl, hx⟩ := hrel
    have bx := x.isLt
    have hN : Hid (k < 8 → stepN 8 d = stepN (8 - (k + 1)) (bstep x)) := by
      show k < 8 → _
      intro h
      rw [hx.out, show 8 - k = (8 - (k + 1)) + 1 from by omega]
      rfl
    by_cases hlt : k < 8
    · by_cases ho : (x.toNat : Int) % (2 : Int) = 1
      · have g1 : ((x.toNat : Int) % (2 : Int) == 1) = true := by simp [ho]
        have e2 := step_odd ho
        clear ho
        go_wp2
        go_round
        case rel => exact ⟨k + 1, bstep x, by omega, by go_num, rfl, hN.out hlt⟩
        case measure => simp [intOf]; omega
      · have g1 : ((x.toNat : Int) % (2 : Int) == 1) = false := by simpa using ho
        have e2 := step_even ho
        clear ho
        go_wp2
        go_round
        case rel => exact ⟨k + 1, bstep x, by omega, by go_num, rfl, hN.out hlt⟩
        case measure => simp [intOf]; omega
    · go_wp2
      go_ret
      obtain rfl : k = 8 := by omega
      rw [HD.out, hx.out]
      exact ⟨rfl, rfl⟩
theorem rin_int (z v : Int) (c : BitVec 32) (b : BitVec 8) (w : World) (hz : z = (c.toNat : Int)) (hv : v = (b.toNat : Int)) :
    Calls Tryd.prog 44 #[.int .u32 z, .int .u8 v] w fun e w' => e = .returned (.int .u32 (inB c b).toNat) ∧ w = w' := by
  subst hz hv
  exact rin_any c b w
set_option maxHeartbeats 400000 in
theorem rall_any (z : Int) (c : BitVec 32) (A : Option Addr) (l : List (BitVec 8)) (cap : Nat) (w : World) (hb : Hid (Bytes w A l)) (hl : l.length ≤ 140737488351232) (hz : z = (c.toNat : Int)) :
    Calls Tryd.prog 43 #[.int .u32 z, .slice A l.length cap] w fun e w' => e = .returned (.int .u32 (l.foldl inB c).toNat) ∧ w = w' := by
  subst hz
  go_enter Tryd.func43, Tryd.ntmps43
  go_wp2
  go_loop [0, 5] (fun v i => ∃ (k : Nat) (x : BitVec 32), k ≤ l.length ∧ i = .int .i64 k ∧ v = .int .u32 x.toNat ∧ Hid (x = (l.take k).foldl inB c)) (fun _ i => l.length - (intOf i).toNat)
  case atStart => exact ⟨0, c, by omega, rfl, rfl, by rfl⟩
  case round =>
    obtain ⟨k, x, hk, rfl, rfl, hx⟩ := hrel
    by_cases hlt : k < l.length
    · obtain ⟨ad, rfl, hc⟩ := hb.out k hlt
      obtain ⟨b, hbb⟩ : ∃ b, b = l[k] := ⟨_, rfl⟩
      rw [← hbb] at hc
      have HB := Kit.hid hbb
      clear hbb
      go_wp2_with (go_at_call 44; refine (rin_any x b _).mono ?_; rintro e w' ⟨rfl, rfl⟩)
      go_round
      case rel =>
        refine ⟨k + 1, inB x b, by omega, by go_num, rfl, ?_⟩
        show inB x b = _
        rw [take_snoc hlt, List.foldl_append, ← hx.out, ← HB.out]
        rfl
      case measure => simp [intOf]; omega
    · go_wp2
      go_ret
      refine ⟨?_, rfl⟩
      rw [hx.out, List.take_of_length_le (by omega)]
      rfl
theorem rover_int (z : Int) (c y : BitVec 32) (w : World) (hz : z = (c.toNat : Int)) (hy : y = ~~~c) :
    Calls Tryd.prog 42 #[.int .u32 z] w fun e w' => e = .returned (.int .u32 y.toNat) ∧ w = w' := by
  subst hz
  have bc := c.isLt
  have e1 : 4294967295 - (c.toNat : Int) = (y.toNat : Int) := by
    rw [hy, BitVec.toNat_not]
    omega
  clear hy
  go_enter Tryd.func42, Tryd.ntmps42
  go_wp2
  go_ret
  exact ⟨rfl, rfl⟩
theorem more_eq (c : BitVec 32) (l : List (BitVec 8)) : more c l = ~~~(l.foldl inB (~~~c)) := rfl
theorem rof_any (A : Option Addr) (l : List (BitVec 8)) (cap : Nat) (w : World) (hb : Hid (Bytes w A l)) (hl : l.length ≤ 140737488351232) :
    Calls Tryd.prog 37 #[.slice A l.length cap] w fun e w' => e = .returned (.int .u32 (more 0#32 l).toNat) ∧ w = w' := by
  obtain ⟨x, hx⟩ : ∃ x, l.foldl inB (~~~0#32) = x := ⟨_, rfl⟩
  obtain ⟨y, hy⟩ : ∃ y, y = ~~~x := ⟨_, rfl⟩
  rw [more_eq, hx, ← hy]
  have HX := Kit.hid hx
  have HY := Kit.hid hy
  clear hx hy
  go_enter Tryd.func37, Tryd.ntmps37
  go_wp2_with (first
    | (go_at_call 43; refine (rall_any 4294967295 (~~~0#32) A l cap _ hb hl rfl).mono ?_; rw [HX.out]; rintro e w' ⟨rfl, rfl⟩)
    | (go_at_call 42; refine (rover_int _ x y _ rfl HY.out).mono ?_; rintro e w' ⟨rfl, rfl⟩))
  go_ret
  exact ⟨rfl, rfl⟩
theorem zer_snoc : ∀ (n : Nat) (c : BitVec 32), zer c (n + 1) = inB (zer c n) 0#8
  | 0, _ => rfl
  | n + 1, c => by
    show zer (inB c 0#8) (n + 1) = _
    rw [zer_snoc n]
    rfl
end Go.Proofs.YtlmbghemlphoaaaDoor.Crc

/- The walks of crc's examples, and of two laws that hold the program against the document's answer. -/
import Derived.Test.YtifpgidhfogbfaaDoorCrcRef
namespace Go.Proofs.YtifpgidhfogbfaaDoor.Crc
open Go.RowKit Go.Proofs.YtifpgidhfogbfaaDoor.Kit Go.Proofs.YtifpgidhfogbfaaDoor.CrcM
set_option linter.unusedVariables false
set_option linter.unusedSimpArgs false
theorem tab_below {w w1 : World} (h : Hid (Tab w)) (hb : Below w.heap.size w w1) : Hid (Tab w1) := by
  intro i hi
  have hc := h.out i hi
  rw [← hc]
  exact hb.cell (p := ⟨0, i, none⟩) (cell_lt hc)
/-- The example's nine bytes. -/
def nine : List (BitVec 8) := [49#8, 50#8, 51#8, 52#8, 53#8, 54#8, 55#8, 56#8, 57#8]
theorem more_nine : more 0#32 nine = 3421780262#32 := by decide +kernel
theorem more_nil : more 0#32 [] = 0#32 := by decide +kernel
theorem bytes_nine (w : World) (r : Nat × Nat) : Hid (Bytes (w.alloc (.cells #[.int .u8 49, .int .u8 50, .int .u8 51, .int .u8 52, .int .u8 53, .int .u8 54, .int .u8 55, .int .u8 56, .int .u8 57] 5 r)) (some ⟨w.heap.size, 0, none⟩) nine) := by
  intro i hi
  refine ⟨_, rfl, ?_⟩
  have hb := blk_cell (blk_new w (.cells #[.int .u8 49, .int .u8 50, .int .u8 51, .int .u8 52, .int .u8 53, .int .u8 54, .int .u8 55, .int .u8 56, .int .u8 57] 5 r)) i
  have e : (⟨w.heap.size, 0, none⟩ : Addr).add i = ⟨w.heap.size, i, none⟩ := by
    unfold Addr.add
    split
    · rename_i h
      rw [h]
    · simp
  rw [e, hb]
  have hi' : i < 9 := hi
  match i, hi' with
  | 0, _ => rfl
  | 1, _ => rfl
  | 2, _ => rfl
  | 3, _ => rfl
  | 4, _ => rfl
  | 5, _ => rfl
  | 6, _ => rfl
  | 7, _ => rfl
  | 8, _ => rfl
set_option maxHeartbeats 400000 in
theorem awake_any (w : World) (hT : Hid (Tab w)) :
    Calls Tryd.prog 10 #[] w fun e w' => e = .returned (.bool true) ∧ Below w.heap.size w w' := by
  go_enter Tryd.func10, Tryd.ntmps10
  have hcv := Lib.run_convert_bytes_const (P := Tryd.prog) w 22 5 #[.int .u8 49, .int .u8 50, .int .u8 51, .int .u8 52, .int .u8 53, .int .u8 54, .int .u8 55, .int .u8 56, .int .u8 57] 9 9 Tryd.underlying22 Tryd.underlying5
  go_wp2_with fail
  refine (of_any _ nine 9 9 _ (tab_below hT ((Below.refl _ _).alloc (Nat.le_refl _) _)) (bytes_nine w _) (by decide) rfl).mono ?_
  rw [more_nine]
  rintro e w' ⟨rfl, rfl⟩
  go_wp2_with fail
  refine (of_any _ [] 0 0 _ (tab_below hT ((Below.refl _ _).alloc (Nat.le_refl _) _)) (bytes_nil _ _) (by decide) rfl).mono ?_
  rw [more_nil]
  rintro e w' ⟨rfl, rfl⟩
  go_wp2_with fail
  go_ret
  exact ⟨rfl, (Below.refl _ _).alloc (Nat.le_refl _) _⟩
set_option maxHeartbeats 400000 in
theorem tells_any (A : Option Addr) (l : List (BitVec 8)) (cap : Nat) (c : BitVec 32) (w : World) (hT : Hid (Tab w)) (hb : Hid (Bytes w A l)) (hl : l.length ≤ 140737488351232) :
    Calls Tryd.prog 3 #[.slice A l.length cap, .int .u32 c.toNat] w fun e w' => e = .returned (.bool true) ∧ Below w.heap.size w w' := by
  by_cases h300 : 300 < l.length
  · go_enter Tryd.func3, Tryd.ntmps3
    go_wp2_with (go_at_call 10; refine (awake_any _ hT).mono ?_; rintro e w1 ⟨rfl, hb1⟩)
    go_ret
    exact ⟨rfl, hb1⟩
  · go_enter Tryd.func3, Tryd.ntmps3
    go_wp2_with (first
      | (go_at_call 10; refine (awake_any _ hT).mono ?_; rintro e w1 ⟨rfl, hb1⟩; have hT1 := tab_below hT hb1; have hB1 := bytes_below hb hb1)
      | (go_at_call 11; refine (of_any _ l _ cap _ hT1 hB1 hl rfl).mono ?_; rintro e w' ⟨rfl, rfl⟩)
      | (go_at_call 12; refine (rof_any _ l cap _ hB1 hl).mono ?_; rintro e w' ⟨rfl, rfl⟩)
      | (go_at_call 13; refine (more_any c _ l cap _ hT1 hB1 hl).mono ?_; rintro e w' ⟨rfl, rfl⟩)
      | (go_at_call 14; refine (rmore_any c _ l cap _ hB1 hl).mono ?_; rintro e w' ⟨rfl, rfl⟩))
    go_ret
    exact ⟨by simp, hb1⟩
set_option maxHeartbeats 400000 in
theorem zerosLaw_any (c : BitVec 32) (b : BitVec 8) (m : Int) (w : World) (hT : Hid (Tab w)) (h0 : -9223372036854775808 ≤ m) (h1 : m ≤ 9223372036854775807) :
    Calls Tryd.prog 8 #[.int .u32 c.toNat, .int .u8 b.toNat, .int .i64 m] w fun e w' => e = .returned (.bool true) ∧ Below w.heap.size w w' := by
  by_cases h1000 : 1000 < m
  · go_enter Tryd.func8, Tryd.ntmps8
    go_wp2_with (go_at_call 10; refine (awake_any _ hT).mono ?_; rintro e w1 ⟨rfl, hb1⟩)
    go_ret
    exact ⟨rfl, hb1⟩
  · go_enter Tryd.func8, Tryd.ntmps8
    go_wp2_with (first
      | (go_at_call 10; refine (awake_any _ hT).mono ?_; rintro e w1 ⟨rfl, hb1⟩; have hT1 := tab_below hT hb1)
      | (go_at_call 15; refine (zeros_any c m _ hT1 h0 h1).mono ?_; rintro e w' ⟨rfl, rfl⟩)
      | (go_at_call 16; refine (rzeros_any c m _ h0 h1).mono ?_; rintro e w' ⟨rfl, rfl⟩)
      | (go_at_call 17; refine (mend_any c b m _ hT1 h0 h1).mono ?_; rintro e w' ⟨rfl, rfl⟩)
      | (go_at_call 18; refine (rmend_any c b m _ h0 h1).mono ?_; rintro e w' ⟨rfl, rfl⟩))
    go_ret
    exact ⟨by simp, hb1⟩
end Go.Proofs.YtifpgidhfogbfaaDoor.Crc

/- The walk of CrcParts: the check of parts, one behind the other. -/
import Derived.Test.YtifpgidhfogbfaaDoorCrcAwake
import Derived.Test.YtifpgidhfogbfaaDoorOwn
namespace Go.Proofs.YtifpgidhfogbfaaDoor.Crc
open Go.RowKit Go.Proofs.YtifpgidhfogbfaaDoor.Kit Go.Proofs.YtifpgidhfogbfaaDoor.CrcM
set_option linter.unusedVariables false
set_option linter.unusedSimpArgs false
theorem infoB : (Tryd.prog.info? 5).map (fun i => (i.zero, i.size, i.bytes)) = some (some (.int .u8 0), 1, 1) := by kernel_rfl
set_option maxHeartbeats 400000 in
theorem parts_any (A0 : Option Addr) (l0 : List (BitVec 8)) (cap0 : Nat) (A1 : Option Addr) (l1 : List (BitVec 8)) (cap1 : Nat) (w : World) (hT : Hid (Tab w)) (hb0 : Hid (Bytes w A0 l0)) (hb1 : Hid (Bytes w A1 l1))
    (hl0 : l0.length ≤ 200) (hl1 : l1.length ≤ 200) :
    Calls Tryd.prog 4 #[.slice A0 l0.length cap0, .slice A1 l1.length cap1] w fun e w' => e = .returned (.bool true) ∧ Below w.heap.size w w' := by
  have g1 : decide (200 < (l0.length : Int)) = false := by simp; omega
  have g2 : decide (200 < (l1.length : Int)) = false := by simp; omega
  go_enter Tryd.func4, Tryd.ntmps4
  go_wp2_with (first
    | (go_at_call 10; refine (awake_any _ hT).mono ?_; rintro e w1 ⟨rfl, hd1⟩
       have hT1 := tab_below hT hd1
       have hB0 := bytes_below hb0 hd1
       have hB1 := bytes_below hb1 hd1
       have hsz := hd1.size
       have hown0 := World.ownsRow_lit (base := w1.heap.size) (e := 5) (size := 1) w1 #[] 0 (Nat.le_refl _) (by decide) rfl)
    | (at_builtin; refine wpList_append_src rfl _ _ 22 rfl w1.heap.size 5 (.int .u8 0) 1 Tryd.underlying22 infoB rfl _ 0 _ rfl hown0 A0 l0.length cap0 (l0.map byteV) rfl (by simp) (cells_of_bytes (bytes_below hB0 ((Below.refl _ _).alloc (Nat.le_refl _) _))) (one_byteV _) (by unfold maxLen; omega) (by omega) (by simp) ?_
       intro v2 w2 hown2 hg2 _
       have hd2 := below_own ((Below.refl _ _).alloc (Nat.le_refl _) _) hown0 hg2 (by simp)
       have hsz2 := hd2.size
       rw [Nat.zero_add] at hown2)
    | (at_builtin; refine wpList_append_src rfl _ _ 22 rfl w1.heap.size 5 (.int .u8 0) 1 Tryd.underlying22 infoB rfl _ _ _ rfl hown2 A1 l1.length cap1 (l1.map byteV) rfl (by simp) (cells_of_bytes (bytes_below hB1 hd2)) (one_byteV _) (by unfold maxLen; omega) (by omega) hsz2 ?_
       intro v3 w3 hown3 hg3 _
       have hd3 := below_own hd2 hown2 hg3 hsz2
       obtain ⟨A3, cap3, rfl, hc3, _, _⟩ := own_reads hown3
       have hB3 := bytes_of_cells (l := l0 ++ l1) (by simpa using hc3)
       have hT3 := tab_below hT1 hd3
       have hB03 := bytes_below hB0 hd3
       have hB13 := bytes_below hB1 hd3))
  have hl3 : (l0 ++ l1).length ≤ 140737488351232 := by simp; omega
  have hl0' : l0.length ≤ 140737488351232 := by omega
  have hl1' : l1.length ≤ 140737488351232 := by omega
  refine (of_any _ l0 _ cap0 _ hT3 hB03 hl0' rfl).mono ?_
  rintro e w' ⟨rfl, rfl⟩
  go_wp2_with fail
  refine (more_int _ (more 0#32 l0) _ l1 0 _ cap1 _ hT3 hB13 hl1' rfl rfl).mono ?_
  rw [more_more]
  rintro e w' ⟨rfl, rfl⟩
  go_wp2_with fail
  refine (of_any _ (l0 ++ l1) _ cap3 _ hT3 hB3 hl3 (by simp)).mono ?_
  rintro e w' ⟨rfl, rfl⟩
  go_wp2_with fail
  refine (of_any _ l0 _ cap0 _ hT3 hB03 hl0' rfl).mono ?_
  rintro e w' ⟨rfl, rfl⟩
  go_wp2_with fail
  refine (more_int _ (more 0#32 l0) none [] 0 0 0 _ hT3 (bytes_nil _ _) (by simp) rfl rfl).mono ?_
  rw [more_none]
  rintro e w' ⟨rfl, rfl⟩
  go_wp2_with fail
  refine (of_any _ l0 _ cap0 _ hT3 hB03 hl0' rfl).mono ?_
  rintro e w' ⟨rfl, rfl⟩
  go_wp2_with fail
  refine (more_int 0 0#32 _ l0 0 _ cap0 _ hT3 hB03 hl0' rfl rfl).mono ?_
  rintro e w' ⟨rfl, rfl⟩
  go_wp2_with fail
  refine (of_any _ l0 _ cap0 _ hT3 hB03 hl0' rfl).mono ?_
  rintro e w' ⟨rfl, rfl⟩
  go_wp2_with fail
  go_ret
  exact ⟨by simp, hd1.trans (hd3.mono hsz)⟩
/-- Either is too long. -/
theorem parts_long (A0 : Option Addr) (l0 : List (BitVec 8)) (cap0 : Nat) (A1 : Option Addr) (l1 : List (BitVec 8)) (cap1 : Nat) (w : World) (hT : Hid (Tab w)) (h : ¬ (l0.length ≤ 200 ∧ l1.length ≤ 200)) :
    Calls Tryd.prog 4 #[.slice A0 l0.length cap0, .slice A1 l1.length cap1] w fun e w' => e = .returned (.bool true) ∧ Below w.heap.size w w' := by
  by_cases h0 : 200 < l0.length
  · have g1 : decide (200 < (l0.length : Int)) = true := by simp; omega
    go_enter Tryd.func4, Tryd.ntmps4
    go_wp2_with (go_at_call 10; refine (awake_any _ hT).mono ?_; rintro e w1 ⟨rfl, hd1⟩)
    go_ret
    exact ⟨rfl, hd1⟩
  · have g1 : decide (200 < (l0.length : Int)) = false := by simp; omega
    have g2 : decide (200 < (l1.length : Int)) = true := by simp; omega
    go_enter Tryd.func4, Tryd.ntmps4
    go_wp2_with (go_at_call 10; refine (awake_any _ hT).mono ?_; rintro e w1 ⟨rfl, hd1⟩)
    go_ret
    exact ⟨rfl, hd1⟩
theorem partsLaw_any (A0 : Option Addr) (l0 : List (BitVec 8)) (cap0 : Nat) (A1 : Option Addr) (l1 : List (BitVec 8)) (cap1 : Nat) (w : World) (hT : Hid (Tab w)) (hb0 : Hid (Bytes w A0 l0)) (hb1 : Hid (Bytes w A1 l1)) :
    Calls Tryd.prog 4 #[.slice A0 l0.length cap0, .slice A1 l1.length cap1] w fun e w' => e = .returned (.bool true) ∧ Below w.heap.size w w' := by
  by_cases h : l0.length ≤ 200 ∧ l1.length ≤ 200
  · exact parts_any A0 l0 cap0 A1 l1 cap1 w hT hb0 hb1 h.1 h.2
  · exact parts_long A0 l0 cap0 A1 l1 cap1 w hT h
end Go.Proofs.YtifpgidhfogbfaaDoor.Crc

/- The walk of CrcFour: four bytes have unlike checks. -/
import Derived.Test.YtifpgidhfogbfaaDoorCrcThree
import Derived.Deep.RegionLaw
import Derived.Deep.CutRange
import Derived.Deep.DeepCutAuto
import Derived.Stop.BytesEq
namespace Go.Proofs.YtifpgidhfogbfaaDoor.Crc
open Go.RowKit Go.Proofs.YtifpgidhfogbfaaDoor.Kit Go.Proofs.YtifpgidhfogbfaaDoor.CrcM
set_option linter.unusedVariables false
set_option linter.unusedSimpArgs false
theorem bytes_four {w : World} {g : Nat} {t : TypeId} {r : Nat × Nat} (x0 x1 x2 x3 : BitVec 8) (h : w.heap[g]? = some (.cells #[.int .u8 x0.toNat, .int .u8 x1.toNat, .int .u8 x2.toNat, .int .u8 x3.toNat] t r)) :
    Hid (Bytes w (some ⟨g, 0, none⟩) [x0, x1, x2, x3]) := by
  intro i hi
  refine ⟨_, rfl, ?_⟩
  have hb := blk_cell h i
  have e : (⟨g, 0, none⟩ : Addr).add i = ⟨g, i, none⟩ := by
    unfold Addr.add
    split
    · rename_i h
      rw [h]
    · simp
  rw [e, hb]
  have hi' : i < 4 := hi
  match i, hi' with
  | 0, _ => rfl
  | 1, _ => rfl
  | 2, _ => rfl
  | 3, _ => rfl
theorem eql_four (w : World) (x0 x1 x2 x3 y0 y1 y2 y3 : BitVec 8) :
    (binOp .eql 31 (.agg #[.int .u8 x0.toNat, .int .u8 x1.toNat, .int .u8 x2.toNat, .int .u8 x3.toNat]) (.agg #[.int .u8 y0.toNat, .int .u8 y1.toNat, .int .u8 y2.toNat, .int .u8 y3.toNat])).run Tryd.prog w =
      .ok (.bool (decide (x0 = y0 ∧ x1 = y1 ∧ x2 = y2 ∧ x3 = y3))) w := by
  have h := run_eql_bytes (P := Tryd.prog) w 31 5 4 Tryd.underlying31 Tryd.underlying5 (fun w => by kernel_rfl) [⟨x0⟩, ⟨x1⟩, ⟨x2⟩, ⟨x3⟩] [⟨y0⟩, ⟨y1⟩, ⟨y2⟩, ⟨y3⟩] rfl rfl
  have e : (([⟨x0⟩, ⟨x1⟩, ⟨x2⟩, ⟨x3⟩] : List UInt8) == [⟨y0⟩, ⟨y1⟩, ⟨y2⟩, ⟨y3⟩]) = decide (x0 = y0 ∧ x1 = y1 ∧ x2 = y2 ∧ x3 = y3) := by
    rw [Bool.eq_iff_iff]
    simp
  rw [e] at h
  exact h
set_option maxHeartbeats 800000 in
set_option maxRecDepth 100000 in
theorem four_any (A0 : Option Addr) (l0 : List (BitVec 8)) (cap0 : Nat) (x0 x1 x2 x3 y0 y1 y2 y3 : BitVec 8) (A1 : Option Addr) (l1 : List (BitVec 8)) (cap1 : Nat) (w : World) (hT : Hid (Tab w)) (hb0 : Hid (Bytes w A0 l0)) (hb1 : Hid (Bytes w A1 l1))
    (hl0 : l0.length ≤ 100) (hl1 : l1.length ≤ 100) :
    Calls Tryd.prog 6 #[.slice A0 l0.length cap0, .agg #[.int .u8 x0.toNat, .int .u8 x1.toNat, .int .u8 x2.toNat, .int .u8 x3.toNat], .agg #[.int .u8 y0.toNat, .int .u8 y1.toNat, .int .u8 y2.toNat, .int .u8 y3.toNat], .slice A1 l1.length cap1] w fun e w' => e = .returned (.bool true) ∧ Below w.heap.size w w' := by
  have g1 : decide (100 < (l0.length : Int)) = false := decide_eq_false (by omega)
  have g2 : decide (100 < (l1.length : Int)) = false := decide_eq_false (by omega)
  go_enter Tryd.func6, Tryd.ntmps6
  go_wp2_with fail
  refine (awake_any _ (tab_below hT (((Below.refl _ _).alloc (Nat.le_refl _) _).alloc (by simp) _))).mono ?_
  rintro e w1 ⟨rfl, hd1⟩
  have hbx := blk_below (blk_alloc (blk_new w (.cells #[.int .u8 x0.toNat, .int .u8 x1.toNat, .int .u8 x2.toNat, .int .u8 x3.toNat] 31)) (.cells #[.int .u8 y0.toNat, .int .u8 y1.toNat, .int .u8 y2.toNat, .int .u8 y3.toNat] 31)) hd1
  have hby := blk_below (blk_new (w.alloc (.cells #[.int .u8 x0.toNat, .int .u8 x1.toNat, .int .u8 x2.toNat, .int .u8 x3.toNat] 31)) (.cells #[.int .u8 y0.toNat, .int .u8 y1.toNat, .int .u8 y2.toNat, .int .u8 y3.toNat] 31)) hd1
  have hbb : Below w.heap.size w w1 := (((Below.refl _ _).alloc (Nat.le_refl _) _).alloc (by simp) _).trans (hd1.mono (by simp; omega))
  have hT1 := tab_below hT hbb
  have hB0 := bytes_below hb0 hbb
  have hB1 := bytes_below hb1 hbb
  have hX := bytes_four x0 x1 x2 x3 hbx
  have hY := bytes_four y0 y1 y2 y3 (g := w.heap.size + 1) (by simpa using hby)
  have hsz := hbb.size
  clear hd1 hbx hby
  obtain ⟨gx, hgx⟩ : ∃ n, n = w.heap.size := ⟨_, rfl⟩
  rw [← hgx] at hX hY hsz ⊢
  have HG := Kit.hid hgx
  clear hgx
  have hown0 : ((w1.alloc (.cells #[] 5)).drew).ownsRow w1.heap.size 5 1 (.slice (some ⟨w1.heap.size, 0, none⟩) 0 0) 0 [] := World.ownsRow_lit w1 #[] 0 (Nat.le_refl _) (by decide) rfl
  have hd0 : Below w1.heap.size w1 (w1.alloc (.cells #[] 5)).drew := ((Below.refl _ _).alloc (Nat.le_refl _) _).drew
  go_upto_region 4 with fail
  go_cut [10] (fun s10 wx => ∃ (A : Option Addr) (cap : Nat), s10 = .slice A (l0.length + 4 + l1.length) cap ∧ Hid (Bytes wx A (l0 ++ [x0, x1, x2, x3] ++ l1)) ∧ Below w1.heap.size w1 wx)
  case first =>
    go_region_law (first
      | (refine step_append_src rfl _ _ 22 rfl w1.heap.size 5 (.int .u8 0) 1 Tryd.underlying22 infoB rfl _ 0 _ (by simp [Act.eval, Act.put]) hown0 A0 l0.length cap0 (l0.map byteV) (by simp [Act.eval, Act.put]) (by simp) (cells_of_bytes (bytes_below hB0 hd0)) (one_byteV _) (by unfold maxLen; omega) (by omega) (by simp) ?_
         intro v2 w2 hown2 hg2 _
         have hd2 := below_own (B := w1.heap.size) (w0 := w1) hd0 hown0 hg2 (by simp)
         have hsz2 := hd2.size)
      | (refine step_append_src rfl _ _ 22 rfl w1.heap.size 5 (.int .u8 0) 1 Tryd.underlying22 infoB rfl _ _ _ (by simp [Act.eval, Act.put]) hown2 (some ⟨gx, 0, none⟩) 4 4 ([x0, x1, x2, x3].map byteV) (by simp [Act.eval, Act.put]) (by simp) (cells_of_bytes (bytes_below hX hd2)) (one_byteV _) (by unfold maxLen; omega) (by omega) hsz2 ?_
         intro v3 w3 hown3 hg3 _
         have hd3 := below_own hd2 hown2 hg3 hsz2
         have hsz3 := hd3.size)
      | (refine step_append_src rfl _ _ 22 rfl w1.heap.size 5 (.int .u8 0) 1 Tryd.underlying22 infoB rfl _ _ _ (by simp [Act.eval, Act.put]) hown3 A1 l1.length cap1 (l1.map byteV) (by simp [Act.eval, Act.put]) (by simp) (cells_of_bytes (bytes_below hB1 hd3)) (one_byteV _) (by unfold maxLen; omega) (by omega) hsz3 ?_
         intro v4 w4 hown4 hg4 _
         have hd4 := below_own hd3 hown3 hg4 hsz3
         have hsz4 := hd4.size))
    all_goals
      go_wp2_with fail
      go_meet
      obtain ⟨A4, cap4, rfl, hc4, _⟩ := own_reads hown4
      refine ⟨A4, cap4, by simp [Act.put], bytes_of_cells ?_, hd4⟩
      have e : (l0 ++ [x0, x1, x2, x3] ++ l1).map byteV = [] ++ l0.map byteV ++ [x0, x1, x2, x3].map byteV ++ l1.map byteV := by simp
      rw [e]
      exact hc4
  case rest =>
    obtain ⟨A, cap, rfl, hA, hdA⟩ := hcut
    obtain ⟨wa, rfl⟩ : ∃ wa : World, wa = wc := ⟨_, rfl⟩
    have hszA := hdA.size
    have hB0' := bytes_below hB0 hdA
    have hB1' := bytes_below hB1 hdA
    have hY' := bytes_below hY hdA
    have hown0 : ((wa.alloc (.cells #[] 5)).drew).ownsRow wa.heap.size 5 1 (.slice (some ⟨wa.heap.size, 0, none⟩) 0 0) 0 [] := World.ownsRow_lit wa #[] 0 (Nat.le_refl _) (by decide) rfl
    have hd0 : Below wa.heap.size wa (wa.alloc (.cells #[] 5)).drew := ((Below.refl _ _).alloc (Nat.le_refl _) _).drew
    go_upto_region 5 with fail
    go_cut [11] (fun s11 wx => ∃ (B : Option Addr) (cap' : Nat), s11 = .slice B (l0.length + 4 + l1.length) cap' ∧ Hid (Bytes wx B (l0 ++ [y0, y1, y2, y3] ++ l1)) ∧ Below wa.heap.size wa wx)
    case first =>
      go_region_law (first
        | (refine step_append_src rfl _ _ 22 rfl wa.heap.size 5 (.int .u8 0) 1 Tryd.underlying22 infoB rfl _ 0 _ (by simp [Act.eval, Act.put]) hown0 A0 l0.length cap0 (l0.map byteV) (by simp [Act.eval, Act.put]) (by simp) (cells_of_bytes (bytes_below hB0' hd0)) (one_byteV _) (by unfold maxLen; omega) (by omega) (by simp) ?_
           intro v2 w2 hown2 hg2 _
           have hd2 := below_own (B := wa.heap.size) (w0 := wa) hd0 hown0 hg2 (by simp)
           have hsz2 := hd2.size)
        | (refine step_append_src rfl _ _ 22 rfl wa.heap.size 5 (.int .u8 0) 1 Tryd.underlying22 infoB rfl _ _ _ (by simp [Act.eval, Act.put]) hown2 (some ⟨gx + 1, 0, none⟩) 4 4 ([y0, y1, y2, y3].map byteV) (by simp [Act.eval, Act.put]) (by simp) (cells_of_bytes (bytes_below hY' hd2)) (one_byteV _) (by unfold maxLen; omega) (by omega) hsz2 ?_
           intro v3 w3 hown3 hg3 _
           have hd3 := below_own hd2 hown2 hg3 hsz2
           have hsz3 := hd3.size)
        | (refine step_append_src rfl _ _ 22 rfl wa.heap.size 5 (.int .u8 0) 1 Tryd.underlying22 infoB rfl _ _ _ (by simp [Act.eval, Act.put]) hown3 A1 l1.length cap1 (l1.map byteV) (by simp [Act.eval, Act.put]) (by simp) (cells_of_bytes (bytes_below hB1' hd3)) (one_byteV _) (by unfold maxLen; omega) (by omega) hsz3 ?_
           intro v4 w4 hown4 hg4 _
           have hd4 := below_own hd3 hown3 hg4 hsz3
           have hsz4 := hd4.size))
      all_goals
        go_wp2_with fail
        go_meet
        obtain ⟨A4, cap4, rfl, hc4, _⟩ := own_reads hown4
        refine ⟨A4, cap4, by simp [Act.put], bytes_of_cells ?_, hd4⟩
        have e : (l0 ++ [y0, y1, y2, y3] ++ l1).map byteV = [] ++ l0.map byteV ++ [y0, y1, y2, y3].map byteV ++ l1.map byteV := by simp
        rw [e]
        exact hc4
    case rest =>
      obtain ⟨B, cap', rfl, hB, hdB⟩ := hcut
      have hd2 := hdA.trans (hdB.mono hszA)
      have hT2 := tab_below hT1 hd2
      have hX2 := bytes_below hX hd2
      have hY2 := bytes_below hY hd2
      have hA2 := bytes_below hA hdB
      have ax : ∀ g i : Nat, (⟨g, 0, none⟩ : Addr).add i = ⟨g, i, none⟩ := by
        intro g i
        unfold Addr.add
        split
        · rename_i h
          rw [h]
        · simp
      have cx : ∀ (g : Nat) (z0 z1 z2 z3 : BitVec 8), Hid (Bytes wc (some ⟨g, 0, none⟩) [z0, z1, z2, z3]) → ∀ i (h : i < 4), wc.cell? ⟨g, i, none⟩ = some (.int .u8 ([z0, z1, z2, z3][i].toNat : Int)) := by
        intro g z0 z1 z2 z3 h i hi
        obtain ⟨ad, h1, h2⟩ := h.out i hi
        cases h1
        rw [ax] at h2
        exact h2
      have p0 := cx _ _ _ _ _ hX2 0 (by decide)
      have p1 := cx _ _ _ _ _ hX2 1 (by decide)
      have p2 := cx _ _ _ _ _ hX2 2 (by decide)
      have p3 := cx _ _ _ _ _ hX2 3 (by decide)
      have q0 := cx _ _ _ _ _ hY2 0 (by decide)
      have q1 := cx _ _ _ _ _ hY2 1 (by decide)
      have q2 := cx _ _ _ _ _ hY2 2 (by decide)
      have q3 := cx _ _ _ _ _ hY2 3 (by decide)
      clear cx ax
      obtain ⟨m0, hm0⟩ : ∃ m, more 0#32 (l0 ++ [x0, x1, x2, x3] ++ l1) = m := ⟨_, rfl⟩
      obtain ⟨m1, hm1⟩ : ∃ m, more 0#32 (l0 ++ [y0, y1, y2, y3] ++ l1) = m := ⟨_, rfl⟩
      have C0 := Kit.hid (fun n : Nat => of_any A _ (l0.length + 4 + l1.length) cap (wc.drewN n) (tab_below hT2 (below_drewN (Below.refl _ _) n)) (bytes_below hA2 (below_drewN (Below.refl _ _) n)) (by simp; omega) (by simp; omega))
      have C1 := Kit.hid (fun n : Nat => of_any B _ (l0.length + 4 + l1.length) cap' (wc.drewN n) (tab_below hT2 (below_drewN (Below.refl _ _) n)) (bytes_below hB (below_drewN (Below.refl _ _) n)) (by simp; omega) (by simp; omega))
      rw [hm0] at C0
      rw [hm1] at C1
      have hif := four_iff 0#32 l0 l1 x0 x1 x2 x3 y0 y1 y2 y3
      rw [hm0, hm1] at hif
      have HIF := Kit.hid hif
      have hbw := hbb.trans (hd2.mono hbb.size)
      have HBW := Kit.hid hbw
      clear hif hm0 hm1 hown0 hd0 hd2 hdA hdB hbw
      go_wp2_with fail
      have C0o := C0.out
      have C1o := C1.out
      clear C0 C1
      have heq := fun w' : World => eql_four w' x0 x1 x2 x3 y0 y1 y2 y3
      obtain ⟨bq, hbq⟩ : ∃ b, decide (x0 = y0 ∧ x1 = y1 ∧ x2 = y2 ∧ x3 = y3) = b := ⟨_, rfl⟩
      rw [hbq] at heq
      have hm : ((m0.toNat : Int) == (m1.toNat : Int)) = bq := by
        rw [toNat_beq, ← hbq]
        exact decide_eq_decide.2 HIF.out
      clear hbq HIF
      go_quiet (first | (go_at_call 11; exact quiet_left (C0o _)) | (go_at_call 11; exact quiet_left (C1o _)))
      go_wp2
      go_ret
      refine ⟨by simp, ?_⟩
      have h := HBW.out
      exact below_drewN h _
theorem four_long (A0 : Option Addr) (l0 : List (BitVec 8)) (cap0 : Nat) (x0 x1 x2 x3 y0 y1 y2 y3 : BitVec 8) (A1 : Option Addr) (l1 : List (BitVec 8)) (cap1 : Nat) (w : World) (hT : Hid (Tab w)) (h : ¬ (l0.length ≤ 100 ∧ l1.length ≤ 100)) :
    Calls Tryd.prog 6 #[.slice A0 l0.length cap0, .agg #[.int .u8 x0.toNat, .int .u8 x1.toNat, .int .u8 x2.toNat, .int .u8 x3.toNat], .agg #[.int .u8 y0.toNat, .int .u8 y1.toNat, .int .u8 y2.toNat, .int .u8 y3.toNat], .slice A1 l1.length cap1] w fun e w' => e = .returned (.bool true) ∧ Below w.heap.size w w' := by
  by_cases h0 : 100 < l0.length
  · have g1 : decide (100 < (l0.length : Int)) = true := decide_eq_true (by omega)
    clear h
    go_enter Tryd.func6, Tryd.ntmps6
    go_wp2_with fail
    refine (awake_any _ (tab_below hT (((Below.refl _ _).alloc (Nat.le_refl _) _).alloc (by simp) _))).mono ?_
    rintro e w1 ⟨rfl, hd1⟩
    go_wp2
    go_ret
    exact ⟨rfl, (((Below.refl _ _).alloc (Nat.le_refl _) _).alloc (by simp) _).trans (hd1.mono (by simp; omega))⟩
  · have g1 : decide (100 < (l0.length : Int)) = false := decide_eq_false (by omega)
    have g2 : decide (100 < (l1.length : Int)) = true := decide_eq_true (by omega)
    clear h
    go_enter Tryd.func6, Tryd.ntmps6
    go_wp2_with fail
    refine (awake_any _ (tab_below hT (((Below.refl _ _).alloc (Nat.le_refl _) _).alloc (by simp) _))).mono ?_
    rintro e w1 ⟨rfl, hd1⟩
    go_wp2
    go_ret
    exact ⟨rfl, (((Below.refl _ _).alloc (Nat.le_refl _) _).alloc (by simp) _).trans (hd1.mono (by simp; omega))⟩
theorem fourLaw_any (A0 : Option Addr) (l0 : List (BitVec 8)) (cap0 : Nat) (x0 x1 x2 x3 y0 y1 y2 y3 : BitVec 8) (A1 : Option Addr) (l1 : List (BitVec 8)) (cap1 : Nat) (w : World) (hT : Hid (Tab w)) (hb0 : Hid (Bytes w A0 l0)) (hb1 : Hid (Bytes w A1 l1)) :
    Calls Tryd.prog 6 #[.slice A0 l0.length cap0, .agg #[.int .u8 x0.toNat, .int .u8 x1.toNat, .int .u8 x2.toNat, .int .u8 x3.toNat], .agg #[.int .u8 y0.toNat, .int .u8 y1.toNat, .int .u8 y2.toNat, .int .u8 y3.toNat], .slice A1 l1.length cap1] w fun e w' => e = .returned (.bool true) ∧ Below w.heap.size w w' := by
  by_cases h : l0.length ≤ 100 ∧ l1.length ≤ 100
  · exact four_any A0 l0 cap0 x0 x1 x2 x3 y0 y1 y2 y3 A1 l1 cap1 w hT hb0 hb1 h.1 h.2
  · exact four_long A0 l0 cap0 x0 x1 x2 x3 y0 y1 y2 y3 A1 l1 cap1 w hT h
end Go.Proofs.YtifpgidhfogbfaaDoor.Crc

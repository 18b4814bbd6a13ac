/- The walk of PaceFair: its loop with what holds at every round's head; so that it returns true. No condition of its own. -/
import Derived.Test.YthbnmdehcinikaaPPaceFairx3
import Derived.Test.YthbnmdehcinikaaPurePaceFair
import Derived.Test.YthbnmdehcinikaaKit
namespace Go.Proofs.Ythbnmdehcinikaa.FairWalk
open Go.RowKit Go.Proofs.Ythbnmdehcinikaa.PPaceFair Go.Proofs.YthbnmdehcinikaaW.PrintWords Go.Proofs.YthbnmdehcinikaaW.PrintLast Go.Proofs.YthbnmdehcinikaaW.PrintMore Go.Proofs.Ythbnmdehcinikaa.Pure
attribute [local go_sem] max2_int min2_int max_two min_two max_three min_three max_four min_four
set_option linter.unusedVariables false
set_option linter.unusedSimpArgs false
/-- What holds at the head of each round. -/
def Inv (a b : Int) (m1 m2 v1 r1 v2 r2 : Int) : Prop :=
  0 ≤ m1 ∧ 0 ≤ m2 ∧ m1 + m2 ≤ 500 ∧ 0 ≤ v1 ∧ 0 ≤ v2 ∧ 0 ≤ r1 ∧ r1 < cl a ∧ 0 ≤ r2 ∧ r2 < cl b ∧
    v1 * cl a + r1 = 1048576 * m1 ∧ v2 * cl b + r2 = 1048576 * m2 ∧ v1 - v2 ≤ 1048576 / cl a + 1 ∧ v2 - v1 ≤ 1048576 / cl b + 1
theorem inv0 (a b : Int) : Hid (Inv a b 0 0 0 0 0 0) := by
  have ca := cl_bd a
  have cb := cl_bd b
  have d1 := (div_bd (T := 1048576) (w := cl a) (by omega) ca.1).1
  have d2 := (div_bd (T := 1048576) (w := cl b) (by omega) cb.1).1
  show Inv a b 0 0 0 0 0 0
  unfold Inv
  omega
theorem less_yes {v1 v2 : Int} (h : v1 ≤ v2) : pace_Less.f v1 1 v2 2 = some true := by
  rw [less_eq]; congr 1; apply decide_eq_true; omega
theorem less_no {v1 v2 : Int} (h : ¬ v1 ≤ v2) : pace_Less.f v1 1 v2 2 = some false := by
  rw [less_eq]; congr 1; apply decide_eq_false; omega
theorem far {v r w m : Int} (h0 : 0 ≤ v) (hr : 0 ≤ r) (hw : 1 ≤ w) (h : v * w + r = 1048576 * m) : v ≤ 1048576 * m := by
  have h1 : v * 1 ≤ v * w := Int.mul_le_mul_of_nonneg_left hw h0
  omega
theorem step1 {a b m1 m2 v1 r1 v2 r2 : Int} (h : Inv a b m1 m2 v1 r1 v2 r2) (hle : v1 ≤ v2) (hm : m1 + m2 + 1 ≤ 500) :
    ∃ V R : Int, pace_Run.f v1 r1 a 1 = some (V, R) ∧ Hid (Inv a b (m1 + 1) m2 V R v2 r2) ∧ 0 ≤ V ∧ V ≤ 1099511627776 ∧ V - v2 ≤ 1048576 / cl a + 1 ∧ v2 - V ≤ 1048576 / cl b + 1 := by
  obtain ⟨i1, i2, i3, i4, i5, i6, i7, i8, i9, i10, i11, i12, i13⟩ := h
  have ca := cl_bd a
  have cb := cl_bd b
  have f1 := far i4 i6 ca.1 i10
  have s1 := step_bd ca.1 i7
  have q1 := div_bd (T := 1048576 + r1) (by omega) ca.1
  have t1 := mod_bd (T := 1048576 + r1) ca.1
  have n1 := inv_step ca.1 i10
  refine ⟨_, _, run_eq i4 (by omega) i6 (by omega), ?_⟩
  rw [ct_id (by omega) (by omega), Int.mul_one]
  exact ⟨⟨by omega, by omega, by omega, by omega, by omega, t1.1, t1.2, i8, i9, n1, i11, by omega, by omega⟩, by omega, by omega, by omega, by omega⟩
theorem step2 {a b m1 m2 v1 r1 v2 r2 : Int} (h : Inv a b m1 m2 v1 r1 v2 r2) (hle : ¬ v1 ≤ v2) (hm : m1 + m2 + 1 ≤ 500) :
    ∃ V R : Int, pace_Run.f v2 r2 b 1 = some (V, R) ∧ Hid (Inv a b m1 (m2 + 1) v1 r1 V R) ∧ 0 ≤ V ∧ V ≤ 1099511627776 ∧ v1 - V ≤ 1048576 / cl a + 1 ∧ V - v1 ≤ 1048576 / cl b + 1 := by
  obtain ⟨i1, i2, i3, i4, i5, i6, i7, i8, i9, i10, i11, i12, i13⟩ := h
  have ca := cl_bd a
  have cb := cl_bd b
  have f1 := far i5 i8 cb.1 i11
  have s1 := step_bd cb.1 i9
  have q1 := div_bd (T := 1048576 + r2) (by omega) cb.1
  have t1 := mod_bd (T := 1048576 + r2) cb.1
  have n1 := inv_step cb.1 i11
  refine ⟨_, _, run_eq i5 (by omega) i8 (by omega), ?_⟩
  rw [ct_id (by omega) (by omega), Int.mul_one]
  exact ⟨⟨by omega, by omega, by omega, by omega, by omega, i6, i7, t1.1, t1.2, i10, n1, by omega, by omega⟩, by omega, by omega, by omega, by omega⟩
theorem ends {a b m1 m2 v1 r1 v2 r2 : Int} (h : Inv a b m1 m2 v1 r1 v2 r2) : pace_Done.f v1 r1 a = some m1 ∧ pace_Done.f v2 r2 b = some m2 := by
  obtain ⟨i1, i2, i3, i4, i5, i6, i7, i8, i9, i10, i11, i12, i13⟩ := h
  have ca := cl_bd a
  have cb := cl_bd b
  have p1 : 0 ≤ v1 * cl a := Int.mul_nonneg i4 (by omega)
  have p2 : 0 ≤ v2 * cl b := Int.mul_nonneg i5 (by omega)
  rw [done_eq p1 i6 (by omega), done_eq p2 i8 (by omega), i10, i11, Int.mul_ediv_cancel_left _ (by omega), Int.mul_ediv_cancel_left _ (by omega)]
  exact ⟨rfl, rfl⟩
set_option maxHeartbeats 1000000 in
set_option maxRecDepth 100000 in
theorem fair_walk (a b c : Int) (w : World) (h0 : 0 ≤ c) (h1 : c ≤ 65535) :
    Calls Try.prog 7 #[.int .i64 a, .int .i64 b, .int .u16 c] w fun e w' => e = .returned (.bool true) ∧ Below w.heap.size w w' := by
  have hu23 := Try.underlying23
  have ca := cl_bd a
  have cb := cl_bd b
  obtain ⟨A, hA⟩ : ∃ A, A = cl a := ⟨_, rfl⟩
  obtain ⟨B, hB⟩ : ∃ B, B = cl b := ⟨_, rfl⟩
  obtain ⟨A0, e1⟩ : ∃ A0, (if 1048576 < a then 1048576 else a) = A0 := ⟨_, rfl⟩
  have e2 : (if 1 < A0 then A0 else 1) = A := by
    rw [← e1, hA]
    unfold cl
    repeat' split
    all_goals omega
  obtain ⟨B0, e3⟩ : ∃ A0, (if 1048576 < b then 1048576 else b) = A0 := ⟨_, rfl⟩
  have e4 : (if 1 < B0 then B0 else 1) = B := by
    rw [← e3, hB]
    unfold cl
    repeat' split
    all_goals omega
  have HA := Kit.hid hA
  have HB := Kit.hid hB
  rw [← hA] at ca
  rw [← hB] at cb
  clear hA hB
  go_enter Try.func7, Try.ntmps7
  go_wp2_with (first | (go_at_call 10; (with_reducible refine (diapauselaw04_awake.calls true _ awake_eq).mono ?_); rintro e w9 ⟨rfl, hb9⟩))
  clear e1 e2 e3 e4
  have hb0 : Below w.heap.size w ((w9.alloc (Obj.cells #[Value.int IntKind.i64 0, Value.int IntKind.i64 0] 23)).alloc (Obj.cells #[Value.int IntKind.i64 0, Value.int IntKind.i64 0] 23)) :=
    (hb9.alloc hb9.size _).alloc (by have := hb9.size; simp; omega) _
  have hs9 := hb9.size
  obtain ⟨g, hg⟩ : ∃ g, g = w9.heap.size := ⟨_, rfl⟩
  rw [← hg] at hs9 ⊢
  have HG := Kit.hid hg
  clear hg
  go_loopw [12, 13, 14] (fun v12 v13 v14 wr => ∃ m1 m2 v1 r1 v2 r2 : Int, v12 = .int .i64 m1 ∧ v13 = .int .i64 m2 ∧ v14 = .int .i64 (m1 + m2) ∧ Hid (Inv a b m1 m2 v1 r1 v2 r2) ∧
      Hid (wr.heap[g]? = some (.cells #[.int .i64 v1, .int .i64 r1] 23 (0, 0))) ∧ Hid (wr.heap[g + 1]? = some (.cells #[.int .i64 v2, .int .i64 r2] 23 (0, 0))) ∧ Hid (Below w.heap.size w wr)) (fun _ _ i _ => 500 - (intOf i).toNat)
  case atStart =>
    refine ⟨0, 0, 0, 0, 0, 0, rfl, rfl, rfl, inv0 a b, Kit.hid ?_, Kit.hid ?_, Kit.hid hb0⟩
    · rw [HG.out]
      exact blk_alloc (blk_new w9 _) _
    · rw [HG.out]
      have := blk_new (w9.alloc (Obj.cells #[Value.int IntKind.i64 0, Value.int IntKind.i64 0] 23)) (Obj.cells #[Value.int IntKind.i64 0, Value.int IntKind.i64 0] 23)
      simpa using this
  case round =>
    obtain ⟨m1, m2, v1, r1, v2, r2, rfl, rfl, rfl, hI, hp, hq, hb⟩ := hrel
    have ip := hI.out
    obtain ⟨i1, i2, i3, i4, i5, i6, i7, i8, i9, i10, i11, i12, i13⟩ := ip
    have c1 : wr.cell? ⟨g, 0, none⟩ = some (.int .i64 v1) := (blk_cell hp.out 0).trans rfl
    have c2 : wr.cell? ⟨g, 1, none⟩ = some (.int .i64 r1) := (blk_cell hp.out 1).trans rfl
    have c3 : wr.cell? ⟨g + 1, 0, none⟩ = some (.int .i64 v2) := (blk_cell hq.out 0).trans rfl
    have c4 : wr.cell? ⟨g + 1, 1, none⟩ = some (.int .i64 r2) := (blk_cell hq.out 1).trans rfl
    have z1 := blk_frozen hp.out 0
    have z2 := blk_frozen hp.out 1
    have z3 := blk_frozen hq.out 0
    have z4 := blk_frozen hq.out 1
    clear i10 i11
    by_cases hlt : m1 + m2 < c % 500
    · have hA1 : (A == 0) = false := by simp; omega
      have hB1 : (B == 0) = false := by simp; omega
      have qa := div_bd (T := 1048576) (w := A) (by omega) ca.1
      have qb := div_bd (T := 1048576) (w := B) (by omega) cb.1
      by_cases hle : v1 ≤ v2
      · obtain ⟨V, R, hr, hJ, j1, j2, j3, j4⟩ := step1 hI.out hle (by omega)
        rw [← HA.out] at j3
        rw [← HB.out] at j4
        go_wp2_with (first
          | (go_at_call 20; (with_reducible refine (pace_Less.calls v1 1 v2 2 true _ (less_yes hle)).mono ?_); rintro e w2 ⟨rfl, hb2⟩
             have k1 := blk_below hp.out hb2
             have k2 := blk_below hq.out hb2
             have hb3 := hb.out.trans (hb2.mono hb.out.size)
             have d1 : w2.cell? ⟨g, 0, none⟩ = some (.int .i64 v1) := (blk_cell k1 0).trans rfl
             have d2 : w2.cell? ⟨g, 1, none⟩ = some (.int .i64 r1) := (blk_cell k1 1).trans rfl
             have f1 := blk_frozen k1 0
             have f2 := blk_frozen k1 1)
          | (go_at_call 12; (with_reducible refine (pace_Run.calls v1 r1 a 1 V R _ hr).mono ?_); rintro e w4 ⟨rfl, hb4⟩
             have k3 := blk_below k1 hb4
             have k4 := blk_below k2 hb4
             have hb5 := hb3.trans (hb4.mono hb3.size)
             have d3 : w4.cell? ⟨g, 0, none⟩ = some (.int .i64 v1) := (blk_cell k3 0).trans rfl
             have d4 : w4.cell? ⟨g, 1, none⟩ = some (.int .i64 r1) := (blk_cell k3 1).trans rfl
             have d5 : w4.cell? ⟨g + 1, 0, none⟩ = some (.int .i64 v2) := (blk_cell k4 0).trans rfl
             have d6 : w4.cell? ⟨g + 1, 1, none⟩ = some (.int .i64 r2) := (blk_cell k4 1).trans rfl
             have f3 := blk_frozen k3 0
             have f4 := blk_frozen k3 1))
        have g1 : decide (1048576 / A + 1 < V - v2) = false := by simp; omega
        have g2 : decide (1048576 / B + 1 < v2 - V) = false := by simp; omega
        go_quiet (fail)
        go_wp2
        go_roundw
        case rel =>
          refine ⟨m1 + 1, m2, V, R, v2, r2, rfl, rfl, by go_num, hJ, Kit.hid ?_, Kit.hid ?_, Kit.hid ?_⟩
          · exact blk_put (cs := #[.int .i64 V, .int .i64 r1]) (blk_put k3 0 _ rfl) 1 _ rfl
          · exact blk_far (blk_far k4 (by simp) _) (by simp) _
          · exact pw_below_drewN ((hb5.setCell (p := ⟨g, 0, none⟩) hs9 _).setCell (p := ⟨g, 1, none⟩) hs9 _) _
        case measure => simp [intOf]; omega
      · obtain ⟨V, R, hr, hJ, j1, j2, j3, j4⟩ := step2 hI.out hle (by omega)
        rw [← HA.out] at j3
        rw [← HB.out] at j4
        go_wp2_with (first
          | (go_at_call 20; (with_reducible refine (pace_Less.calls v1 1 v2 2 false _ (less_no hle)).mono ?_); rintro e w2 ⟨rfl, hb2⟩
             have k1 := blk_below hp.out hb2
             have k2 := blk_below hq.out hb2
             have hb3 := hb.out.trans (hb2.mono hb.out.size)
             have d1 : w2.cell? ⟨g + 1, 0, none⟩ = some (.int .i64 v2) := (blk_cell k2 0).trans rfl
             have d2 : w2.cell? ⟨g + 1, 1, none⟩ = some (.int .i64 r2) := (blk_cell k2 1).trans rfl
             have f1 := blk_frozen k2 0
             have f2 := blk_frozen k2 1)
          | (go_at_call 12; (with_reducible refine (pace_Run.calls v2 r2 b 1 V R _ hr).mono ?_); rintro e w4 ⟨rfl, hb4⟩
             have k3 := blk_below k1 hb4
             have k4 := blk_below k2 hb4
             have hb5 := hb3.trans (hb4.mono hb3.size)
             have d3 : w4.cell? ⟨g, 0, none⟩ = some (.int .i64 v1) := (blk_cell k3 0).trans rfl
             have d4 : w4.cell? ⟨g, 1, none⟩ = some (.int .i64 r1) := (blk_cell k3 1).trans rfl
             have d5 : w4.cell? ⟨g + 1, 0, none⟩ = some (.int .i64 v2) := (blk_cell k4 0).trans rfl
             have d6 : w4.cell? ⟨g + 1, 1, none⟩ = some (.int .i64 r2) := (blk_cell k4 1).trans rfl
             have f3 := blk_frozen k4 0
             have f4 := blk_frozen k4 1))
        have g1 : decide (1048576 / A + 1 < v1 - V) = false := by simp; omega
        have g2 : decide (1048576 / B + 1 < V - v1) = false := by simp; omega
        go_quiet (fail)
        go_wp2
        go_roundw
        case rel =>
          refine ⟨m1, m2 + 1, v1, r1, V, R, rfl, rfl, by go_num, hJ, Kit.hid ?_, Kit.hid ?_, Kit.hid ?_⟩
          · exact blk_far (blk_far k3 (by simp) _) (by simp) _
          · exact blk_put (cs := #[.int .i64 V, .int .i64 r2]) (blk_put k4 0 _ rfl) 1 _ rfl
          · exact pw_below_drewN ((hb5.setCell (p := ⟨g + 1, 0, none⟩) (Nat.le_succ_of_le hs9) _).setCell (p := ⟨g + 1, 1, none⟩) (Nat.le_succ_of_le hs9) _) _
        case measure => simp [intOf]; omega
    · obtain ⟨e1, e2⟩ := ends hI.out
      go_wp2_with (first
        | (go_at_call 15; (with_reducible refine (pace_Done.calls v1 r1 a m1 _ e1).mono ?_); rintro e w2 ⟨rfl, hb2⟩
           have k2 := blk_below hq.out hb2
           have hb3 := hb.out.trans (hb2.mono hb.out.size)
           have d1 : w2.cell? ⟨g + 1, 0, none⟩ = some (.int .i64 v2) := (blk_cell k2 0).trans rfl
           have d2 : w2.cell? ⟨g + 1, 1, none⟩ = some (.int .i64 r2) := (blk_cell k2 1).trans rfl)
        | (go_at_call 15; (with_reducible refine (pace_Done.calls v2 r2 b m2 _ e2).mono ?_); rintro e w4 ⟨rfl, hb4⟩
           have hb5 := hb3.trans (hb4.mono hb3.size)))
      go_ret
      exact ⟨by simp, hb5⟩
end Go.Proofs.Ythbnmdehcinikaa.FairWalk

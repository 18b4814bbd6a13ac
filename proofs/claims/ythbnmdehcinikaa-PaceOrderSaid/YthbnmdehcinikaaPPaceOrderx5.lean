-- PRINTED BY print.sh 35421559b90ae4d0a3588c463048766b98c2df88dd9212a6774a882060cdf62d: not written by this session
import Derived.Test.YthbnmdehcinikaaPPaceOrderx0
import Derived.Test.YthbnmdehcinikaaPPaceOrderx2
import Derived.Test.YthbnmdehcinikaaPPaceOrderx4
namespace Go.Proofs.Ythbnmdehcinikaa.PPaceOrder
open Go.RowKit Go.Proofs.YthbnmdehcinikaaW.PrintWords Go.Proofs.YthbnmdehcinikaaW.PrintLast Go.Proofs.YthbnmdehcinikaaW.PrintMore
attribute [local go_sem] max2_int min2_int max_two min_two max_three min_three max_four min_four   -- for this text's walks alone
set_option linter.unusedVariables false
set_option linter.unusedSimpArgs false

attribute [local go_sem high] eqA39
/-! ### diapauselaw04_PaceOrder: function 8 -/
def diapauselaw04_PaceOrder.j0 : Nat → Bool → Bool → Bool → Int → Int → Int → Int → Int → Int → Option (Bool)
  | 0, _, _, _, _, _, _, _, _, _ => none
  | k + 1, x7, x8, x41, x121000, x121001, x122000, x122001, x123000, x123001 => if x41 = true then (some false) else (if x7 = true then (if x8 = true then ((pace_Less.f x122000 x122001 x123000 x123001).bind fun t126 => (if t126 = true then ((pace_Less.f x121000 x121001 x123000 x123001).bind fun t127 => (if t127 = true then (if x121000 = x122000 then (some (x8 == (decide (x121001 < x122001)))) else (some true)) else (some false))) else (if x121000 = x122000 then (some (x8 == (decide (x121001 < x122001)))) else (some true)))) else (if x121000 = x122000 then (some (x8 == (decide (x121001 < x122001)))) else (some true))) else (some false))
def diapauselaw04_PaceOrder.f (k : Nat) (a0_0 : Int) (a0_1 : Int) (a1_0 : Int) (a1_1 : Int) (a2_0 : Int) (a2_1 : Int) : Option (Bool) := (diapauselaw04_awake.f).bind fun t123 => ((pace_Less.f a0_0 a0_1 a1_0 a1_1).bind fun t124 => ((pace_Less.f a1_0 a1_1 a0_0 a0_1).bind fun t125 => (if t124 = true then (if t125 = true then (diapauselaw04_PaceOrder.j0 k t123 t124 true a0_0 a0_1 a1_0 a1_1 a2_0 a2_1) else (if (true == (a0_0 == a1_0 && (a0_1 == a1_1))) = true then (diapauselaw04_PaceOrder.j0 k t123 t124 true a0_0 a0_1 a1_0 a1_1 a2_0 a2_1) else (if a0_0 < a1_0 then (diapauselaw04_PaceOrder.j0 k t123 t124 (!t124) a0_0 a0_1 a1_0 a1_1 a2_0 a2_1) else (diapauselaw04_PaceOrder.j0 k t123 t124 false a0_0 a0_1 a1_0 a1_1 a2_0 a2_1)))) else (if (t125 == (a0_0 == a1_0 && (a0_1 == a1_1))) = true then (diapauselaw04_PaceOrder.j0 k t123 t124 true a0_0 a0_1 a1_0 a1_1 a2_0 a2_1) else (if a0_0 < a1_0 then (diapauselaw04_PaceOrder.j0 k t123 t124 (!t124) a0_0 a0_1 a1_0 a1_1 a2_0 a2_1) else (diapauselaw04_PaceOrder.j0 k t123 t124 false a0_0 a0_1 a1_0 a1_1 a2_0 a2_1))))))
theorem diapauselaw04_PaceOrder.mono_l : ∀ k, (∀ y0 y1 y2 y3 y4 y5 y6 y7 y8, LeO (diapauselaw04_PaceOrder.j0 k y0 y1 y2 y3 y4 y5 y6 y7 y8) (diapauselaw04_PaceOrder.j0 (k + 1) y0 y1 y2 y3 y4 y5 y6 y7 y8))
  | 0 => fun _ _ _ _ _ _ _ _ _ r h => by simp [diapauselaw04_PaceOrder.j0] at h
  | k + 1 => by
    have ih0 := diapauselaw04_PaceOrder.mono_l k
    · intro y0 y1 y2 y3 y4 y5 y6 y7 y8
      unfold diapauselaw04_PaceOrder.j0
      repeat' first
      | (with_reducible exact ih0 _ _ _ _ _ _ _ _ _)
      | (with_reducible exact LeO.refl _)
      | (with_reducible exact LeO.none _)
      | (with_reducible refine LeO.ite ?_ ?_)
      | (with_reducible refine LeO.bind ?_ (fun _ => ?_))
      | exact ih0 _ _ _ _ _ _ _ _ _
      | exact LeO.none _
      | refine LeO.ite ?_ ?_
      | refine LeO.bind ?_ (fun _ => ?_)
theorem diapauselaw04_PaceOrder.mono : ∀ a0 a1 a2 a3 a4 a5 k, LeO (diapauselaw04_PaceOrder.f k a0 a1 a2 a3 a4 a5) (diapauselaw04_PaceOrder.f (k + 1) a0 a1 a2 a3 a4 a5) := by
  intro a0 a1 a2 a3 a4 a5 k
  have ih0 := diapauselaw04_PaceOrder.mono_l k
  unfold diapauselaw04_PaceOrder.f
  repeat' first
      | (with_reducible exact ih0 _ _ _ _ _ _ _ _ _)
      | (with_reducible exact LeO.refl _)
      | (with_reducible exact LeO.none _)
      | (with_reducible refine LeO.ite ?_ ?_)
      | (with_reducible refine LeO.bind ?_ (fun _ => ?_))
      | exact ih0 _ _ _ _ _ _ _ _ _
      | exact LeO.none _
      | refine LeO.ite ?_ ?_
      | refine LeO.bind ?_ (fun _ => ?_)
set_option maxHeartbeats 8000000 in
set_option maxRecDepth 100000 in
theorem diapauselaw04_PaceOrder.calls (k : Nat) (a0_0 : Int) (a0_1 : Int) (a1_0 : Int) (a1_1 : Int) (a2_0 : Int) (a2_1 : Int) (r : Bool) (w : World) (h : diapauselaw04_PaceOrder.f k a0_0 a0_1 a1_0 a1_1 a2_0 a2_1 = some r) :
    Calls Try.prog 8 #[.agg #[.int .i64 a0_0, .int .i64 a0_1], .agg #[.int .i64 a1_0, .int .i64 a1_1], .agg #[.int .i64 a2_0, .int .i64 a2_1]] w fun e w' => e = .returned (.bool r) ∧ Below w.heap.size w w' := by
  have hu39 := Try.underlying39
  have HB := Aside0.mk (Below.refl w.heap.size w)
  have H : ((diapauselaw04_awake.f).bind fun t123 => ((pace_Less.f a0_0 a0_1 a1_0 a1_1).bind fun t124 => ((pace_Less.f a1_0 a1_1 a0_0 a0_1).bind fun t125 => (if t124 = true then (if t125 = true then (diapauselaw04_PaceOrder.j0 k t123 t124 true a0_0 a0_1 a1_0 a1_1 a2_0 a2_1) else (if (true == (a0_0 == a1_0 && (a0_1 == a1_1))) = true then (diapauselaw04_PaceOrder.j0 k t123 t124 true a0_0 a0_1 a1_0 a1_1 a2_0 a2_1) else (if a0_0 < a1_0 then (diapauselaw04_PaceOrder.j0 k t123 t124 (!t124) a0_0 a0_1 a1_0 a1_1 a2_0 a2_1) else (diapauselaw04_PaceOrder.j0 k t123 t124 false a0_0 a0_1 a1_0 a1_1 a2_0 a2_1)))) else (if (t125 == (a0_0 == a1_0 && (a0_1 == a1_1))) = true then (diapauselaw04_PaceOrder.j0 k t123 t124 true a0_0 a0_1 a1_0 a1_1 a2_0 a2_1) else (if a0_0 < a1_0 then (diapauselaw04_PaceOrder.j0 k t123 t124 (!t124) a0_0 a0_1 a1_0 a1_1 a2_0 a2_1) else (diapauselaw04_PaceOrder.j0 k t123 t124 false a0_0 a0_1 a1_0 a1_1 a2_0 a2_1))))))) = some r := h
  clear h
  replace H := Option.bind_eq_some_iff.mp H
  obtain ⟨t123, A40, H⟩ := H
  replace H : ((pace_Less.f a0_0 a0_1 a1_0 a1_1).bind fun t124 => ((pace_Less.f a1_0 a1_1 a0_0 a0_1).bind fun t125 => (if t124 = true then (if t125 = true then (diapauselaw04_PaceOrder.j0 k t123 t124 true a0_0 a0_1 a1_0 a1_1 a2_0 a2_1) else (if (true == (a0_0 == a1_0 && (a0_1 == a1_1))) = true then (diapauselaw04_PaceOrder.j0 k t123 t124 true a0_0 a0_1 a1_0 a1_1 a2_0 a2_1) else (if a0_0 < a1_0 then (diapauselaw04_PaceOrder.j0 k t123 t124 (!t124) a0_0 a0_1 a1_0 a1_1 a2_0 a2_1) else (diapauselaw04_PaceOrder.j0 k t123 t124 false a0_0 a0_1 a1_0 a1_1 a2_0 a2_1)))) else (if (t125 == (a0_0 == a1_0 && (a0_1 == a1_1))) = true then (diapauselaw04_PaceOrder.j0 k t123 t124 true a0_0 a0_1 a1_0 a1_1 a2_0 a2_1) else (if a0_0 < a1_0 then (diapauselaw04_PaceOrder.j0 k t123 t124 (!t124) a0_0 a0_1 a1_0 a1_1 a2_0 a2_1) else (diapauselaw04_PaceOrder.j0 k t123 t124 false a0_0 a0_1 a1_0 a1_1 a2_0 a2_1)))))) = some r := H
  have A4 := Aside0.mk A40
  clear A40
  replace H := Option.bind_eq_some_iff.mp H
  obtain ⟨t124, A50, H⟩ := H
  replace H : ((pace_Less.f a1_0 a1_1 a0_0 a0_1).bind fun t125 => (if t124 = true then (if t125 = true then (diapauselaw04_PaceOrder.j0 k t123 t124 true a0_0 a0_1 a1_0 a1_1 a2_0 a2_1) else (if (true == (a0_0 == a1_0 && (a0_1 == a1_1))) = true then (diapauselaw04_PaceOrder.j0 k t123 t124 true a0_0 a0_1 a1_0 a1_1 a2_0 a2_1) else (if a0_0 < a1_0 then (diapauselaw04_PaceOrder.j0 k t123 t124 (!t124) a0_0 a0_1 a1_0 a1_1 a2_0 a2_1) else (diapauselaw04_PaceOrder.j0 k t123 t124 false a0_0 a0_1 a1_0 a1_1 a2_0 a2_1)))) else (if (t125 == (a0_0 == a1_0 && (a0_1 == a1_1))) = true then (diapauselaw04_PaceOrder.j0 k t123 t124 true a0_0 a0_1 a1_0 a1_1 a2_0 a2_1) else (if a0_0 < a1_0 then (diapauselaw04_PaceOrder.j0 k t123 t124 (!t124) a0_0 a0_1 a1_0 a1_1 a2_0 a2_1) else (diapauselaw04_PaceOrder.j0 k t123 t124 false a0_0 a0_1 a1_0 a1_1 a2_0 a2_1))))) = some r := H
  have A5 := Aside0.mk A50
  clear A50
  replace H := Option.bind_eq_some_iff.mp H
  obtain ⟨t125, A60, H⟩ := H
  replace H : (if t124 = true then (if t125 = true then (diapauselaw04_PaceOrder.j0 k t123 t124 true a0_0 a0_1 a1_0 a1_1 a2_0 a2_1) else (if (true == (a0_0 == a1_0 && (a0_1 == a1_1))) = true then (diapauselaw04_PaceOrder.j0 k t123 t124 true a0_0 a0_1 a1_0 a1_1 a2_0 a2_1) else (if a0_0 < a1_0 then (diapauselaw04_PaceOrder.j0 k t123 t124 (!t124) a0_0 a0_1 a1_0 a1_1 a2_0 a2_1) else (diapauselaw04_PaceOrder.j0 k t123 t124 false a0_0 a0_1 a1_0 a1_1 a2_0 a2_1)))) else (if (t125 == (a0_0 == a1_0 && (a0_1 == a1_1))) = true then (diapauselaw04_PaceOrder.j0 k t123 t124 true a0_0 a0_1 a1_0 a1_1 a2_0 a2_1) else (if a0_0 < a1_0 then (diapauselaw04_PaceOrder.j0 k t123 t124 (!t124) a0_0 a0_1 a1_0 a1_1 a2_0 a2_1) else (diapauselaw04_PaceOrder.j0 k t123 t124 false a0_0 a0_1 a1_0 a1_1 a2_0 a2_1)))) = some r := H
  have A6 := Aside0.mk A60
  clear A60
  have HC7 := Aside0.mk H
  clear H
  go_enter Try.func8, Try.ntmps8
  go_upto_region 4 with (first | ((with_reducible refine gate_dst (N := 3) rfl ?_); refine box_event ?hg (N := 3) ?hd (cs := #[.int .i64 a0_0, .int .i64 a0_1]) (t := 39) ?hr ?_; (case hd => rfl); (case hg => rfl); (case hr => first | (go_simp; done) | (go_simp; rfl)); intro gb120 hg w8 hbox hb; have n0_ := Aside0.mk (below_step (by repeat (first | (with_reducible first | exact HB.out | apply below_alloc | apply pw_below_drewN | apply below_drew1) | exact HB.out)) hb); have n1_ := Aside0.mk (hbox); have n2_ := Aside0.mk ((by rw [hg]; exact (below_size (by repeat (first | (with_reducible first | exact HB.out | apply below_alloc | apply pw_below_drewN | apply below_drew1) | exact HB.out))) : w.heap.size ≤ gb120)); have n3_ := Aside0.mk ((by rw [hg]; exact (below_size (by repeat (first | (with_reducible first | exact HB.out | apply below_alloc | apply pw_below_drewN | apply below_drew1) | exact HB.out))) : w.heap.size ≤ gb120)); clear HB; have HB := n0_; have BK120 := n1_; have GW120 := n2_; have GE120 := n3_; clear n0_ n1_ n2_ n3_; clear hb hbox hg) | ((with_reducible refine gate_dst (N := 4) rfl ?_); refine box_event ?hg (N := 4) ?hd (cs := #[.int .i64 a1_0, .int .i64 a1_1]) (t := 39) ?hr ?_; (case hd => rfl); (case hg => rfl); (case hr => first | (go_simp; done) | (go_simp; rfl)); intro gb121 hg w9 hbox hb; have n0_ := Aside0.mk (blk_below (g := gb120) (o := .cells #[.int .i64 a0_0, .int .i64 a0_1] 39 (0, 0)) (by (with_reducible repeat (first | refine blk_drewN ?_ _ | refine blk_drew ?_ | refine blk_alloc ?_ _)); exact BK120.out) hb); have n1_ := Aside0.mk (below_step (by repeat (first | (with_reducible first | exact HB.out | apply below_alloc | apply pw_below_drewN | apply below_drew1 | refine below_set ?_ GE120.out) | exact HB.out)) hb); have n2_ := Aside0.mk (hbox); have n3_ := Aside0.mk ((by rw [hg]; exact (below_size (by repeat (first | (with_reducible first | exact HB.out | apply below_alloc | apply pw_below_drewN | apply below_drew1 | refine below_set ?_ GE120.out) | exact HB.out))) : w.heap.size ≤ gb121)); have n4_ := Aside0.mk ((by rw [hg]; exact (below_size (by repeat (first | (with_reducible first | exact HB.out | apply below_alloc | apply pw_below_drewN | apply below_drew1 | refine below_set ?_ GE120.out) | exact HB.out))) : w.heap.size ≤ gb121)); have n5_ := Aside0.mk ((by rw [hg]; exact Nat.ne_of_lt (blk_lt (g := gb120) (o := .cells #[.int .i64 a0_0, .int .i64 a0_1] 39 (0, 0)) (by (with_reducible repeat (first | refine blk_drewN ?_ _ | refine blk_drew ?_ | refine blk_alloc ?_ _)); exact BK120.out)) : gb120 ≠ gb121)); have n6_ := Aside0.mk ((by rw [hg]; exact Nat.ne_of_gt (blk_lt (g := gb120) (o := .cells #[.int .i64 a0_0, .int .i64 a0_1] 39 (0, 0)) (by (with_reducible repeat (first | refine blk_drewN ?_ _ | refine blk_drew ?_ | refine blk_alloc ?_ _)); exact BK120.out)) : gb121 ≠ gb120)); clear BK120; clear HB; have BK120 := n0_; have HB := n1_; have BK121 := n2_; have GW121 := n3_; have GE121 := n4_; have NB120_121 := n5_; have NB121_120 := n6_; clear n0_ n1_ n2_ n3_ n4_ n5_ n6_; clear hb hbox hg) | ((with_reducible refine gate_dst (N := 5) rfl ?_); refine box_event ?hg (N := 5) ?hd (cs := #[.int .i64 a2_0, .int .i64 a2_1]) (t := 39) ?hr ?_; (case hd => rfl); (case hg => rfl); (case hr => first | (go_simp; done) | (go_simp; rfl)); intro gb122 hg w10 hbox hb; have n0_ := Aside0.mk (blk_below (g := gb120) (o := .cells #[.int .i64 a0_0, .int .i64 a0_1] 39 (0, 0)) (by (with_reducible repeat (first | refine blk_drewN ?_ _ | refine blk_drew ?_ | refine blk_alloc ?_ _)); exact BK120.out) hb); have n1_ := Aside0.mk (blk_below (g := gb121) (o := .cells #[.int .i64 a1_0, .int .i64 a1_1] 39 (0, 0)) (by (with_reducible repeat (first | refine blk_drewN ?_ _ | refine blk_drew ?_ | refine blk_alloc ?_ _)); exact BK121.out) hb); have n2_ := Aside0.mk (below_step (by repeat (first | (with_reducible first | exact HB.out | apply below_alloc | apply pw_below_drewN | apply below_drew1 | refine below_set ?_ GE120.out | refine below_set ?_ GE121.out) | exact HB.out)) hb); have n3_ := Aside0.mk (hbox); have n4_ := Aside0.mk ((by rw [hg]; exact (below_size (by repeat (first | (with_reducible first | exact HB.out | apply below_alloc | apply pw_below_drewN | apply below_drew1 | refine below_set ?_ GE120.out | refine below_set ?_ GE121.out) | exact HB.out))) : w.heap.size ≤ gb122)); have n5_ := Aside0.mk ((by rw [hg]; exact (below_size (by repeat (first | (with_reducible first | exact HB.out | apply below_alloc | apply pw_below_drewN | apply below_drew1 | refine below_set ?_ GE120.out | refine below_set ?_ GE121.out) | exact HB.out))) : w.heap.size ≤ gb122)); have n6_ := Aside0.mk ((by rw [hg]; exact Nat.ne_of_lt (blk_lt (g := gb120) (o := .cells #[.int .i64 a0_0, .int .i64 a0_1] 39 (0, 0)) (by (with_reducible repeat (first | refine blk_drewN ?_ _ | refine blk_drew ?_ | refine blk_alloc ?_ _)); exact BK120.out)) : gb120 ≠ gb122)); have n7_ := Aside0.mk ((by rw [hg]; exact Nat.ne_of_gt (blk_lt (g := gb120) (o := .cells #[.int .i64 a0_0, .int .i64 a0_1] 39 (0, 0)) (by (with_reducible repeat (first | refine blk_drewN ?_ _ | refine blk_drew ?_ | refine blk_alloc ?_ _)); exact BK120.out)) : gb122 ≠ gb120)); have n8_ := Aside0.mk ((by rw [hg]; exact Nat.ne_of_lt (blk_lt (g := gb121) (o := .cells #[.int .i64 a1_0, .int .i64 a1_1] 39 (0, 0)) (by (with_reducible repeat (first | refine blk_drewN ?_ _ | refine blk_drew ?_ | refine blk_alloc ?_ _)); exact BK121.out)) : gb121 ≠ gb122)); have n9_ := Aside0.mk ((by rw [hg]; exact Nat.ne_of_gt (blk_lt (g := gb121) (o := .cells #[.int .i64 a1_0, .int .i64 a1_1] 39 (0, 0)) (by (with_reducible repeat (first | refine blk_drewN ?_ _ | refine blk_drew ?_ | refine blk_alloc ?_ _)); exact BK121.out)) : gb122 ≠ gb121)); clear BK120; clear BK121; clear HB; have BK120 := n0_; have BK121 := n1_; have HB := n2_; have BK122 := n3_; have GW122 := n4_; have GE122 := n5_; have NB120_122 := n6_; have NB122_120 := n7_; have NB121_122 := n8_; have NB122_121 := n9_; clear n0_ n1_ n2_ n3_ n4_ n5_ n6_ n7_ n8_ n9_; clear hb hbox hg) | ((with_reducible refine gate_callee (f := 10) rfl ?_); refine goesL_ (some 10) rfl rfl Try.func10 (by kernel_rfl) rfl #[] rfl (by (try simp only [List.map_toArray, List.map_cons, List.map_nil]); first | done | rfl | (simp only [List.length_drop, List.length_take]; rfl)) ?_; (with_reducible refine (diapauselaw04_awake.calls  t123 _ A4.out).mono ?_); rintro e w11 ⟨rfl, hb⟩; refine ⟨_, rfl, ?_⟩; have n0_ := Aside0.mk (blk_below (g := gb120) (o := .cells #[.int .i64 a0_0, .int .i64 a0_1] 39 (0, 0)) (by (with_reducible repeat (first | refine blk_drewN ?_ _ | refine blk_drew ?_ | refine blk_alloc ?_ _)); exact BK120.out) hb); have n1_ := Aside0.mk (blk_below (g := gb121) (o := .cells #[.int .i64 a1_0, .int .i64 a1_1] 39 (0, 0)) (by (with_reducible repeat (first | refine blk_drewN ?_ _ | refine blk_drew ?_ | refine blk_alloc ?_ _)); exact BK121.out) hb); have n2_ := Aside0.mk (blk_below (g := gb122) (o := .cells #[.int .i64 a2_0, .int .i64 a2_1] 39 (0, 0)) (by (with_reducible repeat (first | refine blk_drewN ?_ _ | refine blk_drew ?_ | refine blk_alloc ?_ _)); exact BK122.out) hb); have n3_ := Aside0.mk (below_step (by repeat (first | (with_reducible first | exact HB.out | apply below_alloc | apply pw_below_drewN | apply below_drew1 | refine below_set ?_ GE120.out | refine below_set ?_ GE121.out | refine below_set ?_ GE122.out) | exact HB.out)) hb); clear BK120; clear BK121; clear BK122; clear HB; have BK120 := n0_; have BK121 := n1_; have BK122 := n2_; have HB := n3_; clear n0_ n1_ n2_ n3_; (try clear hb); (try clear hb2); (try clear hk); (try clear hi); have hnb12 := NB120_121.out; have hnc12 := NB121_120.out; have hnb13 := NB120_122.out; have hnc13 := NB122_120.out; have hcz14_0 : w11.cell? ⟨gb120, 0, none⟩ = some (.int .i64 a0_0) := (blk_cell BK120.out 0).trans rfl; have hcz14_1 : w11.cell? ⟨gb120, 1, none⟩ = some (.int .i64 a0_1) := (blk_cell BK120.out 1).trans rfl; have hfz14_0 := blk_frozen BK120.out 0; have hfz14_1 := blk_frozen BK120.out 1; have hnb15 := NB121_122.out; have hnc15 := NB122_121.out; have hcz16_0 : w11.cell? ⟨gb121, 0, none⟩ = some (.int .i64 a1_0) := (blk_cell BK121.out 0).trans rfl; have hcz16_1 : w11.cell? ⟨gb121, 1, none⟩ = some (.int .i64 a1_1) := (blk_cell BK121.out 1).trans rfl; have hfz16_0 := blk_frozen BK121.out 0; have hfz16_1 := blk_frozen BK121.out 1) | ((with_reducible refine gate_callee (f := 20) rfl ?_); refine goesL_ (some 13) rfl rfl Try.func20 (by kernel_rfl) rfl #[.agg #[.int .i64 a0_0, .int .i64 a0_1], .agg #[.int .i64 a1_0, .int .i64 a1_1]] rfl (by (try simp only [List.map_toArray, List.map_cons, List.map_nil]); first | done | rfl | (simp only [List.length_drop, List.length_take]; rfl)) ?_; (with_reducible refine (pace_Less.calls a0_0 a0_1 a1_0 a1_1 t124 _ A5.out).mono ?_); rintro e w17 ⟨rfl, hb⟩; refine ⟨_, rfl, ?_⟩; have n0_ := Aside0.mk (blk_below (g := gb120) (o := .cells #[.int .i64 a0_0, .int .i64 a0_1] 39 (0, 0)) (by (with_reducible repeat (first | refine blk_drewN ?_ _ | refine blk_drew ?_ | refine blk_alloc ?_ _)); exact BK120.out) hb); have n1_ := Aside0.mk (blk_below (g := gb121) (o := .cells #[.int .i64 a1_0, .int .i64 a1_1] 39 (0, 0)) (by (with_reducible repeat (first | refine blk_drewN ?_ _ | refine blk_drew ?_ | refine blk_alloc ?_ _)); exact BK121.out) hb); have n2_ := Aside0.mk (blk_below (g := gb122) (o := .cells #[.int .i64 a2_0, .int .i64 a2_1] 39 (0, 0)) (by (with_reducible repeat (first | refine blk_drewN ?_ _ | refine blk_drew ?_ | refine blk_alloc ?_ _)); exact BK122.out) hb); have n3_ := Aside0.mk (below_step (by repeat (first | (with_reducible first | exact HB.out | apply below_alloc | apply pw_below_drewN | apply below_drew1 | refine below_set ?_ GE120.out | refine below_set ?_ GE121.out | refine below_set ?_ GE122.out) | exact HB.out)) hb); clear BK120; clear BK121; clear BK122; clear HB; have BK120 := n0_; have BK121 := n1_; have BK122 := n2_; have HB := n3_; clear n0_ n1_ n2_ n3_; (try clear hb); (try clear hb2); (try clear hk); (try clear hi); have hcz18_0 : w17.cell? ⟨gb121, 0, none⟩ = some (.int .i64 a1_0) := (blk_cell BK121.out 0).trans rfl; have hcz18_1 : w17.cell? ⟨gb121, 1, none⟩ = some (.int .i64 a1_1) := (blk_cell BK121.out 1).trans rfl; have hfz18_0 := blk_frozen BK121.out 0; have hfz18_1 := blk_frozen BK121.out 1; have hcz19_0 : w17.cell? ⟨gb120, 0, none⟩ = some (.int .i64 a0_0) := (blk_cell BK120.out 0).trans rfl; have hcz19_1 : w17.cell? ⟨gb120, 1, none⟩ = some (.int .i64 a0_1) := (blk_cell BK120.out 1).trans rfl; have hfz19_0 := blk_frozen BK120.out 0; have hfz19_1 := blk_frozen BK120.out 1) | ((with_reducible refine gate_callee (f := 20) rfl ?_); refine goesL_ (some 16) rfl rfl Try.func20 (by kernel_rfl) rfl #[.agg #[.int .i64 a1_0, .int .i64 a1_1], .agg #[.int .i64 a0_0, .int .i64 a0_1]] rfl (by (try simp only [List.map_toArray, List.map_cons, List.map_nil]); first | done | rfl | (simp only [List.length_drop, List.length_take]; rfl)) ?_; (with_reducible refine (pace_Less.calls a1_0 a1_1 a0_0 a0_1 t125 _ A6.out).mono ?_); rintro e w20 ⟨rfl, hb⟩; refine ⟨_, rfl, ?_⟩; have n0_ := Aside0.mk (blk_below (g := gb120) (o := .cells #[.int .i64 a0_0, .int .i64 a0_1] 39 (0, 0)) (by (with_reducible repeat (first | refine blk_drewN ?_ _ | refine blk_drew ?_ | refine blk_alloc ?_ _)); exact BK120.out) hb); have n1_ := Aside0.mk (blk_below (g := gb121) (o := .cells #[.int .i64 a1_0, .int .i64 a1_1] 39 (0, 0)) (by (with_reducible repeat (first | refine blk_drewN ?_ _ | refine blk_drew ?_ | refine blk_alloc ?_ _)); exact BK121.out) hb); have n2_ := Aside0.mk (blk_below (g := gb122) (o := .cells #[.int .i64 a2_0, .int .i64 a2_1] 39 (0, 0)) (by (with_reducible repeat (first | refine blk_drewN ?_ _ | refine blk_drew ?_ | refine blk_alloc ?_ _)); exact BK122.out) hb); have n3_ := Aside0.mk (below_step (by repeat (first | (with_reducible first | exact HB.out | apply below_alloc | apply pw_below_drewN | apply below_drew1 | refine below_set ?_ GE120.out | refine below_set ?_ GE121.out | refine below_set ?_ GE122.out) | exact HB.out)) hb); clear BK120; clear BK121; clear BK122; clear HB; have BK120 := n0_; have BK121 := n1_; have BK122 := n2_; have HB := n3_; clear n0_ n1_ n2_ n3_; (try clear hb); (try clear hb2); (try clear hk); (try clear hi)))
  (try simp only [Act.put, List.setIfInBounds_toArray, List.set_cons_zero, List.set_cons_succ])
  go_cut [41] (fun v41 wc => ∃ (kq : Nat) (x41_6 : Bool), v41 = .bool x41_6 ∧ Aside0 (diapauselaw04_PaceOrder.j0 kq t123 t124 x41_6 a0_0 a0_1 a1_0 a1_1 a2_0 a2_1 = some r) ∧ Aside0 (kq ≤ k) ∧ Aside0 (wc.heap[gb120]? = some (.cells #[.int .i64 a0_0, .int .i64 a0_1] 39 (0, 0))) ∧ Aside0 (wc.heap[gb121]? = some (.cells #[.int .i64 a1_0, .int .i64 a1_1] 39 (0, 0))) ∧ Aside0 (wc.heap[gb122]? = some (.cells #[.int .i64 a2_0, .int .i64 a2_1] 39 (0, 0))) ∧ Aside0 (Below w.heap.size w wc))
  case first =>
    have H := HC7.out
    clear HC7
    by_cases c21 : t124 = true
    · subst c21
      have H1 : (if t125 = true then (diapauselaw04_PaceOrder.j0 k t123 true true a0_0 a0_1 a1_0 a1_1 a2_0 a2_1) else (if (true == (a0_0 == a1_0 && (a0_1 == a1_1))) = true then (diapauselaw04_PaceOrder.j0 k t123 true true a0_0 a0_1 a1_0 a1_1 a2_0 a2_1) else (if a0_0 < a1_0 then (diapauselaw04_PaceOrder.j0 k t123 true (!true) a0_0 a0_1 a1_0 a1_1 a2_0 a2_1) else (diapauselaw04_PaceOrder.j0 k t123 true false a0_0 a0_1 a1_0 a1_1 a2_0 a2_1)))) = some r := by rw [if_pos rfl] at H; exact H
      clear H
      have H := H1
      clear H1
      by_cases c22 : t125 = true
      · subst c22
        have H1 : (diapauselaw04_PaceOrder.j0 k t123 true true a0_0 a0_1 a1_0 a1_1 a2_0 a2_1) = some r := by rw [if_pos rfl] at H; exact H
        clear H
        have H := H1
        clear H1
        have H' := Aside0.mk H
        clear H
        go_wp2
        go_meet
        case rel => exact ⟨_, (true), (by first | rfl | (simp; done) | (simp [*]; done)), H', ⟨by first | omega | exact Nat.le_refl _⟩, ⟨by (with_reducible repeat (first | refine blk_drewN ?_ _ | refine blk_drew ?_ | refine blk_alloc ?_ _)); exact BK120.out⟩, ⟨by (with_reducible repeat (first | refine blk_drewN ?_ _ | refine blk_drew ?_ | refine blk_alloc ?_ _)); exact BK121.out⟩, ⟨by (with_reducible repeat (first | refine blk_drewN ?_ _ | refine blk_drew ?_ | refine blk_alloc ?_ _)); exact BK122.out⟩, ⟨by repeat (first | (with_reducible first | exact HB.out | apply below_alloc | apply pw_below_drewN | apply below_drew1 | refine below_set ?_ GE120.out | refine below_set ?_ GE121.out | refine below_set ?_ GE122.out) | exact HB.out)⟩⟩
      · replace c22 := Bool.eq_false_iff.mpr c22
        subst c22
        have H1 : (if (true == (a0_0 == a1_0 && (a0_1 == a1_1))) = true then (diapauselaw04_PaceOrder.j0 k t123 true true a0_0 a0_1 a1_0 a1_1 a2_0 a2_1) else (if a0_0 < a1_0 then (diapauselaw04_PaceOrder.j0 k t123 true (!true) a0_0 a0_1 a1_0 a1_1 a2_0 a2_1) else (diapauselaw04_PaceOrder.j0 k t123 true false a0_0 a0_1 a1_0 a1_1 a2_0 a2_1))) = some r := by rw [if_neg (show ¬ (false = true) by decide)] at H; exact H
        clear H
        have H := H1
        clear H1
        by_cases c23 : (true == (a0_0 == a1_0 && (a0_1 == a1_1))) = true
        · rw [if_pos c23] at H
          have c23b0 : (true == (a0_0 == a1_0 && (a0_1 == a1_1))) = true := c23
          (try (have c23b1 : decide (true = (a0_0 == a1_0 && (a0_1 == a1_1))) = true := by simpa using c23))
          (try (have c23b2 : (true == (a0_0 == a1_0 && (a0_1 == a1_1))) = true := by simpa using c23))
          clear c23
          (first | rw [c23b0] | (simp only [i64_w, i32_w]; rw [c23b0]) | skip)
          have H' := Aside0.mk H
          clear H
          have hnb24 := NB120_121.out
          have hnc24 := NB121_120.out
          have hnb25 := NB120_122.out
          have hnc25 := NB122_120.out
          have hcz26_0 : w20.cell? ⟨gb120, 0, none⟩ = some (.int .i64 a0_0) := (blk_cell BK120.out 0).trans rfl
          have hcz26_1 : w20.cell? ⟨gb120, 1, none⟩ = some (.int .i64 a0_1) := (blk_cell BK120.out 1).trans rfl
          have hfz26_0 := blk_frozen BK120.out 0
          have hfz26_1 := blk_frozen BK120.out 1
          have hnb27 := NB121_122.out
          have hnc27 := NB122_121.out
          have hcz28_0 : w20.cell? ⟨gb121, 0, none⟩ = some (.int .i64 a1_0) := (blk_cell BK121.out 0).trans rfl
          have hcz28_1 : w20.cell? ⟨gb121, 1, none⟩ = some (.int .i64 a1_1) := (blk_cell BK121.out 1).trans rfl
          have hfz28_0 := blk_frozen BK121.out 0
          have hfz28_1 := blk_frozen BK121.out 1
          go_wp2
          go_meet
          case rel => exact ⟨_, (true), (by first | rfl | (simp; done) | (simp [*]; done)), H', ⟨by first | omega | exact Nat.le_refl _⟩, ⟨by (with_reducible repeat (first | refine blk_drewN ?_ _ | refine blk_drew ?_ | refine blk_alloc ?_ _)); exact BK120.out⟩, ⟨by (with_reducible repeat (first | refine blk_drewN ?_ _ | refine blk_drew ?_ | refine blk_alloc ?_ _)); exact BK121.out⟩, ⟨by (with_reducible repeat (first | refine blk_drewN ?_ _ | refine blk_drew ?_ | refine blk_alloc ?_ _)); exact BK122.out⟩, ⟨by repeat (first | (with_reducible first | exact HB.out | apply below_alloc | apply pw_below_drewN | apply below_drew1 | refine below_set ?_ GE120.out | refine below_set ?_ GE121.out | refine below_set ?_ GE122.out) | exact HB.out)⟩⟩
        · rw [if_neg c23] at H
          have c23b0 : (true == (a0_0 == a1_0 && (a0_1 == a1_1))) = false := by simpa using c23
          (try (have c23b1 : decide (true = (a0_0 == a1_0 && (a0_1 == a1_1))) = false := by simpa using c23))
          (try (have c23b2 : (true == (a0_0 == a1_0 && (a0_1 == a1_1))) = false := by simpa using c23))
          (try (have c23b3 : ¬ (true = (a0_0 == a1_0 && (a0_1 == a1_1))) := by simpa using c23))
          clear c23
          (first | rw [c23b0] | (simp only [i64_w, i32_w]; rw [c23b0]) | skip)
          by_cases c29 : a0_0 < a1_0
          · rw [if_pos c29] at H
            have c29b0 : decide (a0_0 < a1_0) = true := decide_eq_true c29
            clear c29
            have H' := Aside0.mk H
            clear H
            have hnb30 := NB120_121.out
            have hnc30 := NB121_120.out
            have hnb31 := NB120_122.out
            have hnc31 := NB122_120.out
            have hcz32_0 : w20.cell? ⟨gb120, 0, none⟩ = some (.int .i64 a0_0) := (blk_cell BK120.out 0).trans rfl
            have hcz32_1 : w20.cell? ⟨gb120, 1, none⟩ = some (.int .i64 a0_1) := (blk_cell BK120.out 1).trans rfl
            have hfz32_0 := blk_frozen BK120.out 0
            have hfz32_1 := blk_frozen BK120.out 1
            have hnb33 := NB121_122.out
            have hnc33 := NB122_121.out
            have hcz34_0 : w20.cell? ⟨gb121, 0, none⟩ = some (.int .i64 a1_0) := (blk_cell BK121.out 0).trans rfl
            have hcz34_1 : w20.cell? ⟨gb121, 1, none⟩ = some (.int .i64 a1_1) := (blk_cell BK121.out 1).trans rfl
            have hfz34_0 := blk_frozen BK121.out 0
            have hfz34_1 := blk_frozen BK121.out 1
            go_wp2
            go_meet
            case rel => exact ⟨_, (!true), (by first | rfl | (simp; done) | (simp [*]; done)), H', ⟨by first | omega | exact Nat.le_refl _⟩, ⟨by (with_reducible repeat (first | refine blk_drewN ?_ _ | refine blk_drew ?_ | refine blk_alloc ?_ _)); exact BK120.out⟩, ⟨by (with_reducible repeat (first | refine blk_drewN ?_ _ | refine blk_drew ?_ | refine blk_alloc ?_ _)); exact BK121.out⟩, ⟨by (with_reducible repeat (first | refine blk_drewN ?_ _ | refine blk_drew ?_ | refine blk_alloc ?_ _)); exact BK122.out⟩, ⟨by repeat (first | (with_reducible first | exact HB.out | apply below_alloc | apply pw_below_drewN | apply below_drew1 | refine below_set ?_ GE120.out | refine below_set ?_ GE121.out | refine below_set ?_ GE122.out) | exact HB.out)⟩⟩
          · rw [if_neg c29] at H
            have c29b0 : decide (a0_0 < a1_0) = false := decide_eq_false c29
            clear c29
            have H' := Aside0.mk H
            clear H
            have hnb35 := NB120_121.out
            have hnc35 := NB121_120.out
            have hnb36 := NB120_122.out
            have hnc36 := NB122_120.out
            have hcz37_0 : w20.cell? ⟨gb120, 0, none⟩ = some (.int .i64 a0_0) := (blk_cell BK120.out 0).trans rfl
            have hcz37_1 : w20.cell? ⟨gb120, 1, none⟩ = some (.int .i64 a0_1) := (blk_cell BK120.out 1).trans rfl
            have hfz37_0 := blk_frozen BK120.out 0
            have hfz37_1 := blk_frozen BK120.out 1
            have hnb38 := NB121_122.out
            have hnc38 := NB122_121.out
            have hcz39_0 : w20.cell? ⟨gb121, 0, none⟩ = some (.int .i64 a1_0) := (blk_cell BK121.out 0).trans rfl
            have hcz39_1 : w20.cell? ⟨gb121, 1, none⟩ = some (.int .i64 a1_1) := (blk_cell BK121.out 1).trans rfl
            have hfz39_0 := blk_frozen BK121.out 0
            have hfz39_1 := blk_frozen BK121.out 1
            go_wp2
            go_meet
            case rel => exact ⟨_, (false), (by first | rfl | (simp; done) | (simp [*]; done)), H', ⟨by first | omega | exact Nat.le_refl _⟩, ⟨by (with_reducible repeat (first | refine blk_drewN ?_ _ | refine blk_drew ?_ | refine blk_alloc ?_ _)); exact BK120.out⟩, ⟨by (with_reducible repeat (first | refine blk_drewN ?_ _ | refine blk_drew ?_ | refine blk_alloc ?_ _)); exact BK121.out⟩, ⟨by (with_reducible repeat (first | refine blk_drewN ?_ _ | refine blk_drew ?_ | refine blk_alloc ?_ _)); exact BK122.out⟩, ⟨by repeat (first | (with_reducible first | exact HB.out | apply below_alloc | apply pw_below_drewN | apply below_drew1 | refine below_set ?_ GE120.out | refine below_set ?_ GE121.out | refine below_set ?_ GE122.out) | exact HB.out)⟩⟩
    · replace c21 := Bool.eq_false_iff.mpr c21
      subst c21
      have H1 : (if (t125 == (a0_0 == a1_0 && (a0_1 == a1_1))) = true then (diapauselaw04_PaceOrder.j0 k t123 false true a0_0 a0_1 a1_0 a1_1 a2_0 a2_1) else (if a0_0 < a1_0 then (diapauselaw04_PaceOrder.j0 k t123 false (!false) a0_0 a0_1 a1_0 a1_1 a2_0 a2_1) else (diapauselaw04_PaceOrder.j0 k t123 false false a0_0 a0_1 a1_0 a1_1 a2_0 a2_1))) = some r := by rw [if_neg (show ¬ (false = true) by decide)] at H; exact H
      clear H
      have H := H1
      clear H1
      by_cases c40 : (t125 == (a0_0 == a1_0 && (a0_1 == a1_1))) = true
      · rw [if_pos c40] at H
        have c40b0 : (t125 == (a0_0 == a1_0 && (a0_1 == a1_1))) = true := c40
        (try (have c40b1 : decide (t125 = (a0_0 == a1_0 && (a0_1 == a1_1))) = true := by simpa using c40))
        (try (have c40b2 : (t125 == (a0_0 == a1_0 && (a0_1 == a1_1))) = true := by simpa using c40))
        clear c40
        have H' := Aside0.mk H
        clear H
        have hnb41 := NB120_121.out
        have hnc41 := NB121_120.out
        have hnb42 := NB120_122.out
        have hnc42 := NB122_120.out
        have hcz43_0 : w20.cell? ⟨gb120, 0, none⟩ = some (.int .i64 a0_0) := (blk_cell BK120.out 0).trans rfl
        have hcz43_1 : w20.cell? ⟨gb120, 1, none⟩ = some (.int .i64 a0_1) := (blk_cell BK120.out 1).trans rfl
        have hfz43_0 := blk_frozen BK120.out 0
        have hfz43_1 := blk_frozen BK120.out 1
        have hnb44 := NB121_122.out
        have hnc44 := NB122_121.out
        have hcz45_0 : w20.cell? ⟨gb121, 0, none⟩ = some (.int .i64 a1_0) := (blk_cell BK121.out 0).trans rfl
        have hcz45_1 : w20.cell? ⟨gb121, 1, none⟩ = some (.int .i64 a1_1) := (blk_cell BK121.out 1).trans rfl
        have hfz45_0 := blk_frozen BK121.out 0
        have hfz45_1 := blk_frozen BK121.out 1
        go_wp2
        go_meet
        case rel => exact ⟨_, (true), (by first | rfl | (simp; done) | (simp [*]; done)), H', ⟨by first | omega | exact Nat.le_refl _⟩, ⟨by (with_reducible repeat (first | refine blk_drewN ?_ _ | refine blk_drew ?_ | refine blk_alloc ?_ _)); exact BK120.out⟩, ⟨by (with_reducible repeat (first | refine blk_drewN ?_ _ | refine blk_drew ?_ | refine blk_alloc ?_ _)); exact BK121.out⟩, ⟨by (with_reducible repeat (first | refine blk_drewN ?_ _ | refine blk_drew ?_ | refine blk_alloc ?_ _)); exact BK122.out⟩, ⟨by repeat (first | (with_reducible first | exact HB.out | apply below_alloc | apply pw_below_drewN | apply below_drew1 | refine below_set ?_ GE120.out | refine below_set ?_ GE121.out | refine below_set ?_ GE122.out) | exact HB.out)⟩⟩
      · rw [if_neg c40] at H
        have c40b0 : (t125 == (a0_0 == a1_0 && (a0_1 == a1_1))) = false := by simpa using c40
        (try (have c40b1 : decide (t125 = (a0_0 == a1_0 && (a0_1 == a1_1))) = false := by simpa using c40))
        (try (have c40b2 : (t125 == (a0_0 == a1_0 && (a0_1 == a1_1))) = false := by simpa using c40))
        (try (have c40b3 : ¬ (t125 = (a0_0 == a1_0 && (a0_1 == a1_1))) := by simpa using c40))
        clear c40
        by_cases c46 : a0_0 < a1_0
        · rw [if_pos c46] at H
          have c46b0 : decide (a0_0 < a1_0) = true := decide_eq_true c46
          clear c46
          have H' := Aside0.mk H
          clear H
          have hnb47 := NB120_121.out
          have hnc47 := NB121_120.out
          have hnb48 := NB120_122.out
          have hnc48 := NB122_120.out
          have hcz49_0 : w20.cell? ⟨gb120, 0, none⟩ = some (.int .i64 a0_0) := (blk_cell BK120.out 0).trans rfl
          have hcz49_1 : w20.cell? ⟨gb120, 1, none⟩ = some (.int .i64 a0_1) := (blk_cell BK120.out 1).trans rfl
          have hfz49_0 := blk_frozen BK120.out 0
          have hfz49_1 := blk_frozen BK120.out 1
          have hnb50 := NB121_122.out
          have hnc50 := NB122_121.out
          have hcz51_0 : w20.cell? ⟨gb121, 0, none⟩ = some (.int .i64 a1_0) := (blk_cell BK121.out 0).trans rfl
          have hcz51_1 : w20.cell? ⟨gb121, 1, none⟩ = some (.int .i64 a1_1) := (blk_cell BK121.out 1).trans rfl
          have hfz51_0 := blk_frozen BK121.out 0
          have hfz51_1 := blk_frozen BK121.out 1
          go_wp2
          go_meet
          case rel => exact ⟨_, (!false), (by first | rfl | (simp; done) | (simp [*]; done)), H', ⟨by first | omega | exact Nat.le_refl _⟩, ⟨by (with_reducible repeat (first | refine blk_drewN ?_ _ | refine blk_drew ?_ | refine blk_alloc ?_ _)); exact BK120.out⟩, ⟨by (with_reducible repeat (first | refine blk_drewN ?_ _ | refine blk_drew ?_ | refine blk_alloc ?_ _)); exact BK121.out⟩, ⟨by (with_reducible repeat (first | refine blk_drewN ?_ _ | refine blk_drew ?_ | refine blk_alloc ?_ _)); exact BK122.out⟩, ⟨by repeat (first | (with_reducible first | exact HB.out | apply below_alloc | apply pw_below_drewN | apply below_drew1 | refine below_set ?_ GE120.out | refine below_set ?_ GE121.out | refine below_set ?_ GE122.out) | exact HB.out)⟩⟩
        · rw [if_neg c46] at H
          have c46b0 : decide (a0_0 < a1_0) = false := decide_eq_false c46
          clear c46
          have H' := Aside0.mk H
          clear H
          have hnb52 := NB120_121.out
          have hnc52 := NB121_120.out
          have hnb53 := NB120_122.out
          have hnc53 := NB122_120.out
          have hcz54_0 : w20.cell? ⟨gb120, 0, none⟩ = some (.int .i64 a0_0) := (blk_cell BK120.out 0).trans rfl
          have hcz54_1 : w20.cell? ⟨gb120, 1, none⟩ = some (.int .i64 a0_1) := (blk_cell BK120.out 1).trans rfl
          have hfz54_0 := blk_frozen BK120.out 0
          have hfz54_1 := blk_frozen BK120.out 1
          have hnb55 := NB121_122.out
          have hnc55 := NB122_121.out
          have hcz56_0 : w20.cell? ⟨gb121, 0, none⟩ = some (.int .i64 a1_0) := (blk_cell BK121.out 0).trans rfl
          have hcz56_1 : w20.cell? ⟨gb121, 1, none⟩ = some (.int .i64 a1_1) := (blk_cell BK121.out 1).trans rfl
          have hfz56_0 := blk_frozen BK121.out 0
          have hfz56_1 := blk_frozen BK121.out 1
          go_wp2
          go_meet
          case rel => exact ⟨_, (false), (by first | rfl | (simp; done) | (simp [*]; done)), H', ⟨by first | omega | exact Nat.le_refl _⟩, ⟨by (with_reducible repeat (first | refine blk_drewN ?_ _ | refine blk_drew ?_ | refine blk_alloc ?_ _)); exact BK120.out⟩, ⟨by (with_reducible repeat (first | refine blk_drewN ?_ _ | refine blk_drew ?_ | refine blk_alloc ?_ _)); exact BK121.out⟩, ⟨by (with_reducible repeat (first | refine blk_drewN ?_ _ | refine blk_drew ?_ | refine blk_alloc ?_ _)); exact BK122.out⟩, ⟨by repeat (first | (with_reducible first | exact HB.out | apply below_alloc | apply pw_below_drewN | apply below_drew1 | refine below_set ?_ GE120.out | refine below_set ?_ GE121.out | refine below_set ?_ GE122.out) | exact HB.out)⟩⟩
  case rest =>
    clear HC7
    try clear c1
    try clear c2
    try clear p2
    try clear c3
    try clear c4
    try clear c5
    try clear c8
    try clear c10
    try clear c12
    try clear c13
    try clear c15
    try clear c20
    try clear c21
    try clear c22
    try clear c23
    try clear c23b0
    try clear c23b1
    try clear c23b2
    try clear c24
    try clear c25
    try clear c27
    try clear c29
    try clear c29b0
    try clear c30
    try clear c31
    try clear c33
    try clear c35
    try clear c36
    try clear c38
    try clear c40
    try clear c40b0
    try clear c40b1
    try clear c40b2
    try clear c41
    try clear c42
    try clear c44
    try clear c46
    try clear c46b0
    try clear c47
    try clear c48
    try clear c50
    try clear c52
    try clear c53
    try clear c55
    try clear hcz14_0
    try clear hcz14_1
    try clear hcz16_0
    try clear hcz16_1
    try clear hcz18_0
    try clear hcz18_1
    try clear hcz19_0
    try clear hcz19_1
    try clear hcz26_0
    try clear hcz26_1
    try clear hcz28_0
    try clear hcz28_1
    try clear hcz32_0
    try clear hcz32_1
    try clear hcz34_0
    try clear hcz34_1
    try clear hcz37_0
    try clear hcz37_1
    try clear hcz39_0
    try clear hcz39_1
    try clear hcz43_0
    try clear hcz43_1
    try clear hcz45_0
    try clear hcz45_1
    try clear hcz49_0
    try clear hcz49_1
    try clear hcz51_0
    try clear hcz51_1
    try clear hcz54_0
    try clear hcz54_1
    try clear hcz56_0
    try clear hcz56_1
    try clear hfz14_0
    try clear hfz14_1
    try clear hfz16_0
    try clear hfz16_1
    try clear hfz18_0
    try clear hfz18_1
    try clear hfz19_0
    try clear hfz19_1
    try clear hfz26_0
    try clear hfz26_1
    try clear hfz28_0
    try clear hfz28_1
    try clear hfz32_0
    try clear hfz32_1
    try clear hfz34_0
    try clear hfz34_1
    try clear hfz37_0
    try clear hfz37_1
    try clear hfz39_0
    try clear hfz39_1
    try clear hfz43_0
    try clear hfz43_1
    try clear hfz45_0
    try clear hfz45_1
    try clear hfz49_0
    try clear hfz49_1
    try clear hfz51_0
    try clear hfz51_1
    try clear hfz54_0
    try clear hfz54_1
    try clear hfz56_0
    try clear hfz56_1
    obtain ⟨kq, x41_6, rfl, HA, HJ6, BK120, BK121, BK122, HB⟩ := hcut
    cases kq with
    | zero => exact absurd HA.out (by simp [diapauselaw04_PaceOrder.j0])
    | succ kj6 =>
      have H := HA.out
      clear HA
      simp only [diapauselaw04_PaceOrder.j0] at H
      by_cases c57 : x41_6 = true
      · subst c57
        have H1 : (some false) = some r := by rw [if_pos rfl] at H; exact H
        clear H
        have H := H1
        clear H1
        obtain rfl := Option.some.inj H
        go_wp2
        go_ret
        exact ⟨by first | rfl | (simp [errW_none, errW_some] <;> rfl) | (simp [*, errW_none, errW_some] <;> rfl), by repeat (first | (with_reducible first | exact HB.out | apply below_alloc | apply pw_below_drewN | apply below_drew1 | refine below_set ?_ GE120.out | refine below_set ?_ GE121.out | refine below_set ?_ GE122.out) | exact HB.out)⟩
      · replace c57 := Bool.eq_false_iff.mpr c57
        subst c57
        have H1 : (if t123 = true then (if t124 = true then ((pace_Less.f a1_0 a1_1 a2_0 a2_1).bind fun t126 => (if t126 = true then ((pace_Less.f a0_0 a0_1 a2_0 a2_1).bind fun t127 => (if t127 = true then (if a0_0 = a1_0 then (some (t124 == (decide (a0_1 < a1_1)))) else (some true)) else (some false))) else (if a0_0 = a1_0 then (some (t124 == (decide (a0_1 < a1_1)))) else (some true)))) else (if a0_0 = a1_0 then (some (t124 == (decide (a0_1 < a1_1)))) else (some true))) else (some false)) = some r := by rw [if_neg (show ¬ (false = true) by decide)] at H; exact H
        clear H
        have H := H1
        clear H1
        by_cases c58 : t123 = true
        · subst c58
          have H1 : (if t124 = true then ((pace_Less.f a1_0 a1_1 a2_0 a2_1).bind fun t126 => (if t126 = true then ((pace_Less.f a0_0 a0_1 a2_0 a2_1).bind fun t127 => (if t127 = true then (if a0_0 = a1_0 then (some (t124 == (decide (a0_1 < a1_1)))) else (some true)) else (some false))) else (if a0_0 = a1_0 then (some (t124 == (decide (a0_1 < a1_1)))) else (some true)))) else (if a0_0 = a1_0 then (some (t124 == (decide (a0_1 < a1_1)))) else (some true))) = some r := by rw [if_pos rfl] at H; exact H
          clear H
          have H := H1
          clear H1
          by_cases c59 : t124 = true
          · subst c59
            have H1 : ((pace_Less.f a1_0 a1_1 a2_0 a2_1).bind fun t126 => (if t126 = true then ((pace_Less.f a0_0 a0_1 a2_0 a2_1).bind fun t127 => (if t127 = true then (if a0_0 = a1_0 then (some (true == (decide (a0_1 < a1_1)))) else (some true)) else (some false))) else (if a0_0 = a1_0 then (some (true == (decide (a0_1 < a1_1)))) else (some true)))) = some r := by rw [if_pos rfl] at H; exact H
            clear H
            have H := H1
            clear H1
            replace H := Option.bind_eq_some_iff.mp H
            obtain ⟨t126, A600, H⟩ := H
            replace H : (if t126 = true then ((pace_Less.f a0_0 a0_1 a2_0 a2_1).bind fun t127 => (if t127 = true then (if a0_0 = a1_0 then (some (true == (decide (a0_1 < a1_1)))) else (some true)) else (some false))) else (if a0_0 = a1_0 then (some (true == (decide (a0_1 < a1_1)))) else (some true))) = some r := H
            have A60 := Aside0.mk A600
            clear A600
            by_cases c61 : t126 = true
            · subst c61
              have H1 : ((pace_Less.f a0_0 a0_1 a2_0 a2_1).bind fun t127 => (if t127 = true then (if a0_0 = a1_0 then (some (true == (decide (a0_1 < a1_1)))) else (some true)) else (some false))) = some r := by rw [if_pos rfl] at H; exact H
              clear H
              have H := H1
              clear H1
              replace H := Option.bind_eq_some_iff.mp H
              obtain ⟨t127, A620, H⟩ := H
              replace H : (if t127 = true then (if a0_0 = a1_0 then (some (true == (decide (a0_1 < a1_1)))) else (some true)) else (some false)) = some r := H
              have A62 := Aside0.mk A620
              clear A620
              by_cases c63 : t127 = true
              · subst c63
                have H1 : (if a0_0 = a1_0 then (some (true == (decide (a0_1 < a1_1)))) else (some true)) = some r := by rw [if_pos rfl] at H; exact H
                clear H
                have H := H1
                clear H1
                by_cases c64 : a0_0 = a1_0
                · rw [if_pos c64] at H
                  have c64b0 : (a0_0 == a1_0) = true := beq_iff_eq.mpr c64
                  have c64b1 : (a0_0 != a1_0) = false := bne_eq_false_iff_eq.mpr c64
                  clear c64
                  obtain rfl := Option.some.inj H
                  have hnb65 := NB121_120.out
                  have hnc65 := NB120_121.out
                  have hnb66 := NB121_122.out
                  have hnc66 := NB122_121.out
                  have hcz67_0 : wc.cell? ⟨gb121, 0, none⟩ = some (.int .i64 a1_0) := (blk_cell BK121.out 0).trans rfl
                  have hcz67_1 : wc.cell? ⟨gb121, 1, none⟩ = some (.int .i64 a1_1) := (blk_cell BK121.out 1).trans rfl
                  have hfz67_0 := blk_frozen BK121.out 0
                  have hfz67_1 := blk_frozen BK121.out 1
                  have hnb68 := NB122_120.out
                  have hnc68 := NB120_122.out
                  have hcz69_0 : wc.cell? ⟨gb122, 0, none⟩ = some (.int .i64 a2_0) := (blk_cell BK122.out 0).trans rfl
                  have hcz69_1 : wc.cell? ⟨gb122, 1, none⟩ = some (.int .i64 a2_1) := (blk_cell BK122.out 1).trans rfl
                  have hfz69_0 := blk_frozen BK122.out 0
                  have hfz69_1 := blk_frozen BK122.out 1
                  go_wp2_with (first | (go_at_call 20; (with_reducible refine (pace_Less.calls a1_0 a1_1 a2_0 a2_1 true _ A60.out).mono ?_); rintro e w70 ⟨rfl, hb⟩; have n0_ := Aside0.mk (blk_below (g := gb120) (o := .cells #[.int .i64 a0_0, .int .i64 a0_1] 39 (0, 0)) (by (with_reducible repeat (first | refine blk_drewN ?_ _ | refine blk_drew ?_ | refine blk_alloc ?_ _)); exact BK120.out) hb); have n1_ := Aside0.mk (blk_below (g := gb121) (o := .cells #[.int .i64 a1_0, .int .i64 a1_1] 39 (0, 0)) (by (with_reducible repeat (first | refine blk_drewN ?_ _ | refine blk_drew ?_ | refine blk_alloc ?_ _)); exact BK121.out) hb); have n2_ := Aside0.mk (blk_below (g := gb122) (o := .cells #[.int .i64 a2_0, .int .i64 a2_1] 39 (0, 0)) (by (with_reducible repeat (first | refine blk_drewN ?_ _ | refine blk_drew ?_ | refine blk_alloc ?_ _)); exact BK122.out) hb); have n3_ := Aside0.mk (below_step (by repeat (first | (with_reducible first | exact HB.out | apply below_alloc | apply pw_below_drewN | apply below_drew1 | refine below_set ?_ GE120.out | refine below_set ?_ GE121.out | refine below_set ?_ GE122.out) | exact HB.out)) hb); clear BK120; clear BK121; clear BK122; clear HB; have BK120 := n0_; have BK121 := n1_; have BK122 := n2_; have HB := n3_; clear n0_ n1_ n2_ n3_; (try clear hb); (try clear hb2); (try clear hk); (try clear hi); have hcz71_0 : w70.cell? ⟨gb120, 0, none⟩ = some (.int .i64 a0_0) := (blk_cell BK120.out 0).trans rfl; have hcz71_1 : w70.cell? ⟨gb120, 1, none⟩ = some (.int .i64 a0_1) := (blk_cell BK120.out 1).trans rfl; have hfz71_0 := blk_frozen BK120.out 0; have hfz71_1 := blk_frozen BK120.out 1; have hcz72_0 : w70.cell? ⟨gb122, 0, none⟩ = some (.int .i64 a2_0) := (blk_cell BK122.out 0).trans rfl; have hcz72_1 : w70.cell? ⟨gb122, 1, none⟩ = some (.int .i64 a2_1) := (blk_cell BK122.out 1).trans rfl; have hfz72_0 := blk_frozen BK122.out 0; have hfz72_1 := blk_frozen BK122.out 1) | (go_at_call 20; (with_reducible refine (pace_Less.calls a0_0 a0_1 a2_0 a2_1 true _ A62.out).mono ?_); rintro e w73 ⟨rfl, hb⟩; have n0_ := Aside0.mk (blk_below (g := gb120) (o := .cells #[.int .i64 a0_0, .int .i64 a0_1] 39 (0, 0)) (by (with_reducible repeat (first | refine blk_drewN ?_ _ | refine blk_drew ?_ | refine blk_alloc ?_ _)); exact BK120.out) hb); have n1_ := Aside0.mk (blk_below (g := gb121) (o := .cells #[.int .i64 a1_0, .int .i64 a1_1] 39 (0, 0)) (by (with_reducible repeat (first | refine blk_drewN ?_ _ | refine blk_drew ?_ | refine blk_alloc ?_ _)); exact BK121.out) hb); have n2_ := Aside0.mk (blk_below (g := gb122) (o := .cells #[.int .i64 a2_0, .int .i64 a2_1] 39 (0, 0)) (by (with_reducible repeat (first | refine blk_drewN ?_ _ | refine blk_drew ?_ | refine blk_alloc ?_ _)); exact BK122.out) hb); have n3_ := Aside0.mk (below_step (by repeat (first | (with_reducible first | exact HB.out | apply below_alloc | apply pw_below_drewN | apply below_drew1 | refine below_set ?_ GE120.out | refine below_set ?_ GE121.out | refine below_set ?_ GE122.out) | exact HB.out)) hb); clear BK120; clear BK121; clear BK122; clear HB; have BK120 := n0_; have BK121 := n1_; have BK122 := n2_; have HB := n3_; clear n0_ n1_ n2_ n3_; (try clear hb); (try clear hb2); (try clear hk); (try clear hi); have hcz74_0 : w73.cell? ⟨gb120, 0, none⟩ = some (.int .i64 a0_0) := (blk_cell BK120.out 0).trans rfl; have hcz74_1 : w73.cell? ⟨gb120, 1, none⟩ = some (.int .i64 a0_1) := (blk_cell BK120.out 1).trans rfl; have hfz74_0 := blk_frozen BK120.out 0; have hfz74_1 := blk_frozen BK120.out 1; have hcz75_0 : w73.cell? ⟨gb121, 0, none⟩ = some (.int .i64 a1_0) := (blk_cell BK121.out 0).trans rfl; have hcz75_1 : w73.cell? ⟨gb121, 1, none⟩ = some (.int .i64 a1_1) := (blk_cell BK121.out 1).trans rfl; have hfz75_0 := blk_frozen BK121.out 0; have hfz75_1 := blk_frozen BK121.out 1))
                  go_ret
                  exact ⟨by first | rfl | (simp [errW_none, errW_some] <;> rfl) | (simp [*, errW_none, errW_some] <;> rfl), by repeat (first | (with_reducible first | exact HB.out | apply below_alloc | apply pw_below_drewN | apply below_drew1 | refine below_set ?_ GE120.out | refine below_set ?_ GE121.out | refine below_set ?_ GE122.out) | exact HB.out)⟩
                · rw [if_neg c64] at H
                  have c64b0 : (a0_0 == a1_0) = false := beq_eq_false_iff_ne.mpr c64
                  have c64b1 : (a0_0 != a1_0) = true := bne_iff_ne.mpr c64
                  obtain rfl := Option.some.inj H
                  have hnb76 := NB121_120.out
                  have hnc76 := NB120_121.out
                  have hnb77 := NB121_122.out
                  have hnc77 := NB122_121.out
                  have hcz78_0 : wc.cell? ⟨gb121, 0, none⟩ = some (.int .i64 a1_0) := (blk_cell BK121.out 0).trans rfl
                  have hcz78_1 : wc.cell? ⟨gb121, 1, none⟩ = some (.int .i64 a1_1) := (blk_cell BK121.out 1).trans rfl
                  have hfz78_0 := blk_frozen BK121.out 0
                  have hfz78_1 := blk_frozen BK121.out 1
                  have hnb79 := NB122_120.out
                  have hnc79 := NB120_122.out
                  have hcz80_0 : wc.cell? ⟨gb122, 0, none⟩ = some (.int .i64 a2_0) := (blk_cell BK122.out 0).trans rfl
                  have hcz80_1 : wc.cell? ⟨gb122, 1, none⟩ = some (.int .i64 a2_1) := (blk_cell BK122.out 1).trans rfl
                  have hfz80_0 := blk_frozen BK122.out 0
                  have hfz80_1 := blk_frozen BK122.out 1
                  go_wp2_with (first | (go_at_call 20; (with_reducible refine (pace_Less.calls a1_0 a1_1 a2_0 a2_1 true _ A60.out).mono ?_); rintro e w81 ⟨rfl, hb⟩; have n0_ := Aside0.mk (blk_below (g := gb120) (o := .cells #[.int .i64 a0_0, .int .i64 a0_1] 39 (0, 0)) (by (with_reducible repeat (first | refine blk_drewN ?_ _ | refine blk_drew ?_ | refine blk_alloc ?_ _)); exact BK120.out) hb); have n1_ := Aside0.mk (blk_below (g := gb121) (o := .cells #[.int .i64 a1_0, .int .i64 a1_1] 39 (0, 0)) (by (with_reducible repeat (first | refine blk_drewN ?_ _ | refine blk_drew ?_ | refine blk_alloc ?_ _)); exact BK121.out) hb); have n2_ := Aside0.mk (blk_below (g := gb122) (o := .cells #[.int .i64 a2_0, .int .i64 a2_1] 39 (0, 0)) (by (with_reducible repeat (first | refine blk_drewN ?_ _ | refine blk_drew ?_ | refine blk_alloc ?_ _)); exact BK122.out) hb); have n3_ := Aside0.mk (below_step (by repeat (first | (with_reducible first | exact HB.out | apply below_alloc | apply pw_below_drewN | apply below_drew1 | refine below_set ?_ GE120.out | refine below_set ?_ GE121.out | refine below_set ?_ GE122.out) | exact HB.out)) hb); clear BK120; clear BK121; clear BK122; clear HB; have BK120 := n0_; have BK121 := n1_; have BK122 := n2_; have HB := n3_; clear n0_ n1_ n2_ n3_; (try clear hb); (try clear hb2); (try clear hk); (try clear hi); have hcz82_0 : w81.cell? ⟨gb120, 0, none⟩ = some (.int .i64 a0_0) := (blk_cell BK120.out 0).trans rfl; have hcz82_1 : w81.cell? ⟨gb120, 1, none⟩ = some (.int .i64 a0_1) := (blk_cell BK120.out 1).trans rfl; have hfz82_0 := blk_frozen BK120.out 0; have hfz82_1 := blk_frozen BK120.out 1; have hcz83_0 : w81.cell? ⟨gb122, 0, none⟩ = some (.int .i64 a2_0) := (blk_cell BK122.out 0).trans rfl; have hcz83_1 : w81.cell? ⟨gb122, 1, none⟩ = some (.int .i64 a2_1) := (blk_cell BK122.out 1).trans rfl; have hfz83_0 := blk_frozen BK122.out 0; have hfz83_1 := blk_frozen BK122.out 1) | (go_at_call 20; (with_reducible refine (pace_Less.calls a0_0 a0_1 a2_0 a2_1 true _ A62.out).mono ?_); rintro e w84 ⟨rfl, hb⟩; have n0_ := Aside0.mk (blk_below (g := gb120) (o := .cells #[.int .i64 a0_0, .int .i64 a0_1] 39 (0, 0)) (by (with_reducible repeat (first | refine blk_drewN ?_ _ | refine blk_drew ?_ | refine blk_alloc ?_ _)); exact BK120.out) hb); have n1_ := Aside0.mk (blk_below (g := gb121) (o := .cells #[.int .i64 a1_0, .int .i64 a1_1] 39 (0, 0)) (by (with_reducible repeat (first | refine blk_drewN ?_ _ | refine blk_drew ?_ | refine blk_alloc ?_ _)); exact BK121.out) hb); have n2_ := Aside0.mk (blk_below (g := gb122) (o := .cells #[.int .i64 a2_0, .int .i64 a2_1] 39 (0, 0)) (by (with_reducible repeat (first | refine blk_drewN ?_ _ | refine blk_drew ?_ | refine blk_alloc ?_ _)); exact BK122.out) hb); have n3_ := Aside0.mk (below_step (by repeat (first | (with_reducible first | exact HB.out | apply below_alloc | apply pw_below_drewN | apply below_drew1 | refine below_set ?_ GE120.out | refine below_set ?_ GE121.out | refine below_set ?_ GE122.out) | exact HB.out)) hb); clear BK120; clear BK121; clear BK122; clear HB; have BK120 := n0_; have BK121 := n1_; have BK122 := n2_; have HB := n3_; clear n0_ n1_ n2_ n3_; (try clear hb); (try clear hb2); (try clear hk); (try clear hi); have hcz85_0 : w84.cell? ⟨gb120, 0, none⟩ = some (.int .i64 a0_0) := (blk_cell BK120.out 0).trans rfl; have hcz85_1 : w84.cell? ⟨gb120, 1, none⟩ = some (.int .i64 a0_1) := (blk_cell BK120.out 1).trans rfl; have hfz85_0 := blk_frozen BK120.out 0; have hfz85_1 := blk_frozen BK120.out 1; have hcz86_0 : w84.cell? ⟨gb121, 0, none⟩ = some (.int .i64 a1_0) := (blk_cell BK121.out 0).trans rfl; have hcz86_1 : w84.cell? ⟨gb121, 1, none⟩ = some (.int .i64 a1_1) := (blk_cell BK121.out 1).trans rfl; have hfz86_0 := blk_frozen BK121.out 0; have hfz86_1 := blk_frozen BK121.out 1))
                  go_ret
                  exact ⟨by first | rfl | (simp [errW_none, errW_some] <;> rfl) | (simp [*, errW_none, errW_some] <;> rfl), by repeat (first | (with_reducible first | exact HB.out | apply below_alloc | apply pw_below_drewN | apply below_drew1 | refine below_set ?_ GE120.out | refine below_set ?_ GE121.out | refine below_set ?_ GE122.out) | exact HB.out)⟩
              · replace c63 := Bool.eq_false_iff.mpr c63
                subst c63
                have H1 : (some false) = some r := by rw [if_neg (show ¬ (false = true) by decide)] at H; exact H
                clear H
                have H := H1
                clear H1
                obtain rfl := Option.some.inj H
                have hnb87 := NB121_120.out
                have hnc87 := NB120_121.out
                have hnb88 := NB121_122.out
                have hnc88 := NB122_121.out
                have hcz89_0 : wc.cell? ⟨gb121, 0, none⟩ = some (.int .i64 a1_0) := (blk_cell BK121.out 0).trans rfl
                have hcz89_1 : wc.cell? ⟨gb121, 1, none⟩ = some (.int .i64 a1_1) := (blk_cell BK121.out 1).trans rfl
                have hfz89_0 := blk_frozen BK121.out 0
                have hfz89_1 := blk_frozen BK121.out 1
                have hnb90 := NB122_120.out
                have hnc90 := NB120_122.out
                have hcz91_0 : wc.cell? ⟨gb122, 0, none⟩ = some (.int .i64 a2_0) := (blk_cell BK122.out 0).trans rfl
                have hcz91_1 : wc.cell? ⟨gb122, 1, none⟩ = some (.int .i64 a2_1) := (blk_cell BK122.out 1).trans rfl
                have hfz91_0 := blk_frozen BK122.out 0
                have hfz91_1 := blk_frozen BK122.out 1
                go_wp2_with (first | (go_at_call 20; (with_reducible refine (pace_Less.calls a1_0 a1_1 a2_0 a2_1 true _ A60.out).mono ?_); rintro e w92 ⟨rfl, hb⟩; have n0_ := Aside0.mk (blk_below (g := gb120) (o := .cells #[.int .i64 a0_0, .int .i64 a0_1] 39 (0, 0)) (by (with_reducible repeat (first | refine blk_drewN ?_ _ | refine blk_drew ?_ | refine blk_alloc ?_ _)); exact BK120.out) hb); have n1_ := Aside0.mk (blk_below (g := gb121) (o := .cells #[.int .i64 a1_0, .int .i64 a1_1] 39 (0, 0)) (by (with_reducible repeat (first | refine blk_drewN ?_ _ | refine blk_drew ?_ | refine blk_alloc ?_ _)); exact BK121.out) hb); have n2_ := Aside0.mk (blk_below (g := gb122) (o := .cells #[.int .i64 a2_0, .int .i64 a2_1] 39 (0, 0)) (by (with_reducible repeat (first | refine blk_drewN ?_ _ | refine blk_drew ?_ | refine blk_alloc ?_ _)); exact BK122.out) hb); have n3_ := Aside0.mk (below_step (by repeat (first | (with_reducible first | exact HB.out | apply below_alloc | apply pw_below_drewN | apply below_drew1 | refine below_set ?_ GE120.out | refine below_set ?_ GE121.out | refine below_set ?_ GE122.out) | exact HB.out)) hb); clear BK120; clear BK121; clear BK122; clear HB; have BK120 := n0_; have BK121 := n1_; have BK122 := n2_; have HB := n3_; clear n0_ n1_ n2_ n3_; (try clear hb); (try clear hb2); (try clear hk); (try clear hi); have hcz93_0 : w92.cell? ⟨gb120, 0, none⟩ = some (.int .i64 a0_0) := (blk_cell BK120.out 0).trans rfl; have hcz93_1 : w92.cell? ⟨gb120, 1, none⟩ = some (.int .i64 a0_1) := (blk_cell BK120.out 1).trans rfl; have hfz93_0 := blk_frozen BK120.out 0; have hfz93_1 := blk_frozen BK120.out 1; have hcz94_0 : w92.cell? ⟨gb122, 0, none⟩ = some (.int .i64 a2_0) := (blk_cell BK122.out 0).trans rfl; have hcz94_1 : w92.cell? ⟨gb122, 1, none⟩ = some (.int .i64 a2_1) := (blk_cell BK122.out 1).trans rfl; have hfz94_0 := blk_frozen BK122.out 0; have hfz94_1 := blk_frozen BK122.out 1) | (go_at_call 20; (with_reducible refine (pace_Less.calls a0_0 a0_1 a2_0 a2_1 false _ A62.out).mono ?_); rintro e w95 ⟨rfl, hb⟩; have n0_ := Aside0.mk (blk_below (g := gb120) (o := .cells #[.int .i64 a0_0, .int .i64 a0_1] 39 (0, 0)) (by (with_reducible repeat (first | refine blk_drewN ?_ _ | refine blk_drew ?_ | refine blk_alloc ?_ _)); exact BK120.out) hb); have n1_ := Aside0.mk (blk_below (g := gb121) (o := .cells #[.int .i64 a1_0, .int .i64 a1_1] 39 (0, 0)) (by (with_reducible repeat (first | refine blk_drewN ?_ _ | refine blk_drew ?_ | refine blk_alloc ?_ _)); exact BK121.out) hb); have n2_ := Aside0.mk (blk_below (g := gb122) (o := .cells #[.int .i64 a2_0, .int .i64 a2_1] 39 (0, 0)) (by (with_reducible repeat (first | refine blk_drewN ?_ _ | refine blk_drew ?_ | refine blk_alloc ?_ _)); exact BK122.out) hb); have n3_ := Aside0.mk (below_step (by repeat (first | (with_reducible first | exact HB.out | apply below_alloc | apply pw_below_drewN | apply below_drew1 | refine below_set ?_ GE120.out | refine below_set ?_ GE121.out | refine below_set ?_ GE122.out) | exact HB.out)) hb); clear BK120; clear BK121; clear BK122; clear HB; have BK120 := n0_; have BK121 := n1_; have BK122 := n2_; have HB := n3_; clear n0_ n1_ n2_ n3_; (try clear hb); (try clear hb2); (try clear hk); (try clear hi)))
                go_ret
                exact ⟨by first | rfl | (simp [errW_none, errW_some] <;> rfl) | (simp [*, errW_none, errW_some] <;> rfl), by repeat (first | (with_reducible first | exact HB.out | apply below_alloc | apply pw_below_drewN | apply below_drew1 | refine below_set ?_ GE120.out | refine below_set ?_ GE121.out | refine below_set ?_ GE122.out) | exact HB.out)⟩
            · replace c61 := Bool.eq_false_iff.mpr c61
              subst c61
              have H1 : (if a0_0 = a1_0 then (some (true == (decide (a0_1 < a1_1)))) else (some true)) = some r := by rw [if_neg (show ¬ (false = true) by decide)] at H; exact H
              clear H
              have H := H1
              clear H1
              by_cases c96 : a0_0 = a1_0
              · rw [if_pos c96] at H
                have c96b0 : (a0_0 == a1_0) = true := beq_iff_eq.mpr c96
                have c96b1 : (a0_0 != a1_0) = false := bne_eq_false_iff_eq.mpr c96
                clear c96
                obtain rfl := Option.some.inj H
                have hnb97 := NB121_120.out
                have hnc97 := NB120_121.out
                have hnb98 := NB121_122.out
                have hnc98 := NB122_121.out
                have hcz99_0 : wc.cell? ⟨gb121, 0, none⟩ = some (.int .i64 a1_0) := (blk_cell BK121.out 0).trans rfl
                have hcz99_1 : wc.cell? ⟨gb121, 1, none⟩ = some (.int .i64 a1_1) := (blk_cell BK121.out 1).trans rfl
                have hfz99_0 := blk_frozen BK121.out 0
                have hfz99_1 := blk_frozen BK121.out 1
                have hnb100 := NB122_120.out
                have hnc100 := NB120_122.out
                have hcz101_0 : wc.cell? ⟨gb122, 0, none⟩ = some (.int .i64 a2_0) := (blk_cell BK122.out 0).trans rfl
                have hcz101_1 : wc.cell? ⟨gb122, 1, none⟩ = some (.int .i64 a2_1) := (blk_cell BK122.out 1).trans rfl
                have hfz101_0 := blk_frozen BK122.out 0
                have hfz101_1 := blk_frozen BK122.out 1
                go_wp2_with (first | (go_at_call 20; (with_reducible refine (pace_Less.calls a1_0 a1_1 a2_0 a2_1 false _ A60.out).mono ?_); rintro e w102 ⟨rfl, hb⟩; have n0_ := Aside0.mk (blk_below (g := gb120) (o := .cells #[.int .i64 a0_0, .int .i64 a0_1] 39 (0, 0)) (by (with_reducible repeat (first | refine blk_drewN ?_ _ | refine blk_drew ?_ | refine blk_alloc ?_ _)); exact BK120.out) hb); have n1_ := Aside0.mk (blk_below (g := gb121) (o := .cells #[.int .i64 a1_0, .int .i64 a1_1] 39 (0, 0)) (by (with_reducible repeat (first | refine blk_drewN ?_ _ | refine blk_drew ?_ | refine blk_alloc ?_ _)); exact BK121.out) hb); have n2_ := Aside0.mk (blk_below (g := gb122) (o := .cells #[.int .i64 a2_0, .int .i64 a2_1] 39 (0, 0)) (by (with_reducible repeat (first | refine blk_drewN ?_ _ | refine blk_drew ?_ | refine blk_alloc ?_ _)); exact BK122.out) hb); have n3_ := Aside0.mk (below_step (by repeat (first | (with_reducible first | exact HB.out | apply below_alloc | apply pw_below_drewN | apply below_drew1 | refine below_set ?_ GE120.out | refine below_set ?_ GE121.out | refine below_set ?_ GE122.out) | exact HB.out)) hb); clear BK120; clear BK121; clear BK122; clear HB; have BK120 := n0_; have BK121 := n1_; have BK122 := n2_; have HB := n3_; clear n0_ n1_ n2_ n3_; (try clear hb); (try clear hb2); (try clear hk); (try clear hi); have hcz103_0 : w102.cell? ⟨gb120, 0, none⟩ = some (.int .i64 a0_0) := (blk_cell BK120.out 0).trans rfl; have hcz103_1 : w102.cell? ⟨gb120, 1, none⟩ = some (.int .i64 a0_1) := (blk_cell BK120.out 1).trans rfl; have hfz103_0 := blk_frozen BK120.out 0; have hfz103_1 := blk_frozen BK120.out 1; have hcz104_0 : w102.cell? ⟨gb121, 0, none⟩ = some (.int .i64 a1_0) := (blk_cell BK121.out 0).trans rfl; have hcz104_1 : w102.cell? ⟨gb121, 1, none⟩ = some (.int .i64 a1_1) := (blk_cell BK121.out 1).trans rfl; have hfz104_0 := blk_frozen BK121.out 0; have hfz104_1 := blk_frozen BK121.out 1))
                go_ret
                exact ⟨by first | rfl | (simp [errW_none, errW_some] <;> rfl) | (simp [*, errW_none, errW_some] <;> rfl), by repeat (first | (with_reducible first | exact HB.out | apply below_alloc | apply pw_below_drewN | apply below_drew1 | refine below_set ?_ GE120.out | refine below_set ?_ GE121.out | refine below_set ?_ GE122.out) | exact HB.out)⟩
              · rw [if_neg c96] at H
                have c96b0 : (a0_0 == a1_0) = false := beq_eq_false_iff_ne.mpr c96
                have c96b1 : (a0_0 != a1_0) = true := bne_iff_ne.mpr c96
                obtain rfl := Option.some.inj H
                have hnb105 := NB121_120.out
                have hnc105 := NB120_121.out
                have hnb106 := NB121_122.out
                have hnc106 := NB122_121.out
                have hcz107_0 : wc.cell? ⟨gb121, 0, none⟩ = some (.int .i64 a1_0) := (blk_cell BK121.out 0).trans rfl
                have hcz107_1 : wc.cell? ⟨gb121, 1, none⟩ = some (.int .i64 a1_1) := (blk_cell BK121.out 1).trans rfl
                have hfz107_0 := blk_frozen BK121.out 0
                have hfz107_1 := blk_frozen BK121.out 1
                have hnb108 := NB122_120.out
                have hnc108 := NB120_122.out
                have hcz109_0 : wc.cell? ⟨gb122, 0, none⟩ = some (.int .i64 a2_0) := (blk_cell BK122.out 0).trans rfl
                have hcz109_1 : wc.cell? ⟨gb122, 1, none⟩ = some (.int .i64 a2_1) := (blk_cell BK122.out 1).trans rfl
                have hfz109_0 := blk_frozen BK122.out 0
                have hfz109_1 := blk_frozen BK122.out 1
                go_wp2_with (first | (go_at_call 20; (with_reducible refine (pace_Less.calls a1_0 a1_1 a2_0 a2_1 false _ A60.out).mono ?_); rintro e w110 ⟨rfl, hb⟩; have n0_ := Aside0.mk (blk_below (g := gb120) (o := .cells #[.int .i64 a0_0, .int .i64 a0_1] 39 (0, 0)) (by (with_reducible repeat (first | refine blk_drewN ?_ _ | refine blk_drew ?_ | refine blk_alloc ?_ _)); exact BK120.out) hb); have n1_ := Aside0.mk (blk_below (g := gb121) (o := .cells #[.int .i64 a1_0, .int .i64 a1_1] 39 (0, 0)) (by (with_reducible repeat (first | refine blk_drewN ?_ _ | refine blk_drew ?_ | refine blk_alloc ?_ _)); exact BK121.out) hb); have n2_ := Aside0.mk (blk_below (g := gb122) (o := .cells #[.int .i64 a2_0, .int .i64 a2_1] 39 (0, 0)) (by (with_reducible repeat (first | refine blk_drewN ?_ _ | refine blk_drew ?_ | refine blk_alloc ?_ _)); exact BK122.out) hb); have n3_ := Aside0.mk (below_step (by repeat (first | (with_reducible first | exact HB.out | apply below_alloc | apply pw_below_drewN | apply below_drew1 | refine below_set ?_ GE120.out | refine below_set ?_ GE121.out | refine below_set ?_ GE122.out) | exact HB.out)) hb); clear BK120; clear BK121; clear BK122; clear HB; have BK120 := n0_; have BK121 := n1_; have BK122 := n2_; have HB := n3_; clear n0_ n1_ n2_ n3_; (try clear hb); (try clear hb2); (try clear hk); (try clear hi); have hcz111_0 : w110.cell? ⟨gb120, 0, none⟩ = some (.int .i64 a0_0) := (blk_cell BK120.out 0).trans rfl; have hcz111_1 : w110.cell? ⟨gb120, 1, none⟩ = some (.int .i64 a0_1) := (blk_cell BK120.out 1).trans rfl; have hfz111_0 := blk_frozen BK120.out 0; have hfz111_1 := blk_frozen BK120.out 1; have hcz112_0 : w110.cell? ⟨gb121, 0, none⟩ = some (.int .i64 a1_0) := (blk_cell BK121.out 0).trans rfl; have hcz112_1 : w110.cell? ⟨gb121, 1, none⟩ = some (.int .i64 a1_1) := (blk_cell BK121.out 1).trans rfl; have hfz112_0 := blk_frozen BK121.out 0; have hfz112_1 := blk_frozen BK121.out 1))
                go_ret
                exact ⟨by first | rfl | (simp [errW_none, errW_some] <;> rfl) | (simp [*, errW_none, errW_some] <;> rfl), by repeat (first | (with_reducible first | exact HB.out | apply below_alloc | apply pw_below_drewN | apply below_drew1 | refine below_set ?_ GE120.out | refine below_set ?_ GE121.out | refine below_set ?_ GE122.out) | exact HB.out)⟩
          · replace c59 := Bool.eq_false_iff.mpr c59
            subst c59
            have H1 : (if a0_0 = a1_0 then (some (false == (decide (a0_1 < a1_1)))) else (some true)) = some r := by rw [if_neg (show ¬ (false = true) by decide)] at H; exact H
            clear H
            have H := H1
            clear H1
            by_cases c113 : a0_0 = a1_0
            · rw [if_pos c113] at H
              have c113b0 : (a0_0 == a1_0) = true := beq_iff_eq.mpr c113
              have c113b1 : (a0_0 != a1_0) = false := bne_eq_false_iff_eq.mpr c113
              clear c113
              obtain rfl := Option.some.inj H
              have hnb114 := NB120_121.out
              have hnc114 := NB121_120.out
              have hnb115 := NB120_122.out
              have hnc115 := NB122_120.out
              have hcz116_0 : wc.cell? ⟨gb120, 0, none⟩ = some (.int .i64 a0_0) := (blk_cell BK120.out 0).trans rfl
              have hcz116_1 : wc.cell? ⟨gb120, 1, none⟩ = some (.int .i64 a0_1) := (blk_cell BK120.out 1).trans rfl
              have hfz116_0 := blk_frozen BK120.out 0
              have hfz116_1 := blk_frozen BK120.out 1
              have hnb117 := NB121_122.out
              have hnc117 := NB122_121.out
              have hcz118_0 : wc.cell? ⟨gb121, 0, none⟩ = some (.int .i64 a1_0) := (blk_cell BK121.out 0).trans rfl
              have hcz118_1 : wc.cell? ⟨gb121, 1, none⟩ = some (.int .i64 a1_1) := (blk_cell BK121.out 1).trans rfl
              have hfz118_0 := blk_frozen BK121.out 0
              have hfz118_1 := blk_frozen BK121.out 1
              go_wp2
              go_ret
              exact ⟨by first | rfl | (simp [errW_none, errW_some] <;> rfl) | (simp [*, errW_none, errW_some] <;> rfl), by repeat (first | (with_reducible first | exact HB.out | apply below_alloc | apply pw_below_drewN | apply below_drew1 | refine below_set ?_ GE120.out | refine below_set ?_ GE121.out | refine below_set ?_ GE122.out) | exact HB.out)⟩
            · rw [if_neg c113] at H
              have c113b0 : (a0_0 == a1_0) = false := beq_eq_false_iff_ne.mpr c113
              have c113b1 : (a0_0 != a1_0) = true := bne_iff_ne.mpr c113
              obtain rfl := Option.some.inj H
              have hnb119 := NB120_121.out
              have hnc119 := NB121_120.out
              have hnb120 := NB120_122.out
              have hnc120 := NB122_120.out
              have hcz121_0 : wc.cell? ⟨gb120, 0, none⟩ = some (.int .i64 a0_0) := (blk_cell BK120.out 0).trans rfl
              have hcz121_1 : wc.cell? ⟨gb120, 1, none⟩ = some (.int .i64 a0_1) := (blk_cell BK120.out 1).trans rfl
              have hfz121_0 := blk_frozen BK120.out 0
              have hfz121_1 := blk_frozen BK120.out 1
              have hnb122 := NB121_122.out
              have hnc122 := NB122_121.out
              have hcz123_0 : wc.cell? ⟨gb121, 0, none⟩ = some (.int .i64 a1_0) := (blk_cell BK121.out 0).trans rfl
              have hcz123_1 : wc.cell? ⟨gb121, 1, none⟩ = some (.int .i64 a1_1) := (blk_cell BK121.out 1).trans rfl
              have hfz123_0 := blk_frozen BK121.out 0
              have hfz123_1 := blk_frozen BK121.out 1
              go_wp2
              go_ret
              exact ⟨by first | rfl | (simp [errW_none, errW_some] <;> rfl) | (simp [*, errW_none, errW_some] <;> rfl), by repeat (first | (with_reducible first | exact HB.out | apply below_alloc | apply pw_below_drewN | apply below_drew1 | refine below_set ?_ GE120.out | refine below_set ?_ GE121.out | refine below_set ?_ GE122.out) | exact HB.out)⟩
        · replace c58 := Bool.eq_false_iff.mpr c58
          subst c58
          have H1 : (some false) = some r := by rw [if_neg (show ¬ (false = true) by decide)] at H; exact H
          clear H
          have H := H1
          clear H1
          obtain rfl := Option.some.inj H
          go_wp2
          go_ret
          exact ⟨by first | rfl | (simp [errW_none, errW_some] <;> rfl) | (simp [*, errW_none, errW_some] <;> rfl), by repeat (first | (with_reducible first | exact HB.out | apply below_alloc | apply pw_below_drewN | apply below_drew1 | refine below_set ?_ GE120.out | refine below_set ?_ GE121.out | refine below_set ?_ GE122.out) | exact HB.out)⟩

end Go.Proofs.Ythbnmdehcinikaa.PPaceOrder

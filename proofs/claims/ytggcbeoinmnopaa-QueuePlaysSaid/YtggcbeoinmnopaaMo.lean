/- The walks of package moment: sums of whole numbers, exactly. -/
import Derived.Test.YtggcbeoinmnopaaKit
import Derived.Test.YtggcbeoinmnopaaFlo
import Derived.IntWalk
import Derived.Deep.RegionWith
import Derived.Laws.Externs
namespace Go.Proofs.Ytggcbeoinmnopaa.Mo
open Go.RowKit Go.Proofs.Ytggcbeoinmnopaa.Kit Go.Proofs.Ytggcbeoinmnopaa.Flo Go.IntWalk
set_option linter.unusedVariables false
set_option linter.unusedSimpArgs false
/-- A moment of whole numbers. -/
def mo (base W P : Int) : Value := .agg #[.int .i64 base, .complex .f64 (fi W) (fi P)]
abbrev small (n : Int) : Prop := n.natAbs < 9007199254740992
def ValPost (w : World) (v : Value) (e : Ending) (w' : World) : Prop := e = .returned v ∧ Below w.heap.size w w'
theorem wrap64_in (n : Int) (h : -9223372036854775808 ≤ n ∧ n ≤ 9223372036854775807) : IntKind.i64.wrap n = n := i64_in n h
set_option maxHeartbeats 400000 in
theorem part_any (base v wt d : Int) (re im : Nat) (w : World) (hd : v - base = d) (hds : small d) (hw0 : 0 ≤ wt) (hw : small wt) (hwd : wt.natAbs * d.natAbs < 9007199254740992) :
    Calls Try.prog 59 #[.agg #[.int .i64 base, .complex .f64 re im], .int .i64 v, .int .i64 wt] w (ValPost w (.complex .f64 (fi wt) (fi (wt * d)))) := by
  have hm := fun w' : World => run_complex_mul (P := Try.prog) w' 84 _ _ _ _ _ _ (cmul_part wt d hw0 hw hds hwd)
  have hf := floatOfInt_fi
  have hwr : IntKind.i64.wrap (v - base) = d := by rw [hd]; exact i64_in d (by unfold small at hds; omega)
  have hwr2 : wrap64 (v - base) = d := by rw [hd]; unfold wrap64; unfold small at hds; omega
  go_enter Try.func59, Try.ntmps59
  go_wp2
  go_ret
  exact ⟨rfl, (Below.refl _ _).alloc (Nat.le_refl _) _⟩
/-- What stands in the two blocks that a method makes first, behind a call that turns nothing. -/
theorem two_blocks (w w1 w2 : World) (a b c d : Value) (hd : Below w1.heap.size w1 w2) (h1 : w1.heap = ((w.alloc (.cells #[a, b] 86)).alloc (.cells #[c, d] 86)).heap) :
    w2.cell? ⟨w.heap.size, 0, none⟩ = some a ∧ w2.cell? ⟨w.heap.size, 1, none⟩ = some b ∧ w2.heap[w.heap.size + 1]? = some (.cells #[c, d] 86 (0, 0)) ∧ w.heap.size + 2 ≤ w2.heap.size := by
  have e0 : w1.heap[w.heap.size]? = some (.cells #[a, b] 86 (0, 0)) := by
    rw [h1]
    exact blk_alloc (blk_new w (.cells #[a, b] 86)) _
  have e1 : w1.heap[w.heap.size + 1]? = some (.cells #[c, d] 86 (0, 0)) := by
    rw [h1]
    have h := blk_new (w.alloc (.cells #[a, b] 86)) (.cells #[c, d] 86)
    simpa using h
  have f0 := blk_below e0 hd
  have f1 := blk_below e1 hd
  refine ⟨(blk_cell f0 0).trans rfl, (blk_cell f0 1).trans rfl, f1, ?_⟩
  have := blk_lt f1
  omega
theorem own_block {w2 : World} {g : Nat} {c d : Value} (b1 : w2.heap[g]? = some (.cells #[c, d] 86 (0, 0))) (u : Value) :
    w2.cell? ⟨g, 0, none⟩ = some c ∧ w2.cell? ⟨g, 1, none⟩ = some d ∧ w2.frozen? ⟨g, 0, none⟩ = false ∧ w2.frozen? ⟨g, 1, none⟩ = false ∧
      (w2.setCell ⟨g, 0, none⟩ u).cell? ⟨g, 1, none⟩ = some d ∧ (w2.setCell ⟨g, 0, none⟩ u).frozen? ⟨g, 1, none⟩ = false := by
  have b2 := blk_put b1 0 u (cs' := #[u, d]) rfl
  exact ⟨(blk_cell b1 0).trans rfl, (blk_cell b1 1).trans rfl, blk_frozen b1 0, blk_frozen b1 1, (blk_cell b2 1).trans rfl, blk_frozen b2 1⟩
theorem own_done {w2 : World} {g : Nat} {c d : Value} (b1 : w2.heap[g]? = some (.cells #[c, d] 86 (0, 0))) (u v : Value) :
    ((w2.setCell ⟨g, 0, none⟩ u).setCell ⟨g, 1, none⟩ v).cell? ⟨g, 0, none⟩ = some u ∧ ((w2.setCell ⟨g, 0, none⟩ u).setCell ⟨g, 1, none⟩ v).cell? ⟨g, 1, none⟩ = some v ∧
      ((w2.setCell ⟨g, 0, none⟩ u).setCell ⟨g, 1, none⟩ v).heap[g]? = some (.cells #[u, v] 86 (0, 0)) := by
  have b2 := blk_put (blk_put b1 0 u (cs' := #[u, d]) rfl) 1 v (cs' := #[u, v]) rfl
  exact ⟨(blk_cell b2 0).trans rfl, (blk_cell b2 1).trans rfl, b2⟩
theorem mo_ret {fn : Func} {p : Tmp} {a : Act} {w : World} {R : Ending → World → Prop} (hf : fn.results = #[.cell p 86]) (g : Nat) (u v : Value) (hp : a.tmps.getD p undef = .pointer (some ⟨g, 0, none⟩))
    (hb : w.heap[g]? = some (.cells #[u, v] 86 (0, 0))) (hd : a.defers = []) (hR : R (.returned (.agg #[u, v])) w) : bodyPost Try.prog fn R .ret a w :=
  bodyPost_ret (results_cell_row hf _ _ g 86 #[u, v] (0, 0) _ hp hb Try.underlying86 rfl (by kernel_rfl)) hd hR
theorem store_complex (w : World) (a : Addr) (re im : Nat) (m : Mode) : (store a (.complex .f64 re im) m).run Try.prog w = stored Try.prog w a (.complex .f64 re im) m := run_store Try.prog w a _ m rfl
set_option maxHeartbeats 800000 in
theorem add_any (base W P v wt d : Int) (w : World) (hd : v - base = d) (hds : small d) (hw0 : 0 ≤ wt) (hw : small wt) (hwd : wt.natAbs * d.natAbs < 9007199254740992) (hW : small W) (hP : small P) (hW2 : small (W + wt)) (hP2 : small (P + wt * d)) :
    Calls Try.prog 43 #[mo base W P, .int .i64 v, .int .i64 wt] w (ValPost w (mo base (W + wt) (P + wt * d))) := by
  have HP := Kit.hid (fun w' : World => part_any base v wt d (fi W) (fi P) w' hd hds hw0 hw hwd)
  have hs := fun w' : World => run_complex_sum (P := Try.prog) w' .add (.inl rfl) 84 .f64 _ _ _ _ _ _ (csum_add W P wt (wt * d) hW hP hw (by rw [Int.natAbs_mul]; exact hwd) hW2 hP2)
  clear hd hds hw0 hw hwd hW hP hW2 hP2
  unfold mo
  have HB := Kit.hid (two_blocks w)
  have hst := store_complex
  go_enter Try.func43, Try.ntmps43
  go_wp2_with fail
  go_region_with (go_at_call 59; refine (HP.out _).mono ?_; rintro e w2 ⟨rfl, hd2⟩; obtain ⟨c0, c1, b1, hsz⟩ := HB.out _ w2 (.int .i64 base) (.complex .f64 (fi W) (fi P)) (.int .i64 0) (.complex .f64 0 0) hd2 rfl; obtain ⟨d0, d1, z0, z1, d2, z2⟩ := own_block b1 (.int .i64 base); obtain ⟨k0, k1, k2⟩ := own_done b1 (.int .i64 base) (.complex .f64 (fi (W + wt)) (fi (P + wt * d))); have K2 := Kit.hid k2; clear k2)
  all_goals
    go_wp2_with fail
    refine mo_ret rfl (w.heap.size + 1) _ _ rfl K2.out rfl ⟨rfl, ?_⟩
    have h1 : Below w.heap.size w w2 := (((Below.refl _ _).alloc (Nat.le_refl _) (.cells #[.int .i64 base, .complex .f64 (fi W) (fi P)] 86)).alloc (by simp) (.cells #[.int .i64 0, .complex .f64 0 0] 86)).trans (Below.mono ⟨hd2.os, hd2.tape, hd2.output, hd2.size, hd2.block⟩ (by simp; omega))
    exact (h1.setCell (p := ⟨w.heap.size + 1, 0, none⟩) (by simp) _).setCell (p := ⟨w.heap.size + 1, 1, none⟩) (by simp) _
end Go.Proofs.Ytggcbeoinmnopaa.Mo

/- The walks of package moment: gap, from another base on, joined. -/
import Derived.Test.YtjddoohlmgacjaaMoB
import Derived.Deep.RegionHeld3
namespace Go.Proofs.Ytjddoohlmgacjaa.Mo
open Go.RowKit Go.Proofs.Ytjddoohlmgacjaa.Kit Go.Proofs.Ytjddoohlmgacjaa.Flo Go.IntWalk
set_option linter.unusedVariables false
set_option linter.unusedSimpArgs false
theorem one_block2 (w w0 w1 : World) (a b : Value) (hd : Below w0.heap.size w0 w1) (h0 : w0.heap = (w.alloc (.cells #[a, b] 27)).heap) :
    w1.cell? ⟨w.heap.size, 0, none⟩ = some a ∧ w1.cell? ⟨w.heap.size, 1, none⟩ = some b := by
  have e0 : w0.heap[w.heap.size]? = some (.cells #[a, b] 27 (0, 0)) := by
    rw [h0]
    exact blk_new w (.cells #[a, b] 27)
  have f0 := blk_below e0 hd
  exact ⟨(blk_cell f0 0).trans rfl, (blk_cell f0 1).trans rfl⟩
theorem hid_below {w w1 w2 : World} (h : Hid (Below w.heap.size w w1)) (hd : Below w1.heap.size w1 w2) : Hid (Below w.heap.size w w2) := Kit.hid (h.out.trans (hd.mono h.out.size))
set_option maxHeartbeats 800000 in
theorem gap_any (base W P v d : Int) (w : World) (hW : small W) (hP : small P) (hd : v - base = d) (hds : small d) (hWd : W.natAbs * d.natAbs < 4611686018427387904) :
    Calls Try.prog 16 #[mo base W P, .int .i64 v] w (ValPost w (.int .i64 (P - W * d))) := by
  have HWt := Kit.hid (fun w' => weight_any base W (fi P) w' hW)
  have hc := conv_int P hP
  have hm : (W * d).natAbs < 4611686018427387904 := by rw [Int.natAbs_mul]; exact hWd
  have r1 : IntKind.i64.wrap (v - base) = d := by rw [hd]; exact i64_in d (by omega)
  have r2 : IntKind.i64.wrap (W * d) = W * d := i64_in _ (by omega)
  have r3 : IntKind.i64.wrap (P - W * d) = P - W * d := i64_in _ (by omega)
  have HB := Kit.hid (one_block2 w)
  unfold mo
  clear hm hd hds hWd hW hP
  go_enter Try.func16, Try.ntmps16
  go_wp2_with fail
  go_region_held3 (fun w' => w'.cell? ⟨w.heap.size, 0, none⟩ = some (.int .i64 base) ∧ w'.cell? ⟨w.heap.size, 1, none⟩ = some (.complex .f64 (fi W) (fi P)) ∧ Hid (Below w.heap.size w w'))
    (first
      | (go_split_ands; exact ⟨by assumption, by assumption, by assumption⟩)
      | (refine ⟨by simp, by simp, Kit.hid (((Below.refl _ _).alloc (Nat.le_refl _) _).drew)⟩)
      | (go_split_ands
         exact ⟨(hd2.cell (cell_lt (by assumption))).trans (by assumption), (hd2.cell (cell_lt (by assumption))).trans (by assumption), hid_below (by assumption) hd2⟩))
    (first | (go_at_call 14; refine (HWt.out _).mono ?_; rintro e w2 ⟨rfl, hd2⟩))
  all_goals
    go_wp2_with fail
    go_ret
    have hb : w2.cell? ⟨w.heap.size, 0, none⟩ = some (.int .i64 base) ∧ w2.cell? ⟨w.heap.size, 1, none⟩ = some (.complex .f64 (fi W) (fi P)) ∧ Hid (Below w.heap.size w w2) := by assumption
    exact ⟨rfl, hb.2.2.out⟩
theorem mul_run (t : TypeId) (x y r : Nat) (h : floatBits .mul .f64 x y = some r) (w : World) : (binOp .mul t (.float .f64 x) (.float .f64 y)).run Try.prog w = .ok (.float .f64 r) w := run_float_arith w .mul t .f64 x y r h
set_option maxHeartbeats 800000 in
theorem shift_any (base W P to_ k : Int) (w : World) (hW : small W) (hP : small P) (hk : base - to_ = k) (hks : small k) (hkW : k.natAbs * W.natAbs < 9007199254740992) (hP2 : small (P + k * W)) :
    Calls Try.prog 24 #[mo base W P, .int .i64 to_] w (ValPost w (mo to_ W (P + k * W))) := by
  have hst := store_complex
  have hm := fun t => mul_run t _ _ _ (mul_fi k W hks hW hkW)
  obtain ⟨x, hx⟩ : ∃ x, x = bf (decide (k < 0) ^^ decide (W < 0)) (k.natAbs * W.natAbs) := ⟨_, rfl⟩
  have hs := fun w' : World => run_complex_sum (P := Try.prog) w' .add (.inl rfl) 25 .f64 _ _ _ _ _ _ (csum_shift W P k W hW hP hkW hP2 x hx)
  rw [← hx] at hm
  have r1 : IntKind.i64.wrap (base - to_) = k := by rw [hk]; exact i64_in k (by omega)
  have r2 : wrap64 (base - to_) = k := by rw [hk]; unfold wrap64; omega
  have hf := floatOfInt_fi
  unfold mo
  clear hk hks hkW hP2 hW hP hx
  go_enter Try.func24, Try.ntmps24
  go_wp2_with fail
  exact mo_ret rfl (w.heap.size + 1) _ _ rfl (heap_alloc2_new _ _ _) rfl ⟨rfl, ((Below.refl _ _).alloc (Nat.le_refl _) _).alloc (by simp) _⟩
end Go.Proofs.Ytjddoohlmgacjaa.Mo

/- The walk of package moment: two sums joined. -/
import Derived.Test.YtjddoohlmgacjaaMoC
namespace Go.Proofs.Ytjddoohlmgacjaa.Mo
open Go.RowKit Go.Proofs.Ytjddoohlmgacjaa.Kit Go.Proofs.Ytjddoohlmgacjaa.Flo Go.IntWalk
set_option linter.unusedVariables false
set_option linter.unusedSimpArgs false
theorem three_blocks (w w1 w2 : World) (a b a' b' c d : Value) (hd : Below w1.heap.size w1 w2) (h1 : w1.heap = (((w.alloc (.cells #[a, b] 27)).alloc (.cells #[a', b'] 27)).alloc (.cells #[c, d] 27)).heap) :
    w2.cell? ⟨w.heap.size, 0, none⟩ = some a ∧ w2.cell? ⟨w.heap.size, 1, none⟩ = some b ∧ w2.heap[w.heap.size + 2]? = some (.cells #[c, d] 27 (0, 0)) ∧ w.heap.size + 3 ≤ w2.heap.size := by
  have e0 : w1.heap[w.heap.size]? = some (.cells #[a, b] 27 (0, 0)) := by
    rw [h1]
    exact blk_alloc (blk_alloc (blk_new w (.cells #[a, b] 27)) _) _
  have e1 : w1.heap[w.heap.size + 2]? = some (.cells #[c, d] 27 (0, 0)) := by
    rw [h1]
    have h := blk_new ((w.alloc (.cells #[a, b] 27)).alloc (.cells #[a', b'] 27)) (.cells #[c, d] 27)
    simpa using h
  have f0 := blk_below e0 hd
  have f1 := blk_below e1 hd
  refine ⟨(blk_cell f0 0).trans rfl, (blk_cell f0 1).trans rfl, f1, ?_⟩
  have := blk_lt f1
  omega
theorem field_sum (u : Value) (re im : Nat) (w : World) : (Instr.field 27 (.agg #[u, .complex .f64 re im]) 1).run Try.prog w = .ok (.complex .f64 re im) w := by
  simp [Instr.field, run_underlying Try.underlying27, asAgg, go_sem]
set_option maxHeartbeats 8000000 in
theorem join_any (base W P base2 W2 P2 k : Int) (w : World) (hW : small W) (hP : small P) (hW2 : small W2) (hP2 : small P2) (hk : base2 - base = k) (hks : small k) (hkW : k.natAbs * W2.natAbs < 9007199254740992) (hPk : small (P2 + k * W2)) (hWW : small (W + W2)) (hPP : small (P + (P2 + k * W2))) :
    Calls Try.prog 25 #[mo base W P, mo base2 W2 P2] w (ValPost w (mo base (W + W2) (P + (P2 + k * W2)))) := by
  have HS := Kit.hid (fun w' => shift_any base2 W2 P2 base k w' hW2 hP2 hk hks hkW hPk)
  have hs := fun w' : World => run_complex_sum (P := Try.prog) w' .add (.inl rfl) 25 .f64 _ _ _ _ _ _ (csum_add W P W2 (P2 + k * W2) hW hP hW2 hPk hWW hPP)
  clear hk hks hkW hP2 hW hP hW2 hPk hWW hPP
  unfold mo at HS ⊢
  have hst := store_complex
  have hfs := field_sum
  have HB := Kit.hid (three_blocks w)
  go_enter Try.func25, Try.ntmps25
  go_wp2_with fail
  go_region_with (go_at_call 24; refine (HS.out _).mono ?_; rintro e w2 ⟨rfl, hd2⟩; obtain ⟨c0, c1, b1, hsz⟩ := HB.out _ w2 (.int .i64 base) (.complex .f64 (fi W) (fi P)) (.int .i64 base2) (.complex .f64 (fi W2) (fi P2)) (.int .i64 0) (.complex .f64 0 0) hd2 rfl; obtain ⟨d0, d1, z0, z1, d2, z2⟩ := own_block b1 (.int .i64 base); obtain ⟨k0, k1, k2⟩ := own_done b1 (.int .i64 base) (.complex .f64 (fi (W + W2)) (fi (P + (P2 + k * W2)))); have K2 := Kit.hid k2; clear k2)
  all_goals
    go_wp2_with fail
    refine mo_ret rfl (w.heap.size + 2) _ _ rfl K2.out rfl ⟨rfl, ?_⟩
    have h1 : Below w.heap.size w w2 := ((((Below.refl _ _).alloc (Nat.le_refl _) (.cells #[.int .i64 base, .complex .f64 (fi W) (fi P)] 27)).alloc (by simp) (.cells #[.int .i64 base2, .complex .f64 (fi W2) (fi P2)] 27)).alloc (by simp; omega) (.cells #[.int .i64 0, .complex .f64 0 0] 27)).trans (Below.mono ⟨hd2.os, hd2.tape, hd2.output, hd2.size, hd2.block⟩ (by simp; omega))
    exact (h1.setCell (p := ⟨w.heap.size + 2, 0, none⟩) (by simp) _).setCell (p := ⟨w.heap.size + 2, 1, none⟩) (by simp) _
end Go.Proofs.Ytjddoohlmgacjaa.Mo

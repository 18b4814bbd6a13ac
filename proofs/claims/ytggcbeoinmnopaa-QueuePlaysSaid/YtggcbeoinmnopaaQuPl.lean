/- The law QueuePlays; the walk of doc, one thing that is done in the document's queue. -/
import Derived.Test.YtggcbeoinmnopaaQuZz
namespace Go.Proofs.Ytggcbeoinmnopaa.Qu
open Go.RowKit Go.Proofs.Ytggcbeoinmnopaa.Kit Go.Proofs.Ytggcbeoinmnopaa.ShM Go.Proofs.Ytggcbeoinmnopaa.Sh Go.Proofs.Ytggcbeoinmnopaa.QuM
set_option linter.unusedVariables false
set_option linter.unusedSimpArgs false
section
variable {w w' : World} {q : Nat} {l L : List Mem} {base : Int}
theorem doc_fin {W1 w2 : World} {l' L' : List Mem} {b' : Int} {n : Nat} {x0 x1 x2 x3 : Value} (hb : Below w.heap.size w W1) (hg : W1.grownBy w2 (some q)) (hr : w2.heap[w.heap.size + 1]? = some (.cells #[x0, x1, x2, x3] 32 (0, 0))) (h : RQ w2 q l' L' b') (hl : l'.length ≤ n) (a b c d : Value) :
    ∃ l'', RQ ((((w2.setCell ⟨w.heap.size + 1, 0, none⟩ a).setCell ⟨w.heap.size + 1, 1, none⟩ b).setCell ⟨w.heap.size + 1, 2, none⟩ c).setCell ⟨w.heap.size + 1, 3, none⟩ d) q l'' L' b' ∧ l''.length ≤ n ∧ w.grownBy ((((w2.setCell ⟨w.heap.size + 1, 0, none⟩ a).setCell ⟨w.heap.size + 1, 1, none⟩ b).setCell ⟨w.heap.size + 1, 2, none⟩ c).setCell ⟨w.heap.size + 1, 3, none⟩ d) (some q) :=
  ⟨l', h.kept4 hr, hl, grown_new (g := w.heap.size + 1) (grown_trans (grown_below q hb) hg) (grown_trans (grown_trans (grown_trans (grown_cell _ _ _ _) (grown_cell _ _ _ _)) (grown_cell _ _ _ _)) (grown_cell _ _ _ _)) (Nat.le_succ _)⟩
theorem RQ.qlt (h : RQ w q l L base) : q < w.heap.size := by
  obtain ⟨A, c, hq, _⟩ := h.look
  exact blk_lt hq
set_option maxRecDepth 8000 in
set_option maxHeartbeats 3200000 in
theorem doc_any (o : QOp) (h : RQ w q l L base) (hl : l.length < 200) :
    Calls Try.prog 22 #[.pointer (some ⟨q, 0, none⟩), .agg #[.int .i64 o.d, .int .i64 o.m.id, .int .i64 o.m.wt, .int .i64 o.m.v, .int .i64 o.m.rem, .int .i64 o.n]] w fun e w' => e = .returned (.tuple #[gv (doR L base o).1 base, .int .i64 (doR L base o).2.1]) ∧ ∃ l', RQ w' q l' (stL (doR L base o)) (stB (doR L base o)) ∧ l'.length ≤ l.length + 1 ∧ w.grownBy w' (some q) := by
  have HQ := Kit.hid h
  have HQL := Kit.hid h.qlt
  have HQB := Kit.hid h.2.2.2.1
  have hbb : Below w.heap.size w ((w.alloc (.cells #[.int .i64 o.d, .int .i64 o.m.id, .int .i64 o.m.wt, .int .i64 o.m.v, .int .i64 o.m.rem, .int .i64 o.n] 43)).alloc (.cells #[.int .i64 0, .int .i64 0, .int .i64 0, .int .i64 0] 32)) := ((Below.refl _ _).alloc (Nat.le_refl _) _).alloc (by simp) _
  have hox : ((w.alloc (.cells #[.int .i64 o.d, .int .i64 o.m.id, .int .i64 o.m.wt, .int .i64 o.m.v, .int .i64 o.m.rem, .int .i64 o.n] 43)).alloc (.cells #[.int .i64 0, .int .i64 0, .int .i64 0, .int .i64 0] 32)).heap[w.heap.size]? = some (.cells #[.int .i64 o.d, .int .i64 o.m.id, .int .i64 o.m.wt, .int .i64 o.m.v, .int .i64 o.m.rem, .int .i64 o.n] 43 (0, 0)) := blk_alloc (blk_new _ _) _
  have hrx : ((w.alloc (.cells #[.int .i64 o.d, .int .i64 o.m.id, .int .i64 o.m.wt, .int .i64 o.m.v, .int .i64 o.m.rem, .int .i64 o.n] 43)).alloc (.cells #[.int .i64 0, .int .i64 0, .int .i64 0, .int .i64 0] 32)).heap[w.heap.size + 1]? = some (.cells #[.int .i64 0, .int .i64 0, .int .i64 0, .int .i64 0] 32 (0, 0)) := by
    have := blk_new (w.alloc (.cells #[.int .i64 o.d, .int .i64 o.m.id, .int .i64 o.m.wt, .int .i64 o.m.v, .int .i64 o.m.rem, .int .i64 o.n] 43)) (.cells #[.int .i64 0, .int .i64 0, .int .i64 0, .int .i64 0] 32)
    simpa using this
  clear h
  go_enter Try.func22, Try.ntmps22
  go_wp2_with fail
  all_goals
    generalize (w.alloc (.cells #[.int .i64 o.d, .int .i64 o.m.id, .int .i64 o.m.wt, .int .i64 o.m.v, .int .i64 o.m.rem, .int .i64 o.n] 43)).alloc (.cells #[.int .i64 0, .int .i64 0, .int .i64 0, .int .i64 0] 32) = W1 at hbb hox hrx ⊢
    have HB1 := Kit.hid hbb
    have HO1 := Kit.hid hox
    have HR1 := Kit.hid hrx
    have o0 := blk_cell hox 0
    have o1 := blk_cell hox 1
    have o2 := blk_cell hox 2
    have o3 := blk_cell hox 3
    have o4 := blk_cell hox 4
    have o5 := blk_cell hox 5
    have lo := blk_lt hox
    have HLR := Kit.hid (blk_lt hrx)
    have HQ1 := Kit.hid (HQ.out.below HB1.out)
    have HRK : Hid (∀ w', W1.grownBy w' (some q) → w'.heap[w.heap.size + 1]? = some (.cells #[.int .i64 0, .int .i64 0, .int .i64 0, .int .i64 0] 32 (0, 0))) := Kit.hid (fun w' hk => (hk.block _ HLR.out (fun e => by have := HQL.out; have := Option.some.inj e; omega)).trans HR1.out)
    clear hbb hox hrx
  · have e1 : (o.d == 1) = true := by assumption
    have d1 := beq_iff_eq.1 e1
    have HD : Hid (doR L base o = (none, joinC o.m L base, joinL o.m L base, base)) := Kit.hid (by unfold doR; rw [if_pos d1])
    have HJ := Kit.hid (rqjoin_any HQ1.out hl o.m)
    (with_reducible refine HJ.out.mono ?_); rintro e w2 ⟨rfl, l', hq2, hl2, hg2⟩
    have HQ2 := Kit.hid hq2
    have HG2 := Kit.hid hg2
    have HL2 := Kit.hid hl2
    have HR2 := Kit.hid (HRK.out _ hg2)
    clear hq2 hg2 hl2 o0 o1 o2 o3 o4 o5 lo HJ
    have r0 := blk_cell HR2.out 0
    have r1 := blk_cell HR2.out 1
    have r2 := blk_cell HR2.out 2
    have r3 := blk_cell HR2.out 3
    have f0 := blk_frozen HR2.out 0
    have f1 := blk_frozen HR2.out 1
    have f2 := blk_frozen HR2.out 2
    have f3 := blk_frozen HR2.out 3
    have lr := blk_lt HR2.out
    go_wp2
    exact cell_tmp_ret rfl (w.heap.size + 1) _ _ _ _ rfl rfl (mem_store HR2.out) rfl ⟨by rw [HD.out]; rfl, by rw [HD.out]; exact doc_fin HB1.out HG2.out HR2.out HQ2.out HL2.out _ _ _ _⟩
  · have e1 : (o.d == 1) = false := by assumption
    have n1 := beq_eq_false_iff_ne.1 e1
    have e2 : (o.d == 2) = true := by assumption
    have d2 := beq_iff_eq.1 e2
    have HD : Hid (doR L base o = (get L o.m.id, (if (get L o.m.id).isSome = true then 0 else 8), del L o.m.id, base)) := Kit.hid (by unfold doR; rw [if_neg n1]; rw [if_pos d2])
    have HJ := Kit.hid (rqleave_any HQ1.out o.m.id)
    obtain ⟨a0, a1, a2, a3, hgv⟩ : ∃ a0 a1 a2 a3 : Int, gv (get L o.m.id) base = .agg #[.int .i64 a0, .int .i64 a1, .int .i64 a2, .int .i64 a3] := by
      cases get L o.m.id with
      | none => exact ⟨_, _, _, _, rfl⟩
      | some y => exact ⟨_, _, _, _, rfl⟩
    rw [hgv] at HJ
    have HGV := Kit.hid hgv
    obtain ⟨cd, hcd⟩ : ∃ cd : Int, cd = (if (get L o.m.id).isSome = true then 0 else 8) := ⟨_, rfl⟩
    rw [← hcd] at HJ HD
    clear hgv hcd
    (with_reducible refine HJ.out.mono ?_); rintro e w2 ⟨rfl, l', hq2, hl2, hg2⟩
    have HQ2 := Kit.hid hq2
    have HG2 := Kit.hid hg2
    have HL2 := Kit.hid hl2
    have hr2 := HRK.out _ hg2
    have HR2 := Kit.hid hr2
    clear hq2 hg2 hl2 o0 o1 o2 o3 o4 o5 lo HJ
    have r0 := blk_cell hr2 0
    have r1 := blk_cell hr2 1
    have r2 := blk_cell hr2 2
    have r3 := blk_cell hr2 3
    have f0 := blk_frozen hr2 0
    have f1 := blk_frozen hr2 1
    have f2 := blk_frozen hr2 2
    have f3 := blk_frozen hr2 3
    have lr := blk_lt hr2
    clear hr2
    go_wp2
    exact cell_tmp_ret rfl (w.heap.size + 1) _ _ _ _ rfl rfl (blk_alloc (mem_store HR2.out) _) rfl ⟨by rw [HD.out]; show _ = Ending.returned (.tuple #[gv (get L o.m.id) base, _]); rw [HGV.out]; rfl, by
      rw [HD.out]
      obtain ⟨l2, k1, k2, k3⟩ := doc_fin HB1.out HG2.out HR2.out HQ2.out HL2.out (.int .i64 a0) (.int .i64 a1) (.int .i64 a2) (.int .i64 a3)
      have hba := (Below.refl _ ((((w2.setCell ⟨w.heap.size + 1, 0, none⟩ (.int .i64 a0)).setCell ⟨w.heap.size + 1, 1, none⟩ (.int .i64 a1)).setCell ⟨w.heap.size + 1, 2, none⟩ (.int .i64 a2)).setCell ⟨w.heap.size + 1, 3, none⟩ (.int .i64 a3))).alloc (Nat.le_refl _) (.cells #[.int .i64 a0, .int .i64 a1, .int .i64 a2, .int .i64 a3] 32)
      exact ⟨l2, k1.below hba, k2, grown_trans k3 (grown_below q hba)⟩⟩
  · have e1 : (o.d == 1) = false := by assumption
    have n1 := beq_eq_false_iff_ne.1 e1
    have e2 : (o.d == 2) = false := by assumption
    have n2 := beq_eq_false_iff_ne.1 e2
    have e3 : (o.d == 3) = true := by assumption
    have d3 := beq_iff_eq.1 e3
    have HD : Hid (doR L base o = (none, runR L base o.m.id o.n)) := Kit.hid (by unfold doR; rw [if_neg n1]; rw [if_neg n2]; rw [if_pos d3])
    have HJ := Kit.hid (rqrun_any HQ1.out o.m.id o.n)
    (with_reducible refine HJ.out.mono ?_); rintro e w2 ⟨rfl, l', hq2, hl2, hg2⟩
    have HQ2 := Kit.hid hq2
    have HG2 := Kit.hid hg2
    have HL2 := Kit.hid hl2
    have HR2 := Kit.hid (HRK.out _ hg2)
    clear hq2 hg2 hl2 o0 o1 o2 o3 o4 o5 lo HJ
    have r0 := blk_cell HR2.out 0
    have r1 := blk_cell HR2.out 1
    have r2 := blk_cell HR2.out 2
    have r3 := blk_cell HR2.out 3
    have f0 := blk_frozen HR2.out 0
    have f1 := blk_frozen HR2.out 1
    have f2 := blk_frozen HR2.out 2
    have f3 := blk_frozen HR2.out 3
    have lr := blk_lt HR2.out
    go_wp2
    exact cell_tmp_ret rfl (w.heap.size + 1) _ _ _ _ rfl rfl (mem_store HR2.out) rfl ⟨by rw [HD.out]; rfl, by rw [HD.out]; exact doc_fin HB1.out HG2.out HR2.out HQ2.out HL2.out _ _ _ _⟩
  · have e1 : (o.d == 1) = false := by assumption
    have n1 := beq_eq_false_iff_ne.1 e1
    have e2 : (o.d == 2) = false := by assumption
    have n2 := beq_eq_false_iff_ne.1 e2
    have e3 : (o.d == 3) = false := by assumption
    have n3 := beq_eq_false_iff_ne.1 e3
    have e4 : (o.d == 4) = true := by assumption
    have d4 := beq_iff_eq.1 e4
    have HD : Hid (doR L base o = (none, (weighR L o.m.id o.n).1, (weighR L o.m.id o.n).2, base)) := Kit.hid (by unfold doR; rw [if_neg n1]; rw [if_neg n2]; rw [if_neg n3]; rw [if_pos d4])
    have HJ := Kit.hid (rqweigh_any HQ1.out o.m.id o.n)
    (with_reducible refine HJ.out.mono ?_); rintro e w2 ⟨rfl, l', hq2, hl2, hg2⟩
    have HQ2 := Kit.hid hq2
    have HG2 := Kit.hid hg2
    have HL2 := Kit.hid hl2
    have HR2 := Kit.hid (HRK.out _ hg2)
    clear hq2 hg2 hl2 o0 o1 o2 o3 o4 o5 lo HJ
    have r0 := blk_cell HR2.out 0
    have r1 := blk_cell HR2.out 1
    have r2 := blk_cell HR2.out 2
    have r3 := blk_cell HR2.out 3
    have f0 := blk_frozen HR2.out 0
    have f1 := blk_frozen HR2.out 1
    have f2 := blk_frozen HR2.out 2
    have f3 := blk_frozen HR2.out 3
    have lr := blk_lt HR2.out
    go_wp2
    exact cell_tmp_ret rfl (w.heap.size + 1) _ _ _ _ rfl rfl (mem_store HR2.out) rfl ⟨by rw [HD.out]; rfl, by rw [HD.out]; exact doc_fin HB1.out HG2.out HR2.out HQ2.out HL2.out _ _ _ _⟩
  · have e1 : (o.d == 1) = false := by assumption
    have n1 := beq_eq_false_iff_ne.1 e1
    have e2 : (o.d == 2) = false := by assumption
    have n2 := beq_eq_false_iff_ne.1 e2
    have e3 : (o.d == 3) = false := by assumption
    have n3 := beq_eq_false_iff_ne.1 e3
    have e4 : (o.d == 4) = false := by assumption
    have n4 := beq_eq_false_iff_ne.1 e4
    have e5 : (o.d == 5) = true := by assumption
    have d5 := beq_iff_eq.1 e5
    have HD0 : Hid (doR L base o = match L with | [] => (none, 0, L, base) | x :: _ => (some x, runR L base x.id 1)) := Kit.hid (by unfold doR; rw [if_neg n1, if_neg n2, if_neg n3, if_neg n4, if_pos d5]; cases L <;> rfl)
    have HJ := Kit.hid (rqall_any HQ1.out)
    (with_reducible refine HJ.out.mono ?_); rintro e w2 ⟨v, rfl, hv, hb2⟩
    obtain ⟨A2, c2, rfl, hc2, hn2, hA2⟩ := own_readsS (by decide) hv
    have HB2 := Kit.hid hb2
    have hr2 := (hb2.block _ HLR.out).trans HR1.out
    have HR2 := Kit.hid hr2
    have HQ2 := Kit.hid (HQ1.out.below hb2)
    have HG2 := Kit.hid (grown_below q hb2)
    have HL2 : Hid (l.length ≤ l.length + 1) := Kit.hid (Nat.le_succ _)
    clear o0 o1 o2 o3 o4 o5 lo HJ hv
    cases L with
    | nil =>
      have HD : Hid (doR [] base o = (none, 0, [], base)) := HD0
      have r0 := blk_cell hr2 0
      have r1 := blk_cell hr2 1
      have r2 := blk_cell hr2 2
      have r3 := blk_cell hr2 3
      have f0 := blk_frozen hr2 0
      have f1 := blk_frozen hr2 1
      have f2 := blk_frozen hr2 2
      have f3 := blk_frozen hr2 3
      have lr := blk_lt hr2
      clear hr2 hb2 hc2 hn2 hA2
      go_wp2
      exact cell_tmp_ret rfl (w.heap.size + 1) _ _ _ _ rfl rfl (mem_store HR2.out) rfl ⟨by rw [HD.out]; rfl, by rw [HD.out]; exact doc_fin HB1.out HG2.out HR2.out HQ2.out HL2.out _ _ _ _⟩
    | cons x T =>
      have HD : Hid (doR (x :: T) base o = (some x, runR (x :: T) base x.id 1)) := HD0
      have hxb := HQB.out.each x (by simp)
      rcases hA2 with ⟨_, h0, _⟩ | ⟨ga, rfl, hg1, hg2⟩
      · simp at h0
      have hcell : ∀ i, (hi : i < (flatM base (x :: T)).length) → w2.cell? (Addr.add ⟨ga, 0, none⟩ i) = some ((flatM base (x :: T))[i]) := fun i hi => by
        obtain ⟨ad, e, hc⟩ := hc2 i hi
        cases e
        exact hc
      have hx0 : w2.cell? ⟨ga, 0, none⟩ = some (.int .i64 x.id) := hcell 0 (by simp [flatM])
      have hx1 : w2.cell? ⟨ga, 1, none⟩ = some (.int .i64 x.wt) := hcell 1 (by simp [flatM])
      have hx2 : w2.cell? ⟨ga, 2, none⟩ = some (.int .i64 (x.v - base)) := hcell 2 (by simp [flatM])
      have hx3 : w2.cell? ⟨ga, 3, none⟩ = some (.int .i64 x.rem) := hcell 3 (by simp [flatM])
      have HS5 : Hid (∀ w' : World, w'.heap[ga]? = w2.heap[ga]? → w'.cell? ⟨ga, 0, none⟩ = some (.int .i64 x.id) ∧ w'.cell? ⟨ga, 1, none⟩ = some (.int .i64 x.wt) ∧ w'.cell? ⟨ga, 2, none⟩ = some (.int .i64 (x.v - base)) ∧ w'.cell? ⟨ga, 3, none⟩ = some (.int .i64 x.rem)) := Kit.hid (fun w' h => ⟨(cell_blk h).trans hx0, (cell_blk h).trans hx1, (cell_blk h).trans hx2, (cell_blk h).trans hx3⟩)
      have HGA : Hid (W1.heap.size ≤ ga ∧ ga < w2.heap.size) := Kit.hid ⟨hg1, hg2⟩
      have HRN : Hid (∀ w', RQ w' q l (x :: T) base → Calls Try.prog 40 #[.pointer (some ⟨q, 0, none⟩), .int .i64 x.id, .int .i64 1] w' (RQPost q l (runR (x :: T) base x.id 1).1 (runR (x :: T) base x.id 1).2.1 (runR (x :: T) base x.id 1).2.2 w')) := Kit.hid (fun w' h => rqrun_any h x.id 1)
      have hlen : ((x :: T).length : Int) > 0 := by simp
      clear hcell hx0 hx1 hx2 hx3 hc2 hn2 hg1 hg2 hxb hr2 hb2 HD0
      go_wp2_with fail
      refine wp_region_noPanic ?_
      refine wp_region_held_drew (S := fun (w' : World) => w'.heap[ga]? = w2.heap[ga]?) (by kernel_rfl) rfl (fun hHeld => ?_)
      refine wpAnyH_take (i := 0) (hi := by simp only [List.getElem?_toArray, List.getElem?_cons_succ, List.getElem?_cons_zero]; rfl) (v := ?_) (by kernel_rfl) (by kernel_rfl) (by kernel_rfl) (fun _ _ _ h => h) (Or.inl ⟨by rfl, ?_⟩) (by assumption) ?_
      rotate_left
      · (intro w hSw; (try dsimp only at hSw); go_simp; first | done | with_reducible rfl)
      try simp only [Act.put, List.setIfInBounds_toArray, List.set_cons_zero, List.set_cons_succ]
      refine wpAnyH_take (i := 1) (hi := by simp only [List.getElem?_toArray, List.getElem?_cons_succ, List.getElem?_cons_zero]; rfl) (v := ?_) (by kernel_rfl) (by kernel_rfl) (by kernel_rfl) (fun _ _ _ h => h) (Or.inl ⟨by rfl, ?_⟩) (by assumption) ?_
      rotate_left
      · (intro w hSw; (try dsimp only at hSw); (obtain ⟨z0, z1, z2, z3⟩ := HS5.out _ hSw); go_simp; first | done | with_reducible rfl)
      try simp only [Act.put, List.setIfInBounds_toArray, List.set_cons_zero, List.set_cons_succ]
      refine wpAnyH_take (i := 2) (hi := by simp only [List.getElem?_toArray, List.getElem?_cons_succ, List.getElem?_cons_zero]; rfl) (v := ?_) (by kernel_rfl) (by kernel_rfl) (by kernel_rfl) (fun _ _ _ h => h) (Or.inl ⟨by rfl, ?_⟩) (by assumption) ?_
      rotate_left
      · (intro w hSw; (try dsimp only at hSw); (obtain ⟨z0, z1, z2, z3⟩ := HS5.out _ hSw); go_simp; first | done | with_reducible rfl)
      try simp only [Act.put, List.setIfInBounds_toArray, List.set_cons_zero, List.set_cons_succ]
      refine wpAnyH_take (i := 3) (hi := by simp only [List.getElem?_toArray, List.getElem?_cons_succ, List.getElem?_cons_zero]; rfl) (v := ?_) (by kernel_rfl) (by kernel_rfl) (by kernel_rfl) (fun _ _ _ h => h) (Or.inl ⟨by rfl, ?_⟩) (by assumption) ?_
      rotate_left
      · (intro w hSw; (try dsimp only at hSw); go_simp; first | done | with_reducible rfl)
      try simp only [Act.put, List.setIfInBounds_toArray, List.set_cons_zero, List.set_cons_succ]
      refine wpAnyH_take (i := 4) (hi := by simp only [List.getElem?_toArray, List.getElem?_cons_succ, List.getElem?_cons_zero]; rfl) (v := ?_) (by kernel_rfl) (by kernel_rfl) (by kernel_rfl) (fun _ _ _ h => h) (Or.inl ⟨by rfl, ?_⟩) (by assumption) ?_
      rotate_left
      · (intro w hSw; (try dsimp only at hSw); go_simp; first | done | with_reducible rfl)
      try simp only [Act.put, List.setIfInBounds_toArray, List.set_cons_zero, List.set_cons_succ]
      refine wpAnyH_take (i := 5) (hi := by simp only [List.getElem?_toArray, List.getElem?_cons_succ, List.getElem?_cons_zero]; rfl) (v := ?_) (by kernel_rfl) (by kernel_rfl) (by kernel_rfl) (fun _ _ _ h => h) (Or.inl ⟨by rfl, ?_⟩) (by assumption) ?_
      rotate_left
      · (intro w hSw; (try dsimp only at hSw); (obtain ⟨z0, z1, z2, z3⟩ := HS5.out _ hSw); go_simp; first | done | with_reducible rfl)
      try simp only [Act.put, List.setIfInBounds_toArray, List.set_cons_zero, List.set_cons_succ]
      refine wpAnyH_take (i := 6) (hi := by simp only [List.getElem?_toArray, List.getElem?_cons_succ, List.getElem?_cons_zero]; rfl) (v := ?_) (by kernel_rfl) (by kernel_rfl) (by kernel_rfl) (fun _ _ _ h => h) (Or.inl ⟨by rfl, ?_⟩) (by assumption) ?_
      rotate_left
      · (intro w hSw; (try dsimp only at hSw); go_simp; first | done | with_reducible rfl)
      try simp only [Act.put, List.setIfInBounds_toArray, List.set_cons_zero, List.set_cons_succ]
      refine wpAnyH_take (i := 7) (hi := by simp only [List.getElem?_toArray, List.getElem?_cons_succ, List.getElem?_cons_zero]; rfl) (v := ?_) (by kernel_rfl) (by kernel_rfl) (by kernel_rfl) (fun _ _ _ h => h) (Or.inl ⟨by rfl, ?_⟩) (by assumption) ?_
      rotate_left
      · (intro w hSw; (try dsimp only at hSw); (obtain ⟨z0, z1, z2, z3⟩ := HS5.out _ hSw); go_simp; first | done | with_reducible rfl)
      try simp only [Act.put, List.setIfInBounds_toArray, List.set_cons_zero, List.set_cons_succ]
      refine wpAnyH_ready (rs := [8]) (by kernel_rfl) (by simp) ?_
      refine AllReadyH.cons (ho := by simp only [List.getElem?_toArray, List.getElem?_cons_succ, List.getElem?_cons_zero]; rfl) (fun K hK => ?_) (AllReadyH.nil)
      go_simp
      go_at_call 40; (with_reducible refine (HRN.out _ (HQ2.out.below (Below.refl _ w2).drew)).mono ?_); rintro e w4 ⟨rfl, l4, hq4, hl4, hg4⟩
      have HQ4 := Kit.hid hq4
      have HL4 := Kit.hid hl4
      have HK4 := Kit.hid hg4
      have HG4 := Kit.hid (grown_trans HG2.out (grown_trans (grown_below q (Below.refl _ w2).drew) hg4))
      have hr4 := HRK.out _ HG4.out
      have HR4 := Kit.hid hr4
      have r0 := blk_cell hr4 0
      have r1 := blk_cell hr4 1
      have r2 := blk_cell hr4 2
      have r3 := blk_cell hr4 3
      have f0 := blk_frozen hr4 0
      have f1 := blk_frozen hr4 1
      have f2 := blk_frozen hr4 2
      have f3 := blk_frozen hr4 3
      have lr := blk_lt hr4
      clear hq4 hr4 hl4 hg4
      go_wp2_with fail
      refine hK.out _ _ ?_ (fun hHeldN => ?_)
      · exact HK4.out.block ga HGA.out.2 (fun hf => by have := HQL.out; have := HGA.out.1; have := HB1.out.size; have := Option.some.inj hf; omega)
      clear hHeld
      have hHeld := hHeldN
      clear hHeldN
      clear hK K
      try simp only [Act.put, List.setIfInBounds_toArray, List.set_cons_zero, List.set_cons_succ]
      refine wpAnyH_ready (rs := [9]) (by kernel_rfl) (by simp) ?_
      refine AllReadyH.cons (ho := by simp only [List.getElem?_toArray, List.getElem?_cons_succ, List.getElem?_cons_zero]; rfl) (fun K hK => ?_) (AllReadyH.nil)
      go_simp
      go_wp2_with fail
      refine hK.out _ _ ?_ (fun hHeldN => ?_)
      · exact (set4 (by have := HGA.out.1; have := HLR.out; omega)).trans hHeld
      clear hHeld
      have hHeld := hHeldN
      clear hHeldN
      clear hK K
      try simp only [Act.put, List.setIfInBounds_toArray, List.set_cons_zero, List.set_cons_succ]
      refine wpAnyH_take (i := 10) (hi := by simp only [List.getElem?_toArray, List.getElem?_cons_succ, List.getElem?_cons_zero]; rfl) (v := ?_) (by kernel_rfl) (by kernel_rfl) (by kernel_rfl) (fun _ _ _ h => h) (Or.inl ⟨by rfl, ?_⟩) (by assumption) ?_
      rotate_left
      · (intro w hSw; (try dsimp only at hSw); go_simp; first | done | with_reducible rfl)
      try simp only [Act.put, List.setIfInBounds_toArray, List.set_cons_zero, List.set_cons_succ]
      clear hHeld
      refine wpAnyH_done (by kernel_rfl) ?_ _
      refine NoPanic.normal ?_
      skip
      go_wp2
      exact cell_tmp_ret rfl (w.heap.size + 1) _ _ _ _ rfl rfl (mem_store HR4.out) rfl ⟨by rw [HD.out]; rfl, by rw [HD.out]; exact doc_fin HB1.out HG4.out HR4.out HQ4.out HL4.out _ _ _ _⟩
  · have e1 : (o.d == 1) = false := by assumption
    have n1 := beq_eq_false_iff_ne.1 e1
    have e2 : (o.d == 2) = false := by assumption
    have n2 := beq_eq_false_iff_ne.1 e2
    have e3 : (o.d == 3) = false := by assumption
    have n3 := beq_eq_false_iff_ne.1 e3
    have e4 : (o.d == 4) = false := by assumption
    have n4 := beq_eq_false_iff_ne.1 e4
    have e5 : (o.d == 5) = false := by assumption
    have n5 := beq_eq_false_iff_ne.1 e5
    have HD : Hid (doR L base o = (none, 0, L, base)) := Kit.hid (by unfold doR; rw [if_neg n1, if_neg n2, if_neg n3, if_neg n4, if_neg n5])
    exact cell_tmp_ret rfl (w.heap.size + 1) _ _ _ _ rfl rfl HR1.out rfl ⟨by rw [HD.out]; rfl, by rw [HD.out]; exact ⟨l, HQ1.out, Nat.le_succ _, grown_below q HB1.out⟩⟩

end
end Go.Proofs.Ytggcbeoinmnopaa.Qu
namespace Go.Proofs.Ytggcbeoinmnopaa.Qu
open Go.RowKit Go.Proofs.Ytggcbeoinmnopaa.Kit Go.Proofs.Ytggcbeoinmnopaa.ShM Go.Proofs.Ytggcbeoinmnopaa.Sh Go.Proofs.Ytggcbeoinmnopaa.QuM
set_option linter.unusedVariables false
set_option linter.unusedSimpArgs false
theorem eql_mem (a b : Mem) (w : World) : (binOp .eql 32 (.agg #[.int .i64 a.id, .int .i64 a.wt, .int .i64 a.v, .int .i64 a.rem]) (.agg #[.int .i64 b.id, .int .i64 b.wt, .int .i64 b.v, .int .i64 b.rem])).run Try.prog w = .ok (.bool (decide (a = b))) w := by
  rw [run_eql_struct, equalIn_mem]
  rfl
theorem gv_mem (o : Option Mem) (b : Int) : ∃ m : Mem, gv o b = .agg #[.int .i64 m.id, .int .i64 m.wt, .int .i64 m.v, .int .i64 m.rem] := by
  cases o with
  | none => exact ⟨⟨0, 0, 0, 0⟩, rfl⟩
  | some m => exact ⟨⟨m.id, m.wt, m.v - b, m.rem⟩, rfl⟩
/-- A queue's own blocks are of other types than the document's. -/
theorem qf_types {F : Nat → Prop} {w : World} {p n k : Nat} {L : List Mem} {base : Int} {cur : Array Value} {ty : TypeId} {fz : Nat × Nat} (h : QF F w p L base n) (hk : F k) (hb : w.heap[k]? = some (.cells cur ty fz)) : ty ≠ 90 ∧ ty ≠ 56 ∧ ty ≠ 32 := by
  obtain ⟨mb, g, S, rfl, h1, h2, h3, _⟩ := h
  rcases hk with rfl | rfl | hk
  · rw [h1] at hb
    simp at hb
    rw [← hb.2.1]
    decide
  · obtain ⟨es, clock, hm, _⟩ := h2
    rw [hm] at hb
    cases hb
  · obtain ⟨t, gl, cl, vf, Ls, Fs, rfl, hH, _⟩ := h3
    rcases hk with rfl | rfl | hk
    · rw [hH.sh.at_] at hb
      simp at hb
      rw [← hb.2.1]
      decide
    · rcases hH.sh.row.2 with ⟨e, _⟩ | ⟨g', cap, c', e, _, h5, _⟩
      · cases e
      · cases e
        rw [h5] at hb
        simp at hb
        rw [← hb.2.1]
        decide
    · rcases hH.sh.free.2 with ⟨e, _⟩ | ⟨g', cap, c', e, _, h5, _⟩
      · rw [e] at hk; cases hk
      · rw [e] at hk
        cases hk
        rw [h5] at hb
        simp at hb
        rw [← hb.2.1]
        decide
/-- A queue of the program's and the document's own one, side by side. -/
def DuoQ (W w : World) (p : Nat) (L : List Mem) (b : Int) (n q : Nat) (l K : List Mem) (c : Int) (m : Nat) : Prop :=
  ∃ F, QF F w p L b n ∧ (∀ k, F k → W.heap.size ≤ k) ∧ RQ w q l K c ∧ W.heap.size ≤ q ∧ l.length ≤ m ∧ Below W.heap.size W w
section
variable {W w w' : World} {p n n' q m : Nat} {L L' l K K' : List Mem} {b b' c c' : Int}
theorem DuoQ.below (h : DuoQ W w p L b n q l K c m) (hb : Below w.heap.size w w') : DuoQ W w' p L b n q l K c m := by
  obtain ⟨F, h1, h2, h3, h4, h5, h6⟩ := h
  exact ⟨F, h1.below hb, h2, h3.below hb, h4, h5, h6.trans (hb.mono h6.size)⟩
theorem DuoQ.to (h : DuoQ W w p L b n q l K c m) : Below W.heap.size W w := by
  obtain ⟨F, _, _, _, _, _, h⟩ := h
  exact h
theorem DuoQ.get (h : DuoQ W w p L b n q l K c m) : ∃ F, QF F w p L b n := by
  obtain ⟨F, h, _⟩ := h
  exact ⟨F, h⟩
theorem DuoQ.ref (h : DuoQ W w p L b n q l K c m) : RQ w q l K c := by
  obtain ⟨F, _, _, h, _⟩ := h
  exact h
theorem DuoQ.len (h : DuoQ W w p L b n q l K c m) : l.length ≤ m := by
  obtain ⟨F, _, _, _, _, h, _⟩ := h
  exact h
theorem DuoQ.qop {Q : Ending → Prop} {f : Nat} {args : Array Value} (h : DuoQ W w p L b n q l K c m)
    (H : ∀ F, QF F w p L b n → Calls Try.prog f args w fun e w' => Q e ∧ Qu w F w' p L' b' n') :
    Calls Try.prog f args w fun e w' => Q e ∧ DuoQ W w' p L' b' n' q l K c m := by
  obtain ⟨F, h1, h2, h3, h4, h5, h6⟩ := h
  refine (H F h1).mono fun e w' g => ⟨g.1, ?_⟩
  obtain ⟨F', g1, g2, g3⟩ := g.2
  have hk : ∀ (k : Nat) (o : Obj), w.heap[k]? = some o → (∀ cur ty fz, o = .cells cur ty fz → ty = 90 ∨ ty = 56) → (∃ cur ty fz, o = .cells cur ty fz) → w'.heap[k]? = w.heap[k]? := fun k o ho ht hc => by
    refine g3.block k (blk_lt ho) (fun hf => ?_)
    obtain ⟨cur, ty, fz, rfl⟩ := hc
    obtain ⟨t1, t2, _⟩ := qf_types h1 hf ho
    rcases ht _ _ _ rfl with e | e
    · exact t1 e
    · exact t2 e
  refine ⟨F', g1, fun k hk' => ?_, ?_, h4, h5, ?_⟩
  · rcases g2 k hk' with hk2 | hk2
    · exact h2 k hk2
    · exact Nat.le_trans h6.size hk2
  · obtain ⟨⟨v, r1, r2⟩, r3⟩ := h3
    refine ⟨⟨v, (hk q _ r1 (fun _ _ _ e => by cases e; exact .inr rfl) ⟨_, _, _, rfl⟩).trans r1, r2.1, ?_⟩, r3⟩
    rcases r2.2 with r2 | ⟨g', cap, cur, rfl, k4, k5, k6⟩
    · exact .inl r2
    · exact .inr ⟨g', cap, cur, rfl, k4, (hk g' _ k5 (fun _ _ _ e => by cases e; exact .inl rfl) ⟨_, _, _, rfl⟩).trans k5, k6⟩
  · exact ⟨g3.os.trans h6.os, g3.tape.trans h6.tape, g3.output.trans h6.output, Nat.le_trans h6.size g3.size, fun k hk => (g3.block k (Nat.lt_of_lt_of_le hk h6.size) (fun hf => by have := h2 k hf; omega)).trans (h6.block k hk)⟩
theorem DuoQ.rop {Q : Ending → Prop} {f : Nat} {args : Array Value} (h : DuoQ W w p L b n q l K c m)
    (H : Calls Try.prog f args w fun e w' => Q e ∧ ∃ l', RQ w' q l' K' c' ∧ l'.length ≤ l.length + 1 ∧ w.grownBy w' (some q)) :
    Calls Try.prog f args w fun e w' => Q e ∧ ∃ l', DuoQ W w' p L b n q l' K' c' (m + 1) ∧ w.grownBy w' (some q) := by
  obtain ⟨F, h1, h2, h3, h4, h5, h6⟩ := h
  refine H.mono fun e w' g => ?_
  obtain ⟨g1, l', g2, g3, g4⟩ := g
  refine ⟨g1, l', ⟨F, h1.kept fun k hk => g4.block k (h1.lt k hk) (fun e => ?_), h2, g2, h4, by omega, ?_⟩, g4⟩
  · obtain rfl := Option.some.inj e
    obtain ⟨A, cc, hq, _⟩ := h3.look
    exact (qf_types h1 hk hq).2.1 rfl
  · exact ⟨g4.os.trans h6.os, g4.tape.trans h6.tape, g4.output.trans h6.output, Nat.le_trans h6.size g4.size, fun k hk => (g4.block k (Nat.lt_of_lt_of_le hk h6.size) (fun e => by have := Option.some.inj e; omega)).trans (h6.block k hk)⟩
end
set_option maxRecDepth 8000 in
set_option maxHeartbeats 6400000 in
theorem playsLaw_any (A : Option Addr) (l : List QOp) (ca : Nat) (id : Int) (w : World) (hr : Hid (QRow w A l)) (hl : l.length ≤ 9223372036854775807) (hi1 : -9223372036854775808 ≤ id) (hi2 : id ≤ 9223372036854775807) :
    Calls Try.prog 8 #[.slice A l.length ca, .int .i64 id] w fun e w' => e = .returned (.bool true) ∧ Below w.heap.size w w' := by
  have HAW := Kit.hid qawake_any
  have HR := hr
  clear hr
  go_enter Try.func8, Try.ntmps8
  go_wp2_with fail
  (with_reducible refine (HAW.out w).mono ?_); rintro e w1 ⟨rfl, hd1⟩
  have HB1 := Kit.hid hd1
  have hr1 := qrow_below HR HB1.out
  clear hd1 HAW HR
  by_cases hbig : 60 < l.length
  · have g1 : (60 : Int) < (l.length : Int) := by omega
    clear hbig
    go_wp2
    go_ret
    exact ⟨rfl, HB1.out⟩
  have g1 : ¬ (60 : Int) < (l.length : Int) := by omega
  have hll : l.length ≤ 60 := by omega
  clear hbig hl
  have HN := Kit.hid (qnew_any w1)
  have HRO := hr1
  clear hr1
  go_wp2_with fail
  (with_reducible refine HN.out.mono ?_); rintro e w2 ⟨p, rfl, hp, hq2⟩
  have HD0 : Hid (DuoQ w1 (w2.alloc (.cells #[.slice none 0 0, .int .i64 0] 56)) p [] 0 1 w2.heap.size [] [] 0 0) := Kit.hid (by
    obtain ⟨F, k1, k2, k3⟩ := hq2
    have hb : Below w1.heap.size w1 w2 := k3.toBelow (fun k h => h.elim)
    exact ⟨F, k1.below ((Below.refl _ _).alloc (Nat.le_refl _) _), fun k hk => (k2 k hk).elim (fun h => h.elim) (fun h => h), ⟨⟨_, blk_new w2 _, rfl, .inl ⟨rfl, rfl⟩⟩, List.Perm.refl _, WQ.nil, QB.nil, Nat.zero_le _⟩, hb.size, Nat.le_refl _, hb.alloc hb.size _⟩)
  clear hq2 HN hp
  go_wp2_with fail
  obtain ⟨q, hq⟩ : ∃ q, q = w2.heap.size := ⟨_, rfl⟩
  rw [← hq] at HD0 ⊢
  generalize w2.alloc (.cells #[.slice none 0 0, .int .i64 0] 56) = wz at HD0 ⊢
  clear hq
  have HIB : Hid (-9223372036854775808 ≤ id ∧ id ≤ 9223372036854775807) := Kit.hid ⟨hi1, hi2⟩
  clear hi1 hi2
  go_loopw [8] (fun v8 wr => ∃ (i : Nat) (ls : List Mem), i ≤ l.length ∧ v8 = .int .i64 i ∧ Hid (DuoQ w1 wr p (walkedQ (l.take i)).1 (walkedQ (l.take i)).2 (i + 1) q ls (walkedQ (l.take i)).1 (walkedQ (l.take i)).2 i)) (fun v8 _ => l.length - (intOf v8).toNat)
  case atStart => exact ⟨0, [], by omega, rfl, HD0⟩
  case round =>
    obtain ⟨i, ls, hi, rfl, HD⟩ := hrel
    obtain ⟨hwq, hqb⟩ := walkedQ_ok (l.take i)
    have HQB := Kit.hid hqb
    clear hwq hqb
    by_cases hlt : i < l.length
    · obtain ⟨o, ho⟩ : ∃ o, l[i]? = some o := ⟨_, List.getElem?_eq_getElem hlt⟩
      have HW := Kit.hid (walkedQ_snoc l i o ho)
      have HOO := Kit.hid ho
      generalize walkedQ (l.take i) = s at HD HQB HW
      obtain ⟨L, b⟩ := s
      dsimp only at HD HQB HW
      obtain ⟨ad, hA, c0, c1, c2, c3, c4, c5, hi1, hi2⟩ := qop_at (qrow_below HRO HD.out.to) ho
      subst hA
      obtain ⟨mm, hmm⟩ := gv_mem (doR L b o).1 b
      obtain ⟨ec, hec⟩ : ∃ ec, ec = (doR L b o).2.1 := ⟨_, rfl⟩
      obtain ⟨L2, hL2⟩ : ∃ L2, L2 = stL (doR L b o) := ⟨_, rfl⟩
      obtain ⟨b2, hb2⟩ : ∃ b2, b2 = stB (doR L b o) := ⟨_, rfl⟩
      have HQB2 : Hid (QB L2 b2) := Kit.hid (by rw [hL2, hb2]; have hw := HD.out.ref.2.2.1; exact HQB.out.doR hw o)
      have HDO := Kit.hid (HD.out.qop (fun F hf => do_any o hf HQB.out (by omega) hi1 hi2))
      rw [hmm, ← hec, ← hL2, ← hb2] at HDO
      rw [← hL2, ← hb2] at HW
      have HDC : Hid (∀ w', DuoQ w1 w' p L2 b2 (i + 1 + 1) q ls L b i → Calls Try.prog 22 #[.pointer (some ⟨q, 0, none⟩), .agg #[.int .i64 o.d, .int .i64 o.m.id, .int .i64 o.m.wt, .int .i64 o.m.v, .int .i64 o.m.rem, .int .i64 o.n]] w' fun e w'' => e = .returned (.tuple #[.agg #[.int .i64 mm.id, .int .i64 mm.wt, .int .i64 mm.v, .int .i64 mm.rem], .int .i64 ec]) ∧ ∃ l', DuoQ w1 w'' p L2 b2 (i + 1 + 1) q l' L2 b2 (i + 1) ∧ w'.grownBy w'' (some q)) := Kit.hid (fun w' hd => by
        have := hd.rop (doc_any o hd.ref (by have := hd.len; omega))
        rw [hmm, ← hec, ← hL2, ← hb2] at this
        exact this)
      have hll2 : i + 1 + 1 ≤ 100 := by omega
      have HQL : Hid (∀ w' n l' K c m, DuoQ w1 w' p L2 b2 n q l' K c m → q < w'.heap.size) := Kit.hid (fun w' n l' K c m h => h.ref.qlt)
      clear ho hmm hec hL2 hb2
      go_wp2_with fail
      (with_reducible refine HDO.out.mono ?_); rintro e w3 ⟨rfl, hd3⟩
      have HD3 := Kit.hid hd3
      have HDA := Kit.hid (hd3.below ((Below.refl _ _).alloc (Nat.le_refl _) (.cells #[.int .i64 mm.id, .int .i64 mm.wt, .int .i64 mm.v, .int .i64 mm.rem] 32)))
      obtain ⟨ad', hA', d0, d1, d2, d3, d4, d5, _, _⟩ := qop_at (qrow_below HRO HDA.out.to) HOO.out
      cases hA'
      have HBA := Kit.hid (blk_new w3 (.cells #[.int .i64 mm.id, .int .i64 mm.wt, .int .i64 mm.v, .int .i64 mm.rem] 32))
      have HDC2 := Kit.hid (HDC.out _ HDA.out)
      clear hd3 HDO c0 c1 c2 c3 c4 c5
      go_wp2_with fail
      (with_reducible refine HDC2.out.mono ?_); rintro e w4 ⟨rfl, l', hd4, hg4⟩
      have hba4 : w4.heap[w3.heap.size]? = some (.cells #[.int .i64 mm.id, .int .i64 mm.wt, .int .i64 mm.v, .int .i64 mm.rem] 32 (0, 0)) := (hg4.block _ (blk_lt HBA.out) (fun e => by have := HQL.out _ _ _ _ _ _ HD3.out; have := Option.some.inj e; omega)).trans HBA.out
      have HBA4 := Kit.hid (blk_alloc hba4 (.cells #[.int .i64 mm.id, .int .i64 mm.wt, .int .i64 mm.v, .int .i64 mm.rem] 32))
      have HBB4 := Kit.hid (blk_new w4 (.cells #[.int .i64 mm.id, .int .i64 mm.wt, .int .i64 mm.v, .int .i64 mm.rem] 32))
      have HDB := Kit.hid (hd4.below ((Below.refl _ _).alloc (Nat.le_refl _) (.cells #[.int .i64 mm.id, .int .i64 mm.wt, .int .i64 mm.v, .int .i64 mm.rem] 32)))
      obtain ⟨mq, hmq⟩ : ∃ mq, mq = meanQ L2 b2 := ⟨_, rfl⟩
      obtain ⟨mv1, mi1⟩ := mq
      have HME : Hid (∀ w' l' K c m, DuoQ w1 w' p L2 b2 (i + 1 + 1) q l' K c m → Calls Try.prog 23 #[.pointer (some ⟨p, 0, none⟩)] w' fun e w'' => e = .returned (.tuple #[.int .i64 mv1, .bool mi1]) ∧ Below w'.heap.size w' w'') := Kit.hid (fun w' l' K c m h => by
        obtain ⟨F, hf⟩ := h.get
        have := qmean_any hf HQB2.out (by omega)
        rw [← hmq] at this
        exact this)
      have HMR : Hid (∀ w' l', RQ w' q l' L2 b2 → Calls Try.prog 24 #[.pointer (some ⟨q, 0, none⟩)] w' fun e w'' => e = .returned (.tuple #[.int .i64 mv1, .bool mi1]) ∧ Below w'.heap.size w' w'') := Kit.hid (fun w' l' h => by
        have := rqmean_any h
        rw [← hmq] at this
        exact this)
      have HM5 := Kit.hid (HME.out _ _ _ _ _ HDB.out)
      clear hd4 hg4 hba4 HDC2 d0 d1 d2 d3 d4 d5 hmq
      go_wp2_with fail
      (with_reducible refine HM5.out.mono ?_); rintro e w5 ⟨rfl, hb5⟩
      have HD5 := Kit.hid (HDB.out.below hb5)
      have HBA5 := Kit.hid (blk_below HBA4.out hb5)
      have HBB5 := Kit.hid (blk_below HBB4.out hb5)
      have HM6 := Kit.hid (HMR.out _ _ HD5.out.ref)
      clear hb5 HM5
      go_wp2_with fail
      (with_reducible refine HM6.out.mono ?_); rintro e w6 ⟨rfl, hb6⟩
      have HD6 := Kit.hid (HD5.out.below hb6)
      have HBA6 := Kit.hid (blk_below HBA5.out hb6)
      have HBB6 := Kit.hid (blk_below HBB5.out hb6)
      clear hb6 HM6
      have HS : Hid (∀ w' : World, Below w6.heap.size w6 w' → w'.cell? ⟨w3.heap.size, 0, none⟩ = some (.int .i64 mm.id) ∧ w'.cell? ⟨w3.heap.size, 1, none⟩ = some (.int .i64 mm.wt) ∧ w'.cell? ⟨w3.heap.size, 2, none⟩ = some (.int .i64 mm.v) ∧ w'.cell? ⟨w3.heap.size, 3, none⟩ = some (.int .i64 mm.rem) ∧ w'.cell? ⟨w4.heap.size, 0, none⟩ = some (.int .i64 mm.id) ∧ w'.cell? ⟨w4.heap.size, 1, none⟩ = some (.int .i64 mm.wt) ∧ w'.cell? ⟨w4.heap.size, 2, none⟩ = some (.int .i64 mm.v) ∧ w'.cell? ⟨w4.heap.size, 3, none⟩ = some (.int .i64 mm.rem) ∧ w'.cell? ⟨q, 1, none⟩ = some (.int .i64 b2)) := Kit.hid (fun w' hb => by
        have h1 := blk_below HBA6.out hb
        have h2 := blk_below HBB6.out hb
        obtain ⟨A7, c7, h3, _⟩ := (HD6.out.below hb).ref.look
        exact ⟨blk_cell h1 0, blk_cell h1 1, blk_cell h1 2, blk_cell h1 3, blk_cell h2 0, blk_cell h2 1, blk_cell h2 2, blk_cell h2 3, blk_cell h3 1⟩)
      have HCB : Hid (∀ w', Below w6.heap.size w6 w' → Calls Try.prog 16 #[.pointer (some ⟨p, 0, none⟩)] w' fun e w'' => e = .returned (.int .i64 b2) ∧ Below w'.heap.size w' w'') := Kit.hid (fun w' hb => by
        obtain ⟨F, hf⟩ := (HD6.out.below hb).get
        exact base_any hf)
      have HCA : Hid (∀ w', Below w6.heap.size w6 w' → Calls Try.prog 13 #[.pointer (some ⟨p, 0, none⟩)] w' fun e w'' => ∃ A c, e = .returned (.slice A L2.length c) ∧ Hid (TRow w'' A (told b2 L2)) ∧ Below w'.heap.size w' w'') := Kit.hid (fun w' hb => by
        obtain ⟨F, hf⟩ := (HD6.out.below hb).get
        refine (qall_any hf HQB2.out (by omega)).mono ?_
        rintro e w'' ⟨v, rfl, hv, hb'⟩
        obtain ⟨A, c, rfl, hc, _⟩ := own_readsS (by decide) hv
        exact ⟨A, c, rfl, trow_cells hc, hb'⟩)
      have HCR : Hid (∀ w', Below w6.heap.size w6 w' → Calls Try.prog 25 #[.pointer (some ⟨q, 0, none⟩)] w' fun e w'' => ∃ A c, e = .returned (.slice A L2.length c) ∧ Hid (TRow w'' A (told b2 L2)) ∧ Below w'.heap.size w' w'') := Kit.hid (fun w' hb => by
        refine (rqall_any (HD6.out.below hb).ref).mono ?_
        rintro e w'' ⟨v, rfl, hv, hb'⟩
        obtain ⟨A, c, rfl, hc, _⟩ := own_readsS (by decide) hv
        exact ⟨A, c, rfl, trow_cells hc, hb'⟩)
      have HL2 : Hid (L2.length ≤ 1000000) := Kit.hid (by
        have h1 := HD6.out.ref.2.1.length_eq
        have h2 := HD6.out.len
        omega)
      have HSM : Hid (∀ w' A c A' c', Hid (TRow w' A (told b2 L2)) → Hid (TRow w' A' (told b2 L2)) → Calls Try.prog 19 #[.slice A L2.length c, .slice A' L2.length c'] w' fun e w'' => e = .returned (.bool true) ∧ Below w'.heap.size w' w'') := Kit.hid (fun w' A c A' c' h1 h2 => by
        have := qsame_any A A' (told b2 L2) (told b2 L2) c c' w' h1 h2 (by rw [told_len]; exact HL2.out) (by rw [told_len]; exact HL2.out)
        rw [told_len, decide_eq_true rfl] at this
        refine this.mono ?_
        rintro e w'' ⟨rfl, m, rfl⟩
        exact ⟨rfl, below_drewN (Below.refl _ _) m⟩)
      have gne : ∀ w', (binOp .neq 32 (.agg #[.int .i64 mm.id, .int .i64 mm.wt, .int .i64 mm.v, .int .i64 mm.rem]) (.agg #[.int .i64 mm.id, .int .i64 mm.wt, .int .i64 mm.v, .int .i64 mm.rem])).run Try.prog w' = .ok (.bool false) w' := fun w' => by rw [neq_mem, decide_eq_true rfl]; rfl
      go_wp2
      refine wp_region_noPanic ?_
      refine wp_region_held_drew (S := fun (w' : World) => Below w6.heap.size w6 w') (by kernel_rfl) (Below.refl _ _).drew (fun hHeld => ?_)
      refine wpAnyH_take (i := 0) (hi := by simp only [List.getElem?_toArray, List.getElem?_cons_succ, List.getElem?_cons_zero]; rfl) (v := ?_) (by kernel_rfl) (by kernel_rfl) (by kernel_rfl) (fun _ _ _ h => h) (Or.inl ⟨by rfl, ?_⟩) (by assumption) ?_
      rotate_left
      · (intro w hSw; (try dsimp only at hSw); (obtain ⟨x0, x1, x2, x3, y0, y1, y2, y3, z0⟩ := HS.out _ hSw); go_simp; first | done | with_reducible rfl)
      try simp only [Act.put, List.setIfInBounds_toArray, List.set_cons_zero, List.set_cons_succ]
      refine wpAnyH_take (i := 1) (hi := by simp only [List.getElem?_toArray, List.getElem?_cons_succ, List.getElem?_cons_zero]; rfl) (v := ?_) (by kernel_rfl) (by kernel_rfl) (by kernel_rfl) (fun _ _ _ h => h) (Or.inl ⟨by rfl, ?_⟩) (by assumption) ?_
      rotate_left
      · (intro w hSw; (try dsimp only at hSw); (obtain ⟨x0, x1, x2, x3, y0, y1, y2, y3, z0⟩ := HS.out _ hSw); go_simp; first | done | with_reducible rfl)
      try simp only [Act.put, List.setIfInBounds_toArray, List.set_cons_zero, List.set_cons_succ]
      refine wpAnyH_take (i := 2) (hi := by simp only [List.getElem?_toArray, List.getElem?_cons_succ, List.getElem?_cons_zero]; rfl) (v := ?_) (by kernel_rfl) (by kernel_rfl) (by kernel_rfl) (fun _ _ _ h => h) (Or.inl ⟨by rfl, ?_⟩) (by assumption) ?_
      rotate_left
      · (intro w hSw; (try dsimp only at hSw); go_simp; first | done | with_reducible rfl)
      try simp only [Act.put, List.setIfInBounds_toArray, List.set_cons_zero, List.set_cons_succ]
      refine wpAnyH_take (i := 3) (hi := by simp only [List.getElem?_toArray, List.getElem?_cons_succ, List.getElem?_cons_zero]; rfl) (v := ?_) (by kernel_rfl) (by kernel_rfl) (by kernel_rfl) (fun _ _ _ h => h) (Or.inl ⟨by rfl, ?_⟩) (by assumption) ?_
      rotate_left
      · (intro w hSw; (try dsimp only at hSw); go_simp; first | done | with_reducible rfl)
      try simp only [Act.put, List.setIfInBounds_toArray, List.set_cons_zero, List.set_cons_succ]
      refine wpAnyH_take (i := 4) (hi := by simp only [List.getElem?_toArray, List.getElem?_cons_succ, List.getElem?_cons_zero]; rfl) (v := ?_) (by kernel_rfl) (by kernel_rfl) (by kernel_rfl) (fun _ _ _ h => h) (Or.inl ⟨by rfl, ?_⟩) (by assumption) ?_
      rotate_left
      · (intro w hSw; (try dsimp only at hSw); go_simp; first | done | with_reducible rfl)
      try simp only [Act.put, List.setIfInBounds_toArray, List.set_cons_zero, List.set_cons_succ]
      refine wpAnyH_take (i := 5) (hi := by simp only [List.getElem?_toArray, List.getElem?_cons_succ, List.getElem?_cons_zero]; rfl) (v := ?_) (by kernel_rfl) (by kernel_rfl) (by kernel_rfl) (fun _ _ _ h => h) (Or.inl ⟨by rfl, ?_⟩) (by assumption) ?_
      rotate_left
      · (intro w hSw; (try dsimp only at hSw); go_simp; first | done | with_reducible rfl)
      try simp only [Act.put, List.setIfInBounds_toArray, List.set_cons_zero, List.set_cons_succ]
      refine wpAnyH_take (i := 6) (hi := by simp only [List.getElem?_toArray, List.getElem?_cons_succ, List.getElem?_cons_zero]; rfl) (v := ?_) (by kernel_rfl) (by kernel_rfl) (by kernel_rfl) (fun _ _ _ h => h) (Or.inl ⟨by rfl, ?_⟩) (by assumption) ?_
      rotate_left
      · (intro w hSw; (try dsimp only at hSw); go_simp; first | done | with_reducible rfl)
      try simp only [Act.put, List.setIfInBounds_toArray, List.set_cons_zero, List.set_cons_succ]
      refine wpAnyH_take (i := 7) (hi := by simp only [List.getElem?_toArray, List.getElem?_cons_succ, List.getElem?_cons_zero]; rfl) (v := ?_) (by kernel_rfl) (by kernel_rfl) (by kernel_rfl) (fun _ _ _ h => h) (Or.inl ⟨by rfl, ?_⟩) (by assumption) ?_
      rotate_left
      · (intro w hSw; (try dsimp only at hSw); go_simp; first | done | with_reducible rfl)
      try simp only [Act.put, List.setIfInBounds_toArray, List.set_cons_zero, List.set_cons_succ]
      refine wpAnyH_take (i := 8) (hi := by simp only [List.getElem?_toArray, List.getElem?_cons_succ, List.getElem?_cons_zero]; rfl) (v := ?_) (by kernel_rfl) (by kernel_rfl) (by kernel_rfl) (fun _ _ _ h => h) (Or.inl ⟨by rfl, ?_⟩) (by assumption) ?_
      rotate_left
      · (intro w hSw; (try dsimp only at hSw); go_simp; first | done | with_reducible rfl)
      try simp only [Act.put, List.setIfInBounds_toArray, List.set_cons_zero, List.set_cons_succ]
      refine wpAnyH_take (i := 9) (hi := by simp only [List.getElem?_toArray, List.getElem?_cons_succ, List.getElem?_cons_zero]; rfl) (v := ?_) (by kernel_rfl) (by kernel_rfl) (by kernel_rfl) (fun _ _ _ h => h) (Or.inl ⟨by rfl, ?_⟩) (by assumption) ?_
      rotate_left
      · (intro w hSw; (try dsimp only at hSw); go_simp; first | done | with_reducible rfl)
      try simp only [Act.put, List.setIfInBounds_toArray, List.set_cons_zero, List.set_cons_succ]
      refine wpAnyH_take (i := 11) (hi := by simp only [List.getElem?_toArray, List.getElem?_cons_succ, List.getElem?_cons_zero]; rfl) (v := ?_) (by kernel_rfl) (by kernel_rfl) (by kernel_rfl) (fun _ _ _ h => h) (Or.inl ⟨by rfl, ?_⟩) (by assumption) ?_
      rotate_left
      · (intro w hSw; (try dsimp only at hSw); go_simp; first | done | with_reducible rfl)
      try simp only [Act.put, List.setIfInBounds_toArray, List.set_cons_zero, List.set_cons_succ]
      refine wpAnyH_take (i := 12) (hi := by simp only [List.getElem?_toArray, List.getElem?_cons_succ, List.getElem?_cons_zero]; rfl) (v := ?_) (by kernel_rfl) (by kernel_rfl) (by kernel_rfl) (fun _ _ _ h => h) (Or.inl ⟨by rfl, ?_⟩) (by assumption) ?_
      rotate_left
      · (intro w hSw; (try dsimp only at hSw); (obtain ⟨x0, x1, x2, x3, y0, y1, y2, y3, z0⟩ := HS.out _ hSw); go_simp; first | done | with_reducible rfl)
      try simp only [Act.put, List.setIfInBounds_toArray, List.set_cons_zero, List.set_cons_succ]
      refine wpAnyH_take (i := 13) (hi := by simp only [List.getElem?_toArray, List.getElem?_cons_succ, List.getElem?_cons_zero]; rfl) (v := ?_) (by kernel_rfl) (by kernel_rfl) (by kernel_rfl) (fun _ _ _ h => h) (Or.inl ⟨by rfl, ?_⟩) (by assumption) ?_
      rotate_left
      · (intro w hSw; (try dsimp only at hSw); go_simp; first | done | with_reducible rfl)
      try simp only [Act.put, List.setIfInBounds_toArray, List.set_cons_zero, List.set_cons_succ]
      refine wpAnyH_take (i := 14) (hi := by simp only [List.getElem?_toArray, List.getElem?_cons_succ, List.getElem?_cons_zero]; rfl) (v := ?_) (by kernel_rfl) (by kernel_rfl) (by kernel_rfl) (fun _ _ _ h => h) (Or.inl ⟨by rfl, ?_⟩) (by assumption) ?_
      rotate_left
      · (intro w hSw; (try dsimp only at hSw); (obtain ⟨x0, x1, x2, x3, y0, y1, y2, y3, z0⟩ := HS.out _ hSw); go_simp; first | done | with_reducible rfl)
      try simp only [Act.put, List.setIfInBounds_toArray, List.set_cons_zero, List.set_cons_succ]
      refine wpAnyH_ready (rs := [10]) (by kernel_rfl) (by simp) ?_
      refine AllReadyH.cons (ho := by simp only [List.getElem?_toArray, List.getElem?_cons_succ, List.getElem?_cons_zero]; rfl) (fun K hK => ?_) (AllReadyH.nil)
      go_simp
      go_at_call 16; (with_reducible refine (HCB.out _ hHeld).mono ?_); rintro e w10 ⟨rfl, hb10⟩
      have HB10 : Hid (Below w6.heap.size w6 w10) := Kit.hid (hHeld.trans (hb10.mono hHeld.size))
      clear hb10
      go_wp2_with fail
      refine hK.out _ _ ?_ (fun hHeldN => ?_)
      · exact HB10.out
      clear hHeld
      have hHeld := hHeldN
      clear hHeldN
      clear hK K
      try simp only [Act.put, List.setIfInBounds_toArray, List.set_cons_zero, List.set_cons_succ]
      refine wpAnyH_take (i := 15) (hi := by simp only [List.getElem?_toArray, List.getElem?_cons_succ, List.getElem?_cons_zero]; rfl) (v := ?_) (by kernel_rfl) (by kernel_rfl) (by kernel_rfl) (fun _ _ _ h => h) (Or.inl ⟨by rfl, ?_⟩) (by assumption) ?_
      rotate_left
      · (intro w hSw; (try dsimp only at hSw); go_simp; first | done | with_reducible rfl)
      try simp only [Act.put, List.setIfInBounds_toArray, List.set_cons_zero, List.set_cons_succ]
      refine wpAnyH_take (i := 16) (hi := by simp only [List.getElem?_toArray, List.getElem?_cons_succ, List.getElem?_cons_zero]; rfl) (v := ?_) (by kernel_rfl) (by kernel_rfl) (by kernel_rfl) (fun _ _ _ h => h) (Or.inl ⟨by rfl, ?_⟩) (by assumption) ?_
      rotate_left
      · (intro w hSw; (try dsimp only at hSw); go_simp; first | done | with_reducible rfl)
      try simp only [Act.put, List.setIfInBounds_toArray, List.set_cons_zero, List.set_cons_succ]
      refine wpAnyH_take (i := 17) (hi := by simp only [List.getElem?_toArray, List.getElem?_cons_succ, List.getElem?_cons_zero]; rfl) (v := ?_) (by kernel_rfl) (by kernel_rfl) (by kernel_rfl) (fun _ _ _ h => h) (Or.inl ⟨by rfl, ?_⟩) (by assumption) ?_
      rotate_left
      · (intro w hSw; (try dsimp only at hSw); go_simp; first | done | with_reducible rfl)
      try simp only [Act.put, List.setIfInBounds_toArray, List.set_cons_zero, List.set_cons_succ]
      refine wpAnyH_take (i := 18) (hi := by simp only [List.getElem?_toArray, List.getElem?_cons_succ, List.getElem?_cons_zero]; rfl) (v := ?_) (by kernel_rfl) (by kernel_rfl) (by kernel_rfl) (fun _ _ _ h => h) (Or.inl ⟨by rfl, ?_⟩) (by assumption) ?_
      rotate_left
      · (intro w hSw; (try dsimp only at hSw); go_simp; first | done | with_reducible rfl)
      try simp only [Act.put, List.setIfInBounds_toArray, List.set_cons_zero, List.set_cons_succ]
      refine wpAnyH_take (i := 19) (hi := by simp only [List.getElem?_toArray, List.getElem?_cons_succ, List.getElem?_cons_zero]; rfl) (v := ?_) (by kernel_rfl) (by kernel_rfl) (by kernel_rfl) (fun _ _ _ h => h) (Or.inl ⟨by rfl, ?_⟩) (by assumption) ?_
      rotate_left
      · (intro w hSw; (try dsimp only at hSw); go_simp; first | done | with_reducible rfl)
      try simp only [Act.put, List.setIfInBounds_toArray, List.set_cons_zero, List.set_cons_succ]
      refine wpAnyH_take (i := 20) (hi := by simp only [List.getElem?_toArray, List.getElem?_cons_succ, List.getElem?_cons_zero]; rfl) (v := ?_) (by kernel_rfl) (by kernel_rfl) (by kernel_rfl) (fun _ _ _ h => h) (Or.inl ⟨by rfl, ?_⟩) (by assumption) ?_
      rotate_left
      · (intro w hSw; (try dsimp only at hSw); go_simp; first | done | with_reducible rfl)
      try simp only [Act.put, List.setIfInBounds_toArray, List.set_cons_zero, List.set_cons_succ]
      refine wpAnyH_take (i := 21) (hi := by simp only [List.getElem?_toArray, List.getElem?_cons_succ, List.getElem?_cons_zero]; rfl) (v := ?_) (by kernel_rfl) (by kernel_rfl) (by kernel_rfl) (fun _ _ _ h => h) (Or.inl ⟨by rfl, ?_⟩) (by assumption) ?_
      rotate_left
      · (intro w hSw; (try dsimp only at hSw); go_simp; first | done | with_reducible rfl)
      try simp only [Act.put, List.setIfInBounds_toArray, List.set_cons_zero, List.set_cons_succ]
      refine wpAnyH_take (i := 22) (hi := by simp only [List.getElem?_toArray, List.getElem?_cons_succ, List.getElem?_cons_zero]; rfl) (v := ?_) (by kernel_rfl) (by kernel_rfl) (by kernel_rfl) (fun _ _ _ h => h) (Or.inl ⟨by rfl, ?_⟩) (by assumption) ?_
      rotate_left
      · (intro w hSw; (try dsimp only at hSw); go_simp; first | done | with_reducible rfl)
      try simp only [Act.put, List.setIfInBounds_toArray, List.set_cons_zero, List.set_cons_succ]
      refine wpAnyH_take (i := 23) (hi := by simp only [List.getElem?_toArray, List.getElem?_cons_succ, List.getElem?_cons_zero]; rfl) (v := ?_) (by kernel_rfl) (by kernel_rfl) (by kernel_rfl) (fun _ _ _ h => h) (Or.inl ⟨by rfl, ?_⟩) (by assumption) ?_
      rotate_left
      · (intro w hSw; (try dsimp only at hSw); go_simp; first | done | with_reducible rfl)
      try simp only [Act.put, List.setIfInBounds_toArray, List.set_cons_zero, List.set_cons_succ]
      refine wpAnyH_take (i := 24) (hi := by simp only [List.getElem?_toArray, List.getElem?_cons_succ, List.getElem?_cons_zero]; rfl) (v := ?_) (by kernel_rfl) (by kernel_rfl) (by kernel_rfl) (fun _ _ _ h => h) (Or.inl ⟨by rfl, ?_⟩) (by assumption) ?_
      rotate_left
      · (intro w hSw; (try dsimp only at hSw); go_simp; first | done | with_reducible rfl)
      try simp only [Act.put, List.setIfInBounds_toArray, List.set_cons_zero, List.set_cons_succ]
      refine wpAnyH_take (i := 25) (hi := by simp only [List.getElem?_toArray, List.getElem?_cons_succ, List.getElem?_cons_zero]; rfl) (v := ?_) (by kernel_rfl) (by kernel_rfl) (by kernel_rfl) (fun _ _ _ h => h) (Or.inl ⟨by rfl, ?_⟩) (by assumption) ?_
      rotate_left
      · (intro w hSw; (try dsimp only at hSw); go_simp; first | done | with_reducible rfl)
      try simp only [Act.put, List.setIfInBounds_toArray, List.set_cons_zero, List.set_cons_succ]
      refine wpAnyH_take (i := 26) (hi := by simp only [List.getElem?_toArray, List.getElem?_cons_succ, List.getElem?_cons_zero]; rfl) (v := ?_) (by kernel_rfl) (by kernel_rfl) (by kernel_rfl) (fun _ _ _ h => h) (Or.inl ⟨by rfl, ?_⟩) (by assumption) ?_
      rotate_left
      · (intro w hSw; (try dsimp only at hSw); go_simp; first | done | with_reducible rfl)
      try simp only [Act.put, List.setIfInBounds_toArray, List.set_cons_zero, List.set_cons_succ]
      refine wpAnyH_take (i := 27) (hi := by simp only [List.getElem?_toArray, List.getElem?_cons_succ, List.getElem?_cons_zero]; rfl) (v := ?_) (by kernel_rfl) (by kernel_rfl) (by kernel_rfl) (fun _ _ _ h => h) (Or.inl ⟨by rfl, ?_⟩) (by assumption) ?_
      rotate_left
      · (intro w hSw; (try dsimp only at hSw); go_simp; first | done | with_reducible rfl)
      try simp only [Act.put, List.setIfInBounds_toArray, List.set_cons_zero, List.set_cons_succ]
      refine wpAnyH_take (i := 28) (hi := by simp only [List.getElem?_toArray, List.getElem?_cons_succ, List.getElem?_cons_zero]; rfl) (v := ?_) (by kernel_rfl) (by kernel_rfl) (by kernel_rfl) (fun _ _ _ h => h) (Or.inl ⟨by rfl, ?_⟩) (by assumption) ?_
      rotate_left
      · (intro w hSw; (try dsimp only at hSw); go_simp; first | done | with_reducible rfl)
      try simp only [Act.put, List.setIfInBounds_toArray, List.set_cons_zero, List.set_cons_succ]
      refine wpAnyH_take (i := 30) (hi := by simp only [List.getElem?_toArray, List.getElem?_cons_succ, List.getElem?_cons_zero]; rfl) (v := ?_) (by kernel_rfl) (by kernel_rfl) (by kernel_rfl) (fun _ _ _ h => h) (Or.inl ⟨by rfl, ?_⟩) (by assumption) ?_
      rotate_left
      · (intro w hSw; (try dsimp only at hSw); go_simp; first | done | with_reducible rfl)
      try simp only [Act.put, List.setIfInBounds_toArray, List.set_cons_zero, List.set_cons_succ]
      refine wpAnyH_ready (rs := [29]) (by kernel_rfl) (by simp) ?_
      refine AllReadyH.cons (ho := by simp only [List.getElem?_toArray, List.getElem?_cons_succ, List.getElem?_cons_zero]; rfl) (fun K hK => ?_) (AllReadyH.nil)
      go_simp
      go_at_call 13; (with_reducible refine (HCA.out _ hHeld).mono ?_); rintro e w29 ⟨A29, c29, rfl, hr29, hb29⟩
      have HB29 : Hid (Below w6.heap.size w6 w29) := Kit.hid (hHeld.trans (hb29.mono hHeld.size))
      have HR29 := hr29
      clear hb29 hr29
      go_wp2_with fail
      refine hK.out _ _ ?_ (fun hHeldN => ?_)
      · exact HB29.out
      clear hHeld
      have hHeld := hHeldN
      clear hHeldN
      clear hK K
      try simp only [Act.put, List.setIfInBounds_toArray, List.set_cons_zero, List.set_cons_succ]
      refine wpAnyH_ready (rs := [31]) (by kernel_rfl) (by simp) ?_
      refine AllReadyH.cons (ho := by simp only [List.getElem?_toArray, List.getElem?_cons_succ, List.getElem?_cons_zero]; rfl) (fun K hK => ?_) (AllReadyH.nil)
      go_simp
      go_at_call 25; (with_reducible refine (HCR.out _ hHeld).mono ?_); rintro e w31 ⟨A31, c31, rfl, hr31, hb31⟩
      have HB31 : Hid (Below w6.heap.size w6 w31) := Kit.hid (hHeld.trans (hb31.mono hHeld.size))
      have HR31 := hr31
      have HS32 := Kit.hid (HSM.out _ _ c29 _ c31 (trow_below HR29 hb31) hr31)
      clear hb31 hr31
      go_wp2_with fail
      refine hK.out _ _ ?_ (fun hHeldN => ?_)
      · exact HB31.out
      clear hHeld
      have hHeld := hHeldN
      clear hHeldN
      clear hK K
      try simp only [Act.put, List.setIfInBounds_toArray, List.set_cons_zero, List.set_cons_succ]
      refine wpAnyH_ready (rs := [32]) (by kernel_rfl) (by simp) ?_
      refine AllReadyH.cons (ho := by simp only [List.getElem?_toArray, List.getElem?_cons_succ, List.getElem?_cons_zero]; rfl) (fun K hK => ?_) (AllReadyH.nil)
      go_simp
      go_at_call 19; (with_reducible refine (HS32.out).mono ?_); rintro e w32 ⟨rfl, hb32⟩
      have HB32 : Hid (Below w6.heap.size w6 w32) := Kit.hid (hHeld.trans (hb32.mono hHeld.size))
      clear hb32
      go_wp2_with fail
      refine hK.out _ _ ?_ (fun hHeldN => ?_)
      · exact HB32.out
      clear hHeld
      have hHeld := hHeldN
      clear hHeldN
      clear hK K
      try simp only [Act.put, List.setIfInBounds_toArray, List.set_cons_zero, List.set_cons_succ]
      refine wpAnyH_take (i := 33) (hi := by simp only [List.getElem?_toArray, List.getElem?_cons_succ, List.getElem?_cons_zero]; rfl) (v := ?_) (by kernel_rfl) (by kernel_rfl) (by kernel_rfl) (fun _ _ _ h => h) (Or.inl ⟨by rfl, ?_⟩) (by assumption) ?_
      rotate_left
      · (intro w hSw; (try dsimp only at hSw); go_simp; first | done | with_reducible rfl)
      try simp only [Act.put, List.setIfInBounds_toArray, List.set_cons_zero, List.set_cons_succ]
      refine wpAnyH_take (i := 34) (hi := by simp only [List.getElem?_toArray, List.getElem?_cons_succ, List.getElem?_cons_zero]; rfl) (v := ?_) (by kernel_rfl) (by kernel_rfl) (by kernel_rfl) (fun _ _ _ h => h) (Or.inl ⟨by rfl, ?_⟩) (by assumption) ?_
      rotate_left
      · (intro w hSw; (try dsimp only at hSw); go_simp; first | done | with_reducible rfl)
      try simp only [Act.put, List.setIfInBounds_toArray, List.set_cons_zero, List.set_cons_succ]
      clear hHeld
      refine wpAnyH_done (by kernel_rfl) ?_ _
      refine NoPanic.normal ?_
      skip
      have HDE := Kit.hid (HD6.out.below HB32.out)
      go_wp2
      go_roundw
      case rel => exact ⟨i + 1, l', by omega, by go_num, Kit.hid (by rw [HW.out]; exact HDE.out)⟩
      case measure => simp [intOf]; omega
    · obtain rfl : i = l.length := by omega
      rw [List.take_length] at HD HQB
      generalize walkedQ l = s at HD HQB
      obtain ⟨L, b⟩ := s
      dsimp only at HD HQB
      obtain ⟨mm, hmm⟩ := gv_mem (get L id) b
      obtain ⟨bi, hbi⟩ : ∃ bi, bi = (get L id).isSome := ⟨_, rfl⟩
      have HG1 : Hid (Calls Try.prog 15 #[.pointer (some ⟨p, 0, none⟩), .int .i64 id] wr fun e w' => e = .returned (.tuple #[.agg #[.int .i64 mm.id, .int .i64 mm.wt, .int .i64 mm.v, .int .i64 mm.rem], .bool bi]) ∧ Below wr.heap.size wr w') := Kit.hid (by
        obtain ⟨F, hf⟩ := HD.out.get
        have := get_any id hf HQB.out HIB.out.1 HIB.out.2
        rw [hmm, ← hbi] at this
        exact this)
      have HG2 : Hid (∀ w', RQ w' q ls L b → Calls Try.prog 26 #[.pointer (some ⟨q, 0, none⟩), .int .i64 id] w' fun e w'' => e = .returned (.tuple #[.agg #[.int .i64 mm.id, .int .i64 mm.wt, .int .i64 mm.v, .int .i64 mm.rem], .bool bi]) ∧ Below w'.heap.size w' w'') := Kit.hid (fun w' h => by
        have := rqget_any h id
        rw [hmm, ← hbi] at this
        exact this)
      have geq : ∀ w', (binOp .eql 32 (.agg #[.int .i64 mm.id, .int .i64 mm.wt, .int .i64 mm.v, .int .i64 mm.rem]) (.agg #[.int .i64 mm.id, .int .i64 mm.wt, .int .i64 mm.v, .int .i64 mm.rem])).run Try.prog w' = .ok (.bool true) w' := fun w' => by rw [eql_mem, decide_eq_true rfl]
      clear hmm hbi
      go_wp2_with fail
      (with_reducible refine HG1.out.mono ?_); rintro e w3 ⟨rfl, hb3⟩
      have HDA := Kit.hid ((HD.out.below hb3).below ((Below.refl _ _).alloc (Nat.le_refl _) (.cells #[.int .i64 mm.id, .int .i64 mm.wt, .int .i64 mm.v, .int .i64 mm.rem] 32)))
      have HBA := Kit.hid (blk_new w3 (.cells #[.int .i64 mm.id, .int .i64 mm.wt, .int .i64 mm.v, .int .i64 mm.rem] 32))
      have HG3 := Kit.hid (HG2.out _ HDA.out.ref)
      clear hb3 HG1
      go_wp2_with fail
      (with_reducible refine HG3.out.mono ?_); rintro e w4 ⟨rfl, hb4⟩
      have HDB := Kit.hid ((HDA.out.below hb4).below ((Below.refl _ _).alloc (Nat.le_refl _) (.cells #[.int .i64 mm.id, .int .i64 mm.wt, .int .i64 mm.v, .int .i64 mm.rem] 32)))
      have hba := blk_alloc (blk_below HBA.out hb4) (.cells #[.int .i64 mm.id, .int .i64 mm.wt, .int .i64 mm.v, .int .i64 mm.rem] 32)
      have hbb := blk_new w4 (.cells #[.int .i64 mm.id, .int .i64 mm.wt, .int .i64 mm.v, .int .i64 mm.rem] 32)
      have x0 := blk_cell hba 0
      have x1 := blk_cell hba 1
      have x2 := blk_cell hba 2
      have x3 := blk_cell hba 3
      have y0 := blk_cell hbb 0
      have y1 := blk_cell hbb 1
      have y2 := blk_cell hbb 2
      have y3 := blk_cell hbb 3
      have lx := blk_lt hba
      have ly := blk_lt hbb
      clear hb4 HG3 hba hbb
      go_wp2
      go_ret
      exact ⟨by simp, HB1.out.trans (HDB.out.to.mono HB1.out.size)⟩
end Go.Proofs.Ytggcbeoinmnopaa.Qu

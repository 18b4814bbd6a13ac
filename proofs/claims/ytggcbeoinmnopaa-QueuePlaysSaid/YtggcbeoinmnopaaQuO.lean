/- The walk of do: one thing that is done in a queue. -/
import Derived.Test.YtggcbeoinmnopaaQuL
import Derived.Test.YtggcbeoinmnopaaQuN
namespace Go.Proofs.Ytggcbeoinmnopaa.Qu
open Go.RowKit Go.Proofs.Ytggcbeoinmnopaa.Kit Go.Proofs.Ytggcbeoinmnopaa.ShM Go.Proofs.Ytggcbeoinmnopaa.Sh Go.Proofs.Ytggcbeoinmnopaa.QuM
set_option linter.unusedVariables false
set_option linter.unusedSimpArgs false
section
variable {F : Nat → Prop} {w w' : World} {p n : Nat} {L : List Mem} {base : Int}
set_option maxRecDepth 8000 in
set_option maxHeartbeats 3200000 in
theorem do_any (o : QOp) (h : QF F w p L base n) (hq : QB L base) (hn : n ≤ 3000) (hi1 : -9223372036854775808 ≤ o.m.id) (hi2 : o.m.id ≤ 9223372036854775807) :
    Calls Try.prog 18 #[.pointer (some ⟨p, 0, none⟩), .agg #[.int .i64 o.d, .int .i64 o.m.id, .int .i64 o.m.wt, .int .i64 o.m.v, .int .i64 o.m.rem, .int .i64 o.n]] w fun e w' => e = .returned (.tuple #[gv (doR L base o).1 base, .int .i64 (doR L base o).2.1]) ∧ Qu w F w' p (stL (doR L base o)) (stB (doR L base o)) (n + 1) := by
  have HQ := Kit.hid h
  have HLT := Kit.hid h.lt
  have HLEN := Kit.hid h.len
  have hbb : Below w.heap.size w ((w.alloc (.cells #[.int .i64 o.d, .int .i64 o.m.id, .int .i64 o.m.wt, .int .i64 o.m.v, .int .i64 o.m.rem, .int .i64 o.n] 43)).alloc (.cells #[.int .i64 0, .int .i64 0, .int .i64 0, .int .i64 0] 32)) := ((Below.refl _ _).alloc (Nat.le_refl _) _).alloc (by simp) _
  have hox : ((w.alloc (.cells #[.int .i64 o.d, .int .i64 o.m.id, .int .i64 o.m.wt, .int .i64 o.m.v, .int .i64 o.m.rem, .int .i64 o.n] 43)).alloc (.cells #[.int .i64 0, .int .i64 0, .int .i64 0, .int .i64 0] 32)).heap[w.heap.size]? = some (.cells #[.int .i64 o.d, .int .i64 o.m.id, .int .i64 o.m.wt, .int .i64 o.m.v, .int .i64 o.m.rem, .int .i64 o.n] 43 (0, 0)) := blk_alloc (blk_new _ _) _
  have hrx : ((w.alloc (.cells #[.int .i64 o.d, .int .i64 o.m.id, .int .i64 o.m.wt, .int .i64 o.m.v, .int .i64 o.m.rem, .int .i64 o.n] 43)).alloc (.cells #[.int .i64 0, .int .i64 0, .int .i64 0, .int .i64 0] 32)).heap[w.heap.size + 1]? = some (.cells #[.int .i64 0, .int .i64 0, .int .i64 0, .int .i64 0] 32 (0, 0)) := by
    have := blk_new (w.alloc (.cells #[.int .i64 o.d, .int .i64 o.m.id, .int .i64 o.m.wt, .int .i64 o.m.v, .int .i64 o.m.rem, .int .i64 o.n] 43)) (.cells #[.int .i64 0, .int .i64 0, .int .i64 0, .int .i64 0] 32)
    simpa using this
  clear h
  go_enter Try.func18, Try.ntmps18
  go_wp2_with fail
  all_goals
    generalize (w.alloc (.cells #[.int .i64 o.d, .int .i64 o.m.id, .int .i64 o.m.wt, .int .i64 o.m.v, .int .i64 o.m.rem, .int .i64 o.n] 43)).alloc (.cells #[.int .i64 0, .int .i64 0, .int .i64 0, .int .i64 0] 32) = W1 at hbb hox hrx ⊢
    have HB1 := Kit.hid hbb
    have HO1 := Kit.hid hox
    have HR1 := Kit.hid hrx
    have o0 := blk_cell hox 0
    have o1 := blk_cell hox 1
    have o2 := blk_cell hox 2
    have o3 := blk_cell hox 3
    have o4 := blk_cell hox 4
    have o5 := blk_cell hox 5
    have lo := blk_lt hox
    have HLR := Kit.hid (blk_lt hrx)
    have HQ1 := Kit.hid (HQ.out.below HB1.out)
    have HRK : Hid (∀ w' L' b' n', Qu W1 F w' p L' b' n' → w'.heap[w.heap.size + 1]? = some (.cells #[.int .i64 0, .int .i64 0, .int .i64 0, .int .i64 0] 32 (0, 0))) := Kit.hid (fun w' L' b' n' hk => (hk.kept.block _ HLR.out (fun hf => by have := HLT.out _ hf; omega)).trans HR1.out)
    clear hbb hox hrx
  · have e1 : (o.d == 1) = true := by assumption
    have d1 := beq_iff_eq.1 e1
    have HD : Hid (doR L base o = (none, joinC o.m L base, joinL o.m L base, base)) := Kit.hid (by unfold doR; rw [if_pos d1])
    have HJ := Kit.hid (join_any o.m HQ1.out hq (by omega) hi1 hi2)
    (with_reducible refine HJ.out.mono ?_); rintro e w2 ⟨rfl, hq2⟩
    have HQ2 := Kit.hid hq2
    have HR2 := Kit.hid (HRK.out _ _ _ _ hq2)
    clear hq2 o0 o1 o2 o3 o4 o5 lo HJ
    have r0 := blk_cell HR2.out 0
    have r1 := blk_cell HR2.out 1
    have r2 := blk_cell HR2.out 2
    have r3 := blk_cell HR2.out 3
    have f0 := blk_frozen HR2.out 0
    have f1 := blk_frozen HR2.out 1
    have f2 := blk_frozen HR2.out 2
    have f3 := blk_frozen HR2.out 3
    have lr := blk_lt HR2.out
    go_wp2
    exact cell_tmp_ret rfl (w.heap.size + 1) _ _ _ _ rfl rfl (mem_store HR2.out) rfl ⟨by rw [HD.out]; rfl, by rw [HD.out]; exact HQ2.out.far HB1.out HLT.out (by simp) HLR.out⟩
  · have e1 : (o.d == 1) = false := by assumption
    have n1 := beq_eq_false_iff_ne.1 e1
    have e2 : (o.d == 2) = true := by assumption
    have d2 := beq_iff_eq.1 e2
    have HD : Hid (doR L base o = (get L o.m.id, (if (get L o.m.id).isSome = true then 0 else 8), del L o.m.id, base)) := Kit.hid (by unfold doR; rw [if_neg n1]; rw [if_pos d2])
    have HJ := Kit.hid (leave_any o.m.id HQ1.out hq (by omega) hi1 hi2)
    obtain ⟨a0, a1, a2, a3, hgv⟩ : ∃ a0 a1 a2 a3 : Int, gv (get L o.m.id) base = .agg #[.int .i64 a0, .int .i64 a1, .int .i64 a2, .int .i64 a3] := by
      cases get L o.m.id with
      | none => exact ⟨_, _, _, _, rfl⟩
      | some y => exact ⟨_, _, _, _, rfl⟩
    rw [hgv] at HJ
    have HGV := Kit.hid hgv
    obtain ⟨cd, hcd⟩ : ∃ cd : Int, cd = (if (get L o.m.id).isSome = true then 0 else 8) := ⟨_, rfl⟩
    rw [← hcd] at HJ HD
    clear hgv hcd
    (with_reducible refine HJ.out.mono ?_); rintro e w2 ⟨rfl, hq2⟩
    have HQ2 := Kit.hid (hq2.more (Nat.le_succ _))
    have HR2 := Kit.hid (HRK.out _ _ _ _ HQ2.out)
    have hr2 := HRK.out _ _ _ _ hq2
    clear hq2 o0 o1 o2 o3 o4 o5 lo HJ
    have r0 := blk_cell hr2 0
    have r1 := blk_cell hr2 1
    have r2 := blk_cell hr2 2
    have r3 := blk_cell hr2 3
    have f0 := blk_frozen hr2 0
    have f1 := blk_frozen hr2 1
    have f2 := blk_frozen hr2 2
    have f3 := blk_frozen hr2 3
    have lr := blk_lt hr2
    clear hr2
    go_wp2
    exact cell_tmp_ret rfl (w.heap.size + 1) _ _ _ _ rfl rfl (blk_alloc (mem_store HR2.out) _) rfl ⟨by rw [HD.out]; show _ = Ending.returned (.tuple #[gv (get L o.m.id) base, _]); rw [HGV.out]; rfl, by rw [HD.out]; exact (HQ2.out.far HB1.out HLT.out (by simp) HLR.out).below ((Below.refl _ _).alloc (Nat.le_refl _) _)⟩
  · have e1 : (o.d == 1) = false := by assumption
    have n1 := beq_eq_false_iff_ne.1 e1
    have e2 : (o.d == 2) = false := by assumption
    have n2 := beq_eq_false_iff_ne.1 e2
    have e3 : (o.d == 3) = true := by assumption
    have d3 := beq_iff_eq.1 e3
    have HD : Hid (doR L base o = (none, runR L base o.m.id o.n)) := Kit.hid (by unfold doR; rw [if_neg n1]; rw [if_neg n2]; rw [if_pos d3])
    have HJ := Kit.hid (qrun_any o.m.id o.n HQ1.out hq (by omega) hi1 hi2)
    (with_reducible refine HJ.out.mono ?_); rintro e w2 ⟨rfl, hq2⟩
    have HQ2 := Kit.hid hq2
    have HR2 := Kit.hid (HRK.out _ _ _ _ hq2)
    clear hq2 o0 o1 o2 o3 o4 o5 lo HJ
    have r0 := blk_cell HR2.out 0
    have r1 := blk_cell HR2.out 1
    have r2 := blk_cell HR2.out 2
    have r3 := blk_cell HR2.out 3
    have f0 := blk_frozen HR2.out 0
    have f1 := blk_frozen HR2.out 1
    have f2 := blk_frozen HR2.out 2
    have f3 := blk_frozen HR2.out 3
    have lr := blk_lt HR2.out
    go_wp2
    exact cell_tmp_ret rfl (w.heap.size + 1) _ _ _ _ rfl rfl (mem_store HR2.out) rfl ⟨by rw [HD.out]; rfl, by rw [HD.out]; exact HQ2.out.far HB1.out HLT.out (by simp) HLR.out⟩
  · have e1 : (o.d == 1) = false := by assumption
    have n1 := beq_eq_false_iff_ne.1 e1
    have e2 : (o.d == 2) = false := by assumption
    have n2 := beq_eq_false_iff_ne.1 e2
    have e3 : (o.d == 3) = false := by assumption
    have n3 := beq_eq_false_iff_ne.1 e3
    have e4 : (o.d == 4) = true := by assumption
    have d4 := beq_iff_eq.1 e4
    have HD : Hid (doR L base o = (none, (weighR L o.m.id o.n).1, (weighR L o.m.id o.n).2, base)) := Kit.hid (by unfold doR; rw [if_neg n1]; rw [if_neg n2]; rw [if_neg n3]; rw [if_pos d4])
    have HJ := Kit.hid (qweigh_any o.m.id o.n HQ1.out hq (by omega) hi1 hi2)
    (with_reducible refine HJ.out.mono ?_); rintro e w2 ⟨rfl, hq2⟩
    have HQ2 := Kit.hid hq2
    have HR2 := Kit.hid (HRK.out _ _ _ _ hq2)
    clear hq2 o0 o1 o2 o3 o4 o5 lo HJ
    have r0 := blk_cell HR2.out 0
    have r1 := blk_cell HR2.out 1
    have r2 := blk_cell HR2.out 2
    have r3 := blk_cell HR2.out 3
    have f0 := blk_frozen HR2.out 0
    have f1 := blk_frozen HR2.out 1
    have f2 := blk_frozen HR2.out 2
    have f3 := blk_frozen HR2.out 3
    have lr := blk_lt HR2.out
    go_wp2
    exact cell_tmp_ret rfl (w.heap.size + 1) _ _ _ _ rfl rfl (mem_store HR2.out) rfl ⟨by rw [HD.out]; rfl, by rw [HD.out]; exact HQ2.out.far HB1.out HLT.out (by simp) HLR.out⟩
  · have e1 : (o.d == 1) = false := by assumption
    have n1 := beq_eq_false_iff_ne.1 e1
    have e2 : (o.d == 2) = false := by assumption
    have n2 := beq_eq_false_iff_ne.1 e2
    have e3 : (o.d == 3) = false := by assumption
    have n3 := beq_eq_false_iff_ne.1 e3
    have e4 : (o.d == 4) = false := by assumption
    have n4 := beq_eq_false_iff_ne.1 e4
    have e5 : (o.d == 5) = true := by assumption
    have d5 := beq_iff_eq.1 e5
    have HD0 : Hid (doR L base o = match L with | [] => (none, 0, L, base) | x :: _ => (some x, runR L base x.id 1)) := Kit.hid (by unfold doR; rw [if_neg n1, if_neg n2, if_neg n3, if_neg n4, if_pos d5]; cases L <;> rfl)
    have HJ := Kit.hid (qall_any HQ1.out hq (by omega))
    (with_reducible refine HJ.out.mono ?_); rintro e w2 ⟨v, rfl, hv, hb2⟩
    obtain ⟨A2, c2, rfl, hc2, hn2, hA2⟩ := own_readsS (by decide) hv
    have HB2 := Kit.hid hb2
    have hr2 := (hb2.block _ HLR.out).trans HR1.out
    have HR2 := Kit.hid hr2
    have HQ2 : Hid (Qu W1 F w2 p L base (n + 1)) := Kit.hid ((HQ1.out.self_below hb2).more (Nat.le_succ _))
    clear o0 o1 o2 o3 o4 o5 lo HJ hv
    cases L with
    | nil =>
      have HD : Hid (doR [] base o = (none, 0, [], base)) := HD0
      have r0 := blk_cell hr2 0
      have r1 := blk_cell hr2 1
      have r2 := blk_cell hr2 2
      have r3 := blk_cell hr2 3
      have f0 := blk_frozen hr2 0
      have f1 := blk_frozen hr2 1
      have f2 := blk_frozen hr2 2
      have f3 := blk_frozen hr2 3
      have lr := blk_lt hr2
      clear hr2 hb2 hc2 hn2 hA2
      go_wp2
      exact cell_tmp_ret rfl (w.heap.size + 1) _ _ _ _ rfl rfl (mem_store HR2.out) rfl ⟨by rw [HD.out]; rfl, by rw [HD.out]; exact HQ2.out.far HB1.out HLT.out (by simp) HLR.out⟩
    | cons x T =>
      have HD : Hid (doR (x :: T) base o = (some x, runR (x :: T) base x.id 1)) := HD0
      have hxb := hq.each x (by simp)
      rcases hA2 with ⟨_, h0, _⟩ | ⟨ga, rfl, hg1, hg2⟩
      · simp at h0
      have hcell : ∀ i, (hi : i < (flatM base (x :: T)).length) → w2.cell? (Addr.add ⟨ga, 0, none⟩ i) = some ((flatM base (x :: T))[i]) := fun i hi => by
        obtain ⟨ad, e, hc⟩ := hc2 i hi
        cases e
        exact hc
      have hx0 : w2.cell? ⟨ga, 0, none⟩ = some (.int .i64 x.id) := hcell 0 (by simp [flatM])
      have hx1 : w2.cell? ⟨ga, 1, none⟩ = some (.int .i64 x.wt) := hcell 1 (by simp [flatM])
      have hx2 : w2.cell? ⟨ga, 2, none⟩ = some (.int .i64 (x.v - base)) := hcell 2 (by simp [flatM])
      have hx3 : w2.cell? ⟨ga, 3, none⟩ = some (.int .i64 x.rem) := hcell 3 (by simp [flatM])
      have HS5 : Hid (∀ w' : World, w'.heap[ga]? = w2.heap[ga]? → w'.cell? ⟨ga, 0, none⟩ = some (.int .i64 x.id) ∧ w'.cell? ⟨ga, 1, none⟩ = some (.int .i64 x.wt) ∧ w'.cell? ⟨ga, 2, none⟩ = some (.int .i64 (x.v - base)) ∧ w'.cell? ⟨ga, 3, none⟩ = some (.int .i64 x.rem)) := Kit.hid (fun w' h => ⟨(cell_blk h).trans hx0, (cell_blk h).trans hx1, (cell_blk h).trans hx2, (cell_blk h).trans hx3⟩)
      have HGA : Hid (W1.heap.size ≤ ga ∧ ga < w2.heap.size) := Kit.hid ⟨hg1, hg2⟩
      have HRN : Hid (∀ w', QF F w' p (x :: T) base n → Calls Try.prog 14 #[.pointer (some ⟨p, 0, none⟩), .int .i64 x.id, .int .i64 1] w' fun e w'' => e = .returned (.int .i64 (runR (x :: T) base x.id 1).1) ∧ Qu w' F w'' p (runR (x :: T) base x.id 1).2.1 (runR (x :: T) base x.id 1).2.2 (n + 1)) := Kit.hid (fun w' h => qrun_any x.id 1 h hq (by omega) (by omega) (by omega))
      have HQF2 := Kit.hid (HQ1.out.below hb2)
      have hlen : ((x :: T).length : Int) > 0 := by simp
      clear hcell hx0 hx1 hx2 hx3 hc2 hn2 hg1 hg2 hxb hr2 hb2 HD0
      go_wp2_with fail
      refine wp_region_noPanic ?_
      refine wp_region_held_drew (S := fun (w' : World) => w'.heap[ga]? = w2.heap[ga]?) (by kernel_rfl) rfl (fun hHeld => ?_)
      refine wpAnyH_take (i := 0) (hi := by simp only [List.getElem?_toArray, List.getElem?_cons_succ, List.getElem?_cons_zero]; rfl) (v := ?_) (by kernel_rfl) (by kernel_rfl) (by kernel_rfl) (fun _ _ _ h => h) (Or.inl ⟨by rfl, ?_⟩) (by assumption) ?_
      rotate_left
      · (intro w hSw; (try dsimp only at hSw); go_simp; first | done | with_reducible rfl)
      try simp only [Act.put, List.setIfInBounds_toArray, List.set_cons_zero, List.set_cons_succ]
      refine wpAnyH_take (i := 1) (hi := by simp only [List.getElem?_toArray, List.getElem?_cons_succ, List.getElem?_cons_zero]; rfl) (v := ?_) (by kernel_rfl) (by kernel_rfl) (by kernel_rfl) (fun _ _ _ h => h) (Or.inl ⟨by rfl, ?_⟩) (by assumption) ?_
      rotate_left
      · (intro w hSw; (try dsimp only at hSw); (obtain ⟨z0, z1, z2, z3⟩ := HS5.out _ hSw); go_simp; first | done | with_reducible rfl)
      try simp only [Act.put, List.setIfInBounds_toArray, List.set_cons_zero, List.set_cons_succ]
      refine wpAnyH_take (i := 2) (hi := by simp only [List.getElem?_toArray, List.getElem?_cons_succ, List.getElem?_cons_zero]; rfl) (v := ?_) (by kernel_rfl) (by kernel_rfl) (by kernel_rfl) (fun _ _ _ h => h) (Or.inl ⟨by rfl, ?_⟩) (by assumption) ?_
      rotate_left
      · (intro w hSw; (try dsimp only at hSw); (obtain ⟨z0, z1, z2, z3⟩ := HS5.out _ hSw); go_simp; first | done | with_reducible rfl)
      try simp only [Act.put, List.setIfInBounds_toArray, List.set_cons_zero, List.set_cons_succ]
      refine wpAnyH_take (i := 3) (hi := by simp only [List.getElem?_toArray, List.getElem?_cons_succ, List.getElem?_cons_zero]; rfl) (v := ?_) (by kernel_rfl) (by kernel_rfl) (by kernel_rfl) (fun _ _ _ h => h) (Or.inl ⟨by rfl, ?_⟩) (by assumption) ?_
      rotate_left
      · (intro w hSw; (try dsimp only at hSw); go_simp; first | done | with_reducible rfl)
      try simp only [Act.put, List.setIfInBounds_toArray, List.set_cons_zero, List.set_cons_succ]
      refine wpAnyH_take (i := 4) (hi := by simp only [List.getElem?_toArray, List.getElem?_cons_succ, List.getElem?_cons_zero]; rfl) (v := ?_) (by kernel_rfl) (by kernel_rfl) (by kernel_rfl) (fun _ _ _ h => h) (Or.inl ⟨by rfl, ?_⟩) (by assumption) ?_
      rotate_left
      · (intro w hSw; (try dsimp only at hSw); go_simp; first | done | with_reducible rfl)
      try simp only [Act.put, List.setIfInBounds_toArray, List.set_cons_zero, List.set_cons_succ]
      refine wpAnyH_take (i := 5) (hi := by simp only [List.getElem?_toArray, List.getElem?_cons_succ, List.getElem?_cons_zero]; rfl) (v := ?_) (by kernel_rfl) (by kernel_rfl) (by kernel_rfl) (fun _ _ _ h => h) (Or.inl ⟨by rfl, ?_⟩) (by assumption) ?_
      rotate_left
      · (intro w hSw; (try dsimp only at hSw); (obtain ⟨z0, z1, z2, z3⟩ := HS5.out _ hSw); go_simp; first | done | with_reducible rfl)
      try simp only [Act.put, List.setIfInBounds_toArray, List.set_cons_zero, List.set_cons_succ]
      refine wpAnyH_take (i := 6) (hi := by simp only [List.getElem?_toArray, List.getElem?_cons_succ, List.getElem?_cons_zero]; rfl) (v := ?_) (by kernel_rfl) (by kernel_rfl) (by kernel_rfl) (fun _ _ _ h => h) (Or.inl ⟨by rfl, ?_⟩) (by assumption) ?_
      rotate_left
      · (intro w hSw; (try dsimp only at hSw); go_simp; first | done | with_reducible rfl)
      try simp only [Act.put, List.setIfInBounds_toArray, List.set_cons_zero, List.set_cons_succ]
      refine wpAnyH_take (i := 7) (hi := by simp only [List.getElem?_toArray, List.getElem?_cons_succ, List.getElem?_cons_zero]; rfl) (v := ?_) (by kernel_rfl) (by kernel_rfl) (by kernel_rfl) (fun _ _ _ h => h) (Or.inl ⟨by rfl, ?_⟩) (by assumption) ?_
      rotate_left
      · (intro w hSw; (try dsimp only at hSw); (obtain ⟨z0, z1, z2, z3⟩ := HS5.out _ hSw); go_simp; first | done | with_reducible rfl)
      try simp only [Act.put, List.setIfInBounds_toArray, List.set_cons_zero, List.set_cons_succ]
      refine wpAnyH_ready (rs := [8]) (by kernel_rfl) (by simp) ?_
      refine AllReadyH.cons (ho := by simp only [List.getElem?_toArray, List.getElem?_cons_succ, List.getElem?_cons_zero]; rfl) (fun K hK => ?_) (AllReadyH.nil)
      go_simp
      go_at_call 14; (with_reducible refine (HRN.out _ (HQF2.out.below (Below.refl _ w2).drew)).mono ?_); rintro e w4 ⟨rfl, hq4⟩
      have HQ4 : Hid (Qu W1 F w4 p (runR (x :: T) base x.id 1).2.1 (runR (x :: T) base x.id 1).2.2 (n + 1)) := Kit.hid (QF.lift (F := F) (HB2.out.drew) hq4)
      have HK4 := Kit.hid hq4.kept
      have hr4 := HRK.out _ _ _ _ HQ4.out
      have HR4 := Kit.hid hr4
      have r0 := blk_cell hr4 0
      have r1 := blk_cell hr4 1
      have r2 := blk_cell hr4 2
      have r3 := blk_cell hr4 3
      have f0 := blk_frozen hr4 0
      have f1 := blk_frozen hr4 1
      have f2 := blk_frozen hr4 2
      have f3 := blk_frozen hr4 3
      have lr := blk_lt hr4
      clear hq4 hr4
      go_wp2_with fail
      refine hK.out _ _ ?_ (fun hHeldN => ?_)
      · exact HK4.out.block ga HGA.out.2 (fun hf => by have := HLT.out _ hf; have := HGA.out.1; have := HB1.out.size; omega)
      clear hHeld
      have hHeld := hHeldN
      clear hHeldN
      clear hK K
      try simp only [Act.put, List.setIfInBounds_toArray, List.set_cons_zero, List.set_cons_succ]
      refine wpAnyH_ready (rs := [9]) (by kernel_rfl) (by simp) ?_
      refine AllReadyH.cons (ho := by simp only [List.getElem?_toArray, List.getElem?_cons_succ, List.getElem?_cons_zero]; rfl) (fun K hK => ?_) (AllReadyH.nil)
      go_simp
      go_wp2_with fail
      refine hK.out _ _ ?_ (fun hHeldN => ?_)
      · exact (set4 (by have := HGA.out.1; have := HLR.out; omega)).trans hHeld
      clear hHeld
      have hHeld := hHeldN
      clear hHeldN
      clear hK K
      try simp only [Act.put, List.setIfInBounds_toArray, List.set_cons_zero, List.set_cons_succ]
      refine wpAnyH_take (i := 10) (hi := by simp only [List.getElem?_toArray, List.getElem?_cons_succ, List.getElem?_cons_zero]; rfl) (v := ?_) (by kernel_rfl) (by kernel_rfl) (by kernel_rfl) (fun _ _ _ h => h) (Or.inl ⟨by rfl, ?_⟩) (by assumption) ?_
      rotate_left
      · (intro w hSw; (try dsimp only at hSw); go_simp; first | done | with_reducible rfl)
      try simp only [Act.put, List.setIfInBounds_toArray, List.set_cons_zero, List.set_cons_succ]
      clear hHeld
      refine wpAnyH_done (by kernel_rfl) ?_ _
      refine NoPanic.normal ?_
      skip
      go_wp2
      exact cell_tmp_ret rfl (w.heap.size + 1) _ _ _ _ rfl rfl (mem_store HR4.out) rfl ⟨by rw [HD.out]; rfl, by rw [HD.out]; exact HQ4.out.far HB1.out HLT.out (by simp) HLR.out⟩
  · have e1 : (o.d == 1) = false := by assumption
    have n1 := beq_eq_false_iff_ne.1 e1
    have e2 : (o.d == 2) = false := by assumption
    have n2 := beq_eq_false_iff_ne.1 e2
    have e3 : (o.d == 3) = false := by assumption
    have n3 := beq_eq_false_iff_ne.1 e3
    have e4 : (o.d == 4) = false := by assumption
    have n4 := beq_eq_false_iff_ne.1 e4
    have e5 : (o.d == 5) = false := by assumption
    have n5 := beq_eq_false_iff_ne.1 e5
    have HD : Hid (doR L base o = (none, 0, L, base)) := Kit.hid (by unfold doR; rw [if_neg n1, if_neg n2, if_neg n3, if_neg n4, if_neg n5])
    have HQ2 : Hid (Qu W1 F W1 p L base (n + 1)) := Kit.hid (HQ1.out.self.more (Nat.le_succ _))
    exact cell_tmp_ret rfl (w.heap.size + 1) _ _ _ _ rfl rfl HR1.out rfl ⟨by rw [HD.out]; rfl, by rw [HD.out]; exact QF.lift (F := F) HB1.out HQ2.out⟩

end
end Go.Proofs.Ytggcbeoinmnopaa.Qu

/- The walk of At, and New. -/
import Derived.Test.YtpgfenelckonoaaShJ
import Derived.Laws.ResultCell
namespace Go.Proofs.Ytpgfenelckonoaa.ShM
/-- The item with a rank. -/
def atT : T → Nat → It
  | .nil, _ => ⟨0, 0⟩
  | .node _ x l r, i => if i = l.many then x else if i < l.many then atT l i else atT r (i - (l.many + 1))
end Go.Proofs.Ytpgfenelckonoaa.ShM
namespace Go.Proofs.Ytpgfenelckonoaa.Sh
open Go.RowKit Go.Proofs.Ytpgfenelckonoaa.Kit Go.Proofs.Ytpgfenelckonoaa.ShM
set_option linter.unusedVariables false
set_option linter.unusedSimpArgs false
theorem lits54 (f : Nat → Value) : (List.range 54).map f = f 0 :: f 1 :: f 2 :: f 3 :: f 4 :: f 5 :: f 6 :: f 7 :: f 8 :: f 9 :: f 10 :: f 11 :: f 12 :: f 13 :: f 14 :: f 15 :: f 16 :: f 17 :: f 18 :: f 19 :: f 20 :: f 21 :: f 22 :: f 23 :: f 24 :: f 25 :: f 26 :: f 27 :: f 28 :: f 29 :: f 30 :: f 31 :: f 32 :: f 33 :: f 34 :: f 35 :: f 36 :: f 37 :: f 38 :: f 39 :: f 40 :: f 41 :: f 42 :: f 43 :: f 44 :: f 45 :: f 46 :: f 47 :: f 48 :: f 49 :: f 50 :: f 51 :: f 52 :: f 53 :: [] := rfl
def AtJ (t : T) (i0 : Nat) (p rb : Nat) (wb : World) (a' : Act) (wr : World) : Prop :=
  ∃ (s : T) (i : Nat), a'.tmps.size = 54 ∧ a'.defers = [] ∧ a'.tmps.getD 0 undef = .pointer (some ⟨p, 0, none⟩) ∧ a'.tmps.getD 1 undef = .int .i64 (i : Int) ∧ a'.tmps.getD 4 undef = .pointer (some ⟨rb, 0, none⟩) ∧ a'.tmps.getD 6 undef = .int .i64 (s.root : Int) ∧ Hid (Sub s t) ∧ Hid (atT s i = atT t i0) ∧ i < s.many ∧ Hid (Below wb.heap.size wb wr)
theorem AtJ.open {t : T} {i0 : Nat} {p rb : Nat} {wb : World} {a' : Act} {wr : World} (h : AtJ t i0 p rb wb a' wr) :
    ∃ (s : T) (i : Nat) (u : Nat → Value), a' = { tmps := (.pointer (some ⟨p, 0, none⟩) :: .int .i64 (i : Int) :: u 2 :: u 3 :: .pointer (some ⟨rb, 0, none⟩) :: u 5 :: .int .i64 (s.root : Int) :: u 7 :: u 8 :: u 9 :: u 10 :: u 11 :: u 12 :: u 13 :: u 14 :: u 15 :: u 16 :: u 17 :: u 18 :: u 19 :: u 20 :: u 21 :: u 22 :: u 23 :: u 24 :: u 25 :: u 26 :: u 27 :: u 28 :: u 29 :: u 30 :: u 31 :: u 32 :: u 33 :: u 34 :: u 35 :: u 36 :: u 37 :: u 38 :: u 39 :: u 40 :: u 41 :: u 42 :: u 43 :: u 44 :: u 45 :: u 46 :: u 47 :: u 48 :: u 49 :: u 50 :: u 51 :: u 52 :: u 53 :: []).toArray, defers := [] } ∧ Hid (Sub s t) ∧ Hid (atT s i = atT t i0) ∧ i < s.many ∧ Hid (Below wb.heap.size wb wr) := by
  obtain ⟨s, i, hs, hd, h0, h1, h4, h6, rest⟩ := h
  obtain ⟨⟨l⟩, df⟩ := a'
  cases hd
  have e := (list_lits l 54 hs).trans (lits54 _)
  have g : ∀ i, l.getD i undef = (Array.mk l).getD i undef := fun i => by by_cases h : i < l.length <;> simp [Array.getD, h]
  rw [g 0, h0, g 1, h1, g 4, h4, g 6, h6] at e
  exact ⟨s, i, fun i => l.getD i undef, congrArg (fun x => (⟨Array.mk x, []⟩ : Act)) e, rest⟩
/-- What At tells. -/
def AtPost (w : World) (x : It) (b : Bool) (e : Ending) (w' : World) : Prop := e = .returned (.tuple #[.agg #[.int .i64 x.key, .int .i64 x.id], .bool b]) ∧ Below w.heap.size w w'
theorem item_store {w : World} {g : Nat} {u v a b : Value} (h : w.heap[g]? = some (.cells #[u, v] 107 (0, 0))) : ((w.setCell ⟨g, 0, none⟩ a).setCell ⟨g, 1, none⟩ b).heap[g]? = some (.cells #[a, b] 107 (0, 0)) :=
  blk_put (blk_put h 0 a (cs' := #[a, v]) rfl) 1 b (cs' := #[a, b]) rfl
theorem at_ret {w wf : World} {rb : Nat} {x : It} {b : Bool} {a : Act} (hb : wf.heap[rb]? = some (.cells #[.int .i64 x.key, .int .i64 x.id] 107 (0, 0))) (ha : a.tmps.getD 4 undef = .pointer (some ⟨rb, 0, none⟩)) (h5 : a.tmps.getD 5 undef = .bool b) (hd : a.defers = []) (hbel : Below w.heap.size w wf) :
    bodyPost Try.prog Try.f60 (AtPost w x b) .ret a wf := by
  have ha' : a.tmps[4]?.getD undef = .pointer (some ⟨rb, 0, none⟩) := by simpa using ha
  refine bodyPost_ret (v := .tuple #[.agg #[.int .i64 x.key, .int .i64 x.id], .bool b]) ?_ hd ⟨rfl, hbel⟩
  rw [results_cell_tmp (fn := Try.f60) rfl]
  simp [ha', h5, asAddr, run_loadVar_row wf rb 107 107 #[.int .i64 x.key, .int .i64 x.id] (0, 0) _ hb Try.underlying107 rfl (by kernel_rfl)]
section
variable {w0 w w' : World} {S0 : Nat → Prop} {p n : Nat} {t : T}
set_option maxRecDepth 100000 in
theorem at_out (rank : Int) (h : Shelf w0 S0 w p t n) (hn : n ≤ 549755813888) (hr : rank < 0 ∨ (t.many : Int) ≤ rank) :
    Calls Try.prog 60 #[.pointer (some ⟨p, 0, none⟩), .int .i64 rank] w (AtPost w ⟨0, 0⟩ false) := by
  have HB := Kit.hid ((Below.refl w.heap.size w).alloc (Nat.le_refl _) (.cells #[.int .i64 0, .int .i64 0] 107))
  obtain ⟨wb, hwb⟩ : ∃ wb, wb = w.alloc (.cells #[.int .i64 0, .int .i64 0] 107) := ⟨_, rfl⟩
  have hs := h.below HB.out
  rw [← hwb] at hs
  have CL := Kit.hid (len_any hs)
  obtain ⟨gl, cl, vf, L, F, h'⟩ := hs
  obtain ⟨p0, p1, p2, _, _, _⟩ := h'.sh.pcells
  obtain ⟨rb, hrb⟩ : ∃ rb, rb = w.heap.size := ⟨_, rfl⟩
  have hcr : wb.heap[rb]? = some (.cells #[.int .i64 0, .int .i64 0] 107 (0, 0)) := by rw [hwb, hrb]; exact blk_new _ _
  have r0 := blk_cell hcr 0
  have r1 := blk_cell hcr 1
  have f0 := blk_frozen hcr 0
  have f1 := blk_frozen hcr 1
  have HCR := Kit.hid hcr
  have HWB := Kit.hid hwb
  have HBW : Hid (Below w.heap.size w wb) := Kit.hid (by rw [hwb]; exact HB.out)
  have HRB := Kit.hid hrb
  clear h h' hwb hrb hcr
  by_cases h1 : rank < 0
  · have g1 : decide (rank < 0) = true := decide_eq_true h1
    clear hr
    go_enter Try.func60, Try.ntmps60
    go_wp2_with fail
    rw [← HWB.out, ← HRB.out]
    refine scope_label 0 (fun _ _ => False) (fun _ _ => 0) rfl (fun _ _ h => h.elim) ?_
    intro _
    go_wp2
    simp only [Exit.jump]
    exact at_ret (x := ⟨0, 0⟩) (item_store HCR.out) rfl rfl rfl ((HBW.out.setCell (p := ⟨rb, 0, none⟩) (by rw [HRB.out]; exact Nat.le_refl _) _).setCell (p := ⟨rb, 1, none⟩) (by rw [HRB.out]; exact Nat.le_refl _) _)
  · have g1 : decide (rank < 0) = false := decide_eq_false h1
    have g2 : decide ((t.many : Int) ≤ rank) = true := decide_eq_true (by omega)
    clear hr
    go_enter Try.func60, Try.ntmps60
    go_wp2_with fail
    rw [← HWB.out, ← HRB.out]
    refine scope_label 0 (fun _ _ => False) (fun _ _ => 0) rfl (fun _ _ h => h.elim) ?_
    intro _
    go_wp2_with fail
    (with_reducible refine CL.out.mono ?_); rintro e w2 ⟨rfl, m2, rfl⟩
    go_wp2
    simp only [Exit.jump]
    exact at_ret (x := ⟨0, 0⟩) (item_store (w := wb.drewN m2) HCR.out) rfl rfl rfl (((below_drewN HBW.out m2).setCell (p := ⟨rb, 0, none⟩) (by rw [HRB.out]; exact Nat.le_refl _) _).setCell (p := ⟨rb, 1, none⟩) (by rw [HRB.out]; exact Nat.le_refl _) _)
set_option maxRecDepth 100000 in
set_option maxHeartbeats 1600000 in
theorem at_in (i0 : Nat) (h : Shelf w0 S0 w p t n) (hn : n ≤ 549755813888) (hr : i0 < t.many) :
    Calls Try.prog 60 #[.pointer (some ⟨p, 0, none⟩), .int .i64 (i0 : Int)] w (AtPost w (atT t i0) true) := by
  have HB := Kit.hid ((Below.refl w.heap.size w).alloc (Nat.le_refl _) (.cells #[.int .i64 0, .int .i64 0] 107))
  obtain ⟨wb, hwb⟩ : ∃ wb, wb = w.alloc (.cells #[.int .i64 0, .int .i64 0] 107) := ⟨_, rfl⟩
  have hs := h.below HB.out
  rw [← hwb] at hs
  have CL := Kit.hid (len_any hs)
  obtain ⟨gl, cl, vf, L, F, h'⟩ := hs
  obtain ⟨p0, p1, p2, _, _, _⟩ := h'.sh.pcells
  obtain ⟨rb, hrb⟩ : ∃ rb, rb = w.heap.size := ⟨_, rfl⟩
  have hcr : wb.heap[rb]? = some (.cells #[.int .i64 0, .int .i64 0] 107 (0, 0)) := by rw [hwb, hrb]; exact blk_new _ _
  have HCR := Kit.hid hcr
  have HWB := Kit.hid hwb
  have HBW : Hid (Below w.heap.size w wb) := Kit.hid (by rw [hwb]; exact HB.out)
  have HRB := Kit.hid hrb
  have HH := Kit.hid h'
  have hml := h'.fit.many_lt
  have hll := h'.len
  have hpw := h'.sh.plt
  clear h h' hwb hrb hcr
  have g1 : decide ((i0 : Int) < 0) = false := decide_eq_false (by omega)
  have g2 : decide (t.many ≤ i0) = false := decide_eq_false (by omega)
  go_enter Try.func60, Try.ntmps60
  go_wp2_with fail
  rw [← HWB.out, ← HRB.out]
  refine scope_label 0 (AtJ t i0 p rb wb) (fun a' _ => t.big (intOf (a'.tmps.getD 6 undef)).toNat) rfl ?_ ?_
  · rintro a' wr hJ
    obtain ⟨s, i, u, rfl, hsub, hfi, hi, hb⟩ := hJ.open
    clear hJ
    have hfit := hsub.out.fit HH.out.fit
    have hr := HH.out.sh.below hb.out
    have hcr := blk_below HCR.out hb.out
    obtain ⟨q0, q1, q2, _, _, _⟩ := hr.pcells
    have r0 := blk_cell hcr 0
    have r1 := blk_cell hcr 1
    have f0 := blk_frozen hcr 0
    have f1 := blk_frozen hcr 1
    have hg := hr.glt
    have hp := hr.plt
    have hrl := blk_lt hcr
    cases s with
    | nil => exact absurd hi (Nat.not_lt_zero _)
    | node k y l r =>
      obtain ⟨a0, a1, a2, a3, a4, a5⟩ := hr.ncells hfit.holds.node
      replace a0 : wr.cell? ⟨gl, k * 6, none⟩ = some (.int .i64 y.key) := a0
      replace a1 : wr.cell? ⟨gl, k * 6 + 1, none⟩ = some (.int .i64 y.id) := a1
      replace a2 : wr.cell? ⟨gl, k * 6 + 2, none⟩ = some (.int .i64 (l.root : Int)) := a2
      replace a3 : wr.cell? ⟨gl, k * 6 + 3, none⟩ = some (.int .i64 (r.root : Int)) := a3
      obtain ⟨mn, hmn⟩ : ∃ mn, mn = (ndOf y l r).many := ⟨_, rfl⟩
      obtain ⟨dp, hdp⟩ : ∃ dp, dp = (ndOf y l r).deep := ⟨_, rfl⟩
      rw [← hmn] at a4
      rw [← hdp] at a5
      obtain ⟨nl, hnl, hnl2, _⟩ := hfit.left.holds.top HH.out.zero
      obtain ⟨b0, b1, b2, b3, b4, b5⟩ := hr.ncells hnl
      rw [hnl2] at b4
      clear b0 b1 b2 b3 b5
      have hk := (List.getElem?_eq_some_iff.1 hfit.holds.node).1
      have hkl := (List.getElem?_eq_some_iff.1 hnl).1
      have z1 : (0 : Int) ≤ (k : Int) := by omega
      have y1 : (k : Int) < (L.length : Int) := by omega
      have z2 : (0 : Int) ≤ (l.root : Int) := by omega
      have y2 : (l.root : Int) < (L.length : Int) := by omega
      have hlm : l.many ≤ L.length := hfit.left.many_lt
      have him : i ≤ 1099511627776 := by have := hfit.many_lt; omega
      have hlm2 : l.many ≤ 1099511627776 := by omega
      have r00 : ((T.node k y l r).root : Int) = (k : Int) := rfl
      rw [r00]
      have HI := Kit.hid hi
      have HSZ := Kit.hid (Sub.big_root HH.out.fit.nodup HH.out.fit.pos hsub.out)
      have HSL := Kit.hid (Sub.left hsub.out)
      have HSR := Kit.hid (Sub.right hsub.out)
      have HZL := Kit.hid (Sub.big_root HH.out.fit.nodup HH.out.fit.pos HSL.out)
      have HZR := Kit.hid (Sub.big_root HH.out.fit.nodup HH.out.fit.pos HSR.out)
      have HCR2 := Kit.hid hcr
      clear hi hr hcr hfit hnl hnl2 hkl hk r00 hsub hmn hdp p0 p1 p2
      by_cases hil : i = l.many
      · subst hil
        have HF1 : Hid (atT t i0 = y) := Kit.hid (by rw [← hfi.out, atT, if_pos rfl])
        go_wp2
        go_quiet (fail)
        go_wp2
        simp only [Exit.jump]
        rw [HF1.out]
        have hbw := HBW.out.trans (hb.out.mono HBW.out.size)
        exact at_ret (x := y) (item_store (w := World.drewN (wr.alloc _) nq) (blk_alloc HCR2.out _)) rfl rfl rfl (((below_drewN (hbw.alloc hbw.size _) nq).setCell (p := ⟨rb, 0, none⟩) (by rw [HRB.out]; exact Nat.le_refl _) _).setCell (p := ⟨rb, 1, none⟩) (by rw [HRB.out]; exact Nat.le_refl _) _)
      · have g3 : ((i : Int) == (l.many : Int)) = false := beq_eq_false_iff_ne.2 (by omega)
        by_cases hlt : i < l.many
        · have g4 : decide (l.many < i) = false := decide_eq_false (by omega)
          have HF2 : Hid (atT l i = atT t i0) := Kit.hid (by rw [← hfi.out, atT, if_neg hil, if_pos hlt])
          go_wp2
          go_quiet (fail)
          go_wp2
          go_step3
          refine ⟨rfl, ⟨l, i, rfl, rfl, rfl, rfl, rfl, rfl, HSL, HF2, hlt, Kit.hid (below_drewN (hb.out.alloc hb.out.size _) _)⟩, ?_⟩
          have h1 := HSZ.out
          have h2 := HZL.out
          simp only [T.root] at h1
          show t.big (intOf (.int .i64 (l.root : Int))).toNat < t.big (intOf (.int .i64 (k : Int))).toNat
          simp only [intOf, Int.toNat_natCast]
          rw [h1, h2, T.many]; omega
        · have g4 : l.many < i := by omega
          have HF2 : Hid (atT r (i - (l.many + 1)) = atT t i0) := Kit.hid (by rw [← hfi.out, atT, if_neg hil, if_neg hlt])
          go_wp2
          go_quiet (fail)
          go_wp2
          go_step3
          refine ⟨rfl, ⟨r, i - (l.many + 1), rfl, rfl, rfl, (congrArg (Value.int .i64) (by omega)), rfl, rfl, HSR, HF2, (by have := HI.out; simp only [T.many] at this; omega), Kit.hid (below_drewN (hb.out.alloc hb.out.size _) _)⟩, ?_⟩
          have h1 := HSZ.out
          have h2 := HZR.out
          simp only [T.root] at h1
          show t.big (intOf (.int .i64 (r.root : Int))).toNat < t.big (intOf (.int .i64 (k : Int))).toNat
          simp only [intOf, Int.toNat_natCast]
          rw [h1, h2, T.many]; omega
  · intro HF
    go_wp2_with fail
    (with_reducible refine CL.out.mono ?_); rintro e w2 ⟨rfl, m2, rfl⟩
    go_wp2
    go_step3
    rename_i K hK
    refine hK _ _ ?_
    exact HF.out _ _ ⟨t, i0, rfl, rfl, rfl, rfl, rfl, rfl, Kit.hid (Sub.refl t), Kit.hid rfl, hr, Kit.hid (below_drewN (Below.refl _ _) _)⟩
end
end Go.Proofs.Ytpgfenelckonoaa.Sh

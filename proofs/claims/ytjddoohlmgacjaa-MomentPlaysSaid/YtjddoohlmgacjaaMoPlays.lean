/- The law MomentPlays. -/
import Derived.Test.YtjddoohlmgacjaaMoE
import Derived.Test.YtjddoohlmgacjaaMoMeans
import Derived.Test.YtjddoohlmgacjaaHeldT
import Derived.Test.YtjddoohlmgacjaaMoC
namespace Go.Proofs.Ytjddoohlmgacjaa.Mo
open Go.RowKit Go.Proofs.Ytjddoohlmgacjaa.Kit Go.Proofs.Ytjddoohlmgacjaa.Flo Go.IntWalk
set_option linter.unusedVariables false
set_option linter.unusedSimpArgs false
theorem own_block3 {w2 : World} {g : Nat} {c d e : Value} (b1 : w2.heap[g]? = some (.cells #[c, d, e] 39 (0, 0))) (u v : Value) :
    w2.cell? ⟨g, 0, none⟩ = some c ∧ w2.cell? ⟨g, 1, none⟩ = some d ∧ w2.cell? ⟨g, 2, none⟩ = some e ∧ w2.frozen? ⟨g, 0, none⟩ = false ∧ w2.frozen? ⟨g, 1, none⟩ = false ∧ w2.frozen? ⟨g, 2, none⟩ = false ∧
      (w2.setCell ⟨g, 0, none⟩ u).cell? ⟨g, 1, none⟩ = some d ∧ (w2.setCell ⟨g, 0, none⟩ u).frozen? ⟨g, 1, none⟩ = false ∧
      ((w2.setCell ⟨g, 0, none⟩ u).setCell ⟨g, 1, none⟩ v).cell? ⟨g, 2, none⟩ = some e ∧ ((w2.setCell ⟨g, 0, none⟩ u).setCell ⟨g, 1, none⟩ v).frozen? ⟨g, 2, none⟩ = false := by
  have b2 := blk_put b1 0 u (cs' := #[u, d, e]) rfl
  have b3 := blk_put b2 1 v (cs' := #[u, v, e]) rfl
  exact ⟨(blk_cell b1 0).trans rfl, (blk_cell b1 1).trans rfl, (blk_cell b1 2).trans rfl, blk_frozen b1 0, blk_frozen b1 1, blk_frozen b1 2, (blk_cell b2 1).trans rfl, blk_frozen b2 1, (blk_cell b3 2).trans rfl, blk_frozen b3 2⟩
theorem own_done3 {w2 : World} {g : Nat} {c d e : Value} (b1 : w2.heap[g]? = some (.cells #[c, d, e] 39 (0, 0))) (u v x : Value) :
    (((w2.setCell ⟨g, 0, none⟩ u).setCell ⟨g, 1, none⟩ v).setCell ⟨g, 2, none⟩ x).heap[g]? = some (.cells #[u, v, x] 39 (0, 0)) := blk_put (blk_put (blk_put b1 0 u (cs' := #[u, d, e]) rfl) 1 v (cs' := #[u, v, e]) rfl) 2 x (cs' := #[u, v, x]) rfl
theorem one_at {w : World} {ad : Addr} {l : List One} {i : Nat} {o : One} (h : Hid (Ones w (some ad) l)) (hi : i < l.length) (ho : o = l[i]) :
    w.cell? (ad.add (i * 3)) = some (.int .i32 o.b) ∧ w.cell? ⟨(ad.add (i * 3)).block, (ad.add (i * 3)).off + 1, none⟩ = some (.int .u32 o.w) ∧ w.cell? ⟨(ad.add (i * 3)).block, (ad.add (i * 3)).off + 2, none⟩ = some (.bool o.out) := by
  obtain ⟨ad', e, k0, k1, k2⟩ := h.out i hi
  cases e
  rw [add_part ad (i * 3) 1 (by decide)] at k1
  rw [add_part ad (i * 3) 2 (by decide)] at k2
  rw [ho]
  exact ⟨k0, k1, k2⟩
set_option maxHeartbeats 16000000 in
theorem playsLaw_any (n : Int) (A : Option Addr) (l : List One) (cap : Nat) (at_ : Int) (w : World) (ho : Hid (Ones w A l)) (hwf : ∀ o ∈ l, o.Wf) (hat : -2147483648 ≤ at_ ∧ at_ ≤ 2147483647) :
    Calls Try.prog 5 #[.int .i64 n, .slice A l.length cap, .int .i32 at_] w (ValPost w (.bool true)) := by
  have HAW := Kit.hid awake_any
  by_cases hl : 60 < l.length
  · have g1 : (60 : Int) < (l.length : Int) := by omega
    go_enter Try.func5, Try.ntmps5
    go_wp2_with (go_at_call 9; refine (HAW.out _).mono ?_; rintro e w1 ⟨rfl, hd1⟩)
    go_ret
    exact ⟨rfl, hd1⟩
  have g1 : ¬ (60 : Int) < (l.length : Int) := by omega
  have hl60 : l.length ≤ 60 := by omega
  have HB := Kit.hid (based_any n)
  have hb := based_bd n
  obtain ⟨b, hb'⟩ : ∃ b, b = basedOf n := ⟨_, rfl⟩
  rw [← hb'] at HB hb
  clear hb'
  have HN := Kit.hid (fun w' => new_any b w')
  have HWF := Kit.hid hwf
  have HBB := Kit.hid hb
  have hst := store_complex
  clear hwf hb hl
  unfold mo at HN
  go_enter Try.func5, Try.ntmps5
  go_wp2_with (first
    | (go_at_call 9; refine (HAW.out _).mono ?_; rintro e w1 ⟨rfl, hd1⟩)
    | (go_at_call 10; refine (HB.out _).mono ?_; rintro e w9 ⟨rfl, rfl⟩)
    | (go_at_call 18; refine (HN.out _).mono ?_; rintro e w2 ⟨rfl, hd2⟩))
  have hb2 := Kit.hid (hd1.trans (hd2.mono hd1.size))
  obtain ⟨gm, hgm⟩ : ∃ g, g = w2.heap.size := ⟨_, rfl⟩
  obtain ⟨gw, hgw⟩ : ∃ g, g = (w2.alloc (.cells #[.int .i64 b, .complex .f64 (fi 0) (fi 0)] 27)).heap.size := ⟨_, rfl⟩
  have hgw1 : gw = gm + 1 := by rw [hgw, hgm]; simp
  have HM := Kit.hid (blk_alloc (blk_new w2 (.cells #[.int .i64 b, .complex .f64 (fi 0) (fi 0)] 27)) (.cells #[.int .i64 b, .int .i64 0, .int .i64 0] 39))
  have HW := Kit.hid (blk_new (w2.alloc (.cells #[.int .i64 b, .complex .f64 (fi 0) (fi 0)] 27)) (.cells #[.int .i64 b, .int .i64 0, .int .i64 0] 39))
  have HD := Kit.hid ((hb2.out.alloc hb2.out.size (.cells #[.int .i64 b, .complex .f64 (fi 0) (fi 0)] 27)).alloc (by have := hb2.out.size; simp; omega) (.cells #[.int .i64 b, .int .i64 0, .int .i64 0] 39))
  have HGM : Hid (w.heap.size ≤ gm) := Kit.hid (by rw [hgm]; exact hb2.out.size)
  have HGW : Hid (w.heap.size ≤ gw) := Kit.hid (by have := HGM.out; omega)
  have HNE : Hid (gm ≠ gw) := Kit.hid (by omega)
  obtain ⟨ws, hws⟩ : ∃ x, x = (w2.alloc (.cells #[.int .i64 b, .complex .f64 (fi 0) (fi 0)] 27)).alloc (.cells #[.int .i64 b, .int .i64 0, .int .i64 0] 39) := ⟨_, rfl⟩
  rw [← hws] at HM HW HD ⊢
  rw [← hgm] at HM
  rw [← hgw] at HW
  have hgw2 : w2.heap.size + 1 = gw := by omega
  rw [← hgm] at hgw2 ⊢
  rw [hgw2]
  clear hws hgm hgw hgw1 hgw2 hd1 hd2 hb2
  go_loopw [11] (fun v11 wr => ∃ (i : Nat) (W P : Int), i ≤ l.length ∧ v11 = .int .i64 i ∧ 0 ≤ W ∧ W ≤ 1048576 * (i : Int) ∧ -(1099511627776 * (i : Int)) ≤ P ∧ P ≤ 1099511627776 * (i : Int) ∧ Hid (wr.heap[gm]? = some (.cells #[.int .i64 b, .complex .f64 (fi W) (fi P)] 27 (0, 0))) ∧ Hid (wr.heap[gw]? = some (.cells #[.int .i64 b, .int .i64 W, .int .i64 P] 39 (0, 0))) ∧ Hid (Below w.heap.size w wr)) (fun i _ => l.length - (intOf i).toNat)
  case atStart => exact ⟨0, 0, 0, by omega, rfl, by omega, by omega, by omega, by omega, HM, HW, HD⟩
  case round =>
    obtain ⟨i, W, P, hi, rfl, hW0, hW1, hP0, hP1, hm, hw, hB⟩ := hrel
    have hb := HBB.out
    by_cases hlt : i < l.length
    · obtain ⟨ad, hA, q0, q1, q2⟩ := (ones_below ho hB.out).out i hlt
      clear q0 q1 q2
      subst hA
      obtain ⟨o, hoo⟩ : ∃ o, o = l[i] := ⟨_, rfl⟩
      obtain ⟨k0, k1, k2⟩ := one_at (ones_below ho hB.out) hlt hoo
      have hwf := HWF.out l[i] (List.getElem_mem hlt)
      rw [← hoo] at hwf
      have ob := o.wt_bd
      have lb := o.lag_bd
      have mb := mul_bd o
      have HBY := Kit.hid (fun w' => by_any o hwf w')
      have HWT := Kit.hid (fun w' => wt_any o hwf w')
      obtain ⟨ou, hout⟩ : ∃ x, x = o.out := ⟨_, rfl⟩
      obtain ⟨wt, hwt⟩ : ∃ x, x = o.wt := ⟨_, rfl⟩
      obtain ⟨lag, hlag⟩ : ∃ x, x = o.lag := ⟨_, rfl⟩
      unfold One.val at HBY HWT
      rw [← hout] at HBY HWT k2
      rw [← hwt] at HWT ob mb
      rw [← hlag] at HBY lb mb
      have hmul : wt.natAbs * lag.natAbs < 9007199254740992 := by rw [← Int.natAbs_mul]; omega
      have HAD : Hid (∀ w', Calls Try.prog 17 #[mo b W P, .int .i64 (b + lag), .int .i64 wt] w' (ValPost w' (mo b (W + wt) (P + wt * lag)))) :=
        Kit.hid (fun w' => add_any b W P (b + lag) wt lag w' (by omega) (by omega) ob.1 (by omega) hmul (by omega) (by omega) (by omega) (by omega))
      have HTK : Hid (∀ w', Calls Try.prog 20 #[mo b (W + wt) (P + wt * lag), .int .i64 (b + lag), .int .i64 wt] w' (ValPost w' (mo b W P))) :=
        Kit.hid (fun w' => by
          have := take_any b (W + wt) (P + wt * lag) (b + lag) wt lag w' (by omega) (by omega) ob.1 (by omega) hmul (by omega) (by omega) (by omega) (by omega)
          rw [Int.add_sub_cancel, Int.add_sub_cancel] at this
          exact this)
      have HRA : Hid (∀ w', Calls Try.prog 19 #[rm b W P, .int .i64 (b + lag), .int .i64 wt, .int .i64 1] w' (ValPost w' (rm b (W + wt) (P + wt * lag)))) :=
        Kit.hid (fun w' => by
          have := radd_any b W P (b + lag) wt 1 lag w' (by omega) (by omega) (by omega) (by omega) (by rw [Int.one_mul]; omega) (by rw [Int.one_mul]; omega)
          rw [Int.one_mul] at this
          exact this)
      have HRT : Hid (∀ w', Calls Try.prog 19 #[rm b (W + wt) (P + wt * lag), .int .i64 (b + lag), .int .i64 wt, .int .i64 (-1)] w' (ValPost w' (rm b W P))) :=
        Kit.hid (fun w' => by
          have e1 : -1 * wt = -wt := by omega
          have e2 : -1 * wt * lag = -(wt * lag) := by rw [e1, Int.neg_mul]
          have := radd_any b (W + wt) (P + wt * lag) (b + lag) wt (-1) lag w' (by omega) (by omega) (by omega) (by omega) (by rw [e2]; omega) (by rw [e2]; omega)
          rw [e2, e1, Int.add_neg_cancel_right, Int.add_neg_cancel_right] at this
          exact this)
      have r1 : IntKind.i64.wrap (b + lag) = b + lag := i64_in _ (by omega)
      have r2 : wrap64 (b + lag) = b + lag := by unfold wrap64; omega
      have hlt1 : (i : Int) < (l.length : Int) := by omega
      have hlt0 : (0 : Int) ≤ (i : Int) := by omega
      have HBD := Kit.hid (⟨ob, mb⟩ : (0 ≤ wt ∧ wt ≤ 1048576) ∧ (-1099511627776 ≤ wt * lag ∧ wt * lag ≤ 1099511627776))
      have HWB := Kit.hid (⟨⟨hW0, hW1⟩, hP0, hP1⟩ : (0 ≤ W ∧ W ≤ 1048576 * (i : Int)) ∧ -(1099511627776 * (i : Int)) ≤ P ∧ P ≤ 1099511627776 * (i : Int))
      have HOO := Kit.hid hoo
      have HOUT := Kit.hid hout
      unfold mo at HAD HTK
      unfold rm at HRA HRT
      clear hmul ob lb mb hW0 hW1 hP0 hP1 hwt hlag hwf hoo hout hb
      go_wp2_with (go_at_call 13; refine (HBY.out _).mono ?_; rintro e w2 ⟨rfl, hd2⟩; have hm := Kit.hid (blk_below hm.out hd2); have hw := Kit.hid (blk_below hw.out hd2); have hB := hid_below hB hd2)
      obtain ⟨wc, hwc⟩ : ∃ x, x = w2 := ⟨_, rfl⟩
      subst hwc
      obtain ⟨k0, k1, k2⟩ := one_at (ones_below ho hB.out) hlt HOO.out
      rw [← HOUT.out] at k2
      cases ou with
      | false =>
        obtain ⟨c0, c1, _, _, _, _⟩ := own_block hm.out (.int .i64 b)
        refine wp_region_noPanic ?_
        refine wp_region_T (fun w' => w'.cell? ⟨gm, 0, none⟩ = some (.int .i64 b) ∧ w'.cell? ⟨gm, 1, none⟩ = some (.complex .f64 (fi (W)) (fi (P))) ∧ w'.cell? (ad.add (i * 3)) = some (.int .i32 o.b) ∧ w'.cell? ⟨(ad.add (i * 3)).block, (ad.add (i * 3)).off + 1, none⟩ = some (.int .u32 o.w) ∧ w'.cell? ⟨(ad.add (i * 3)).block, (ad.add (i * 3)).off + 2, none⟩ = some (.bool false)) 8 (by kernel_rfl) ⟨c0, c1, k0, k1, k2⟩ (fun hHeld => ?_)
        refine wpAnyT_take (i := 0) (hi := by simp only [List.getElem?_toArray, List.getElem?_cons_succ, List.getElem?_cons_zero]; rfl) (v := ?_) (by kernel_rfl) (by kernel_rfl) (by kernel_rfl) (by kernel_rfl) (fun _ _ _ h => h) (Or.inl ⟨by rfl, ?_⟩) (by assumption) ?_
        rotate_left
        · (intro w hSw; (try dsimp only at hSw); go_simp; first | done | with_reducible rfl)
        try simp only [Act.put, List.setIfInBounds_toArray, List.set_cons_zero, List.set_cons_succ]
        refine wpAnyT_take (i := 1) (hi := by simp only [List.getElem?_toArray, List.getElem?_cons_succ, List.getElem?_cons_zero]; rfl) (v := ?_) (by kernel_rfl) (by kernel_rfl) (by kernel_rfl) (by kernel_rfl) (fun _ _ _ h => h) (Or.inl ⟨by rfl, ?_⟩) (by assumption) ?_
        rotate_left
        · (intro w hSw; (try dsimp only at hSw); go_simp; first | done | with_reducible rfl)
        try simp only [Act.put, List.setIfInBounds_toArray, List.set_cons_zero, List.set_cons_succ]
        refine wpAnyT_take (i := 2) (hi := by simp only [List.getElem?_toArray, List.getElem?_cons_succ, List.getElem?_cons_zero]; rfl) (v := ?_) (by kernel_rfl) (by kernel_rfl) (by kernel_rfl) (by kernel_rfl) (fun _ _ _ h => h) (Or.inl ⟨by rfl, ?_⟩) (by assumption) ?_
        rotate_left
        · (intro w hSw; (try dsimp only at hSw); go_simp; first | done | with_reducible rfl)
        try simp only [Act.put, List.setIfInBounds_toArray, List.set_cons_zero, List.set_cons_succ]
        refine wpAnyT_take (i := 3) (hi := by simp only [List.getElem?_toArray, List.getElem?_cons_succ, List.getElem?_cons_zero]; rfl) (v := ?_) (by kernel_rfl) (by kernel_rfl) (by kernel_rfl) (by kernel_rfl) (fun _ _ _ h => h) (Or.inl ⟨by rfl, ?_⟩) (by assumption) ?_
        rotate_left
        · (intro w hSw; (try dsimp only at hSw); go_simp; first | done | with_reducible rfl)
        try simp only [Act.put, List.setIfInBounds_toArray, List.set_cons_zero, List.set_cons_succ]
        refine wpAnyT_take (i := 4) (hi := by simp only [List.getElem?_toArray, List.getElem?_cons_succ, List.getElem?_cons_zero]; rfl) (v := ?_) (by kernel_rfl) (by kernel_rfl) (by kernel_rfl) (by kernel_rfl) (fun _ _ _ h => h) (Or.inl ⟨by rfl, ?_⟩) (by assumption) ?_
        rotate_left
        · (intro w hSw; (try dsimp only at hSw); go_simp; first | done | with_reducible rfl)
        try simp only [Act.put, List.setIfInBounds_toArray, List.set_cons_zero, List.set_cons_succ]
        refine wpAnyT_take (i := 5) (hi := by simp only [List.getElem?_toArray, List.getElem?_cons_succ, List.getElem?_cons_zero]; rfl) (v := ?_) (by kernel_rfl) (by kernel_rfl) (by kernel_rfl) (by kernel_rfl) (fun _ _ _ h => h) (Or.inl ⟨by rfl, ?_⟩) (by assumption) ?_
        rotate_left
        · (intro w hSw; (try dsimp only at hSw); go_simp; first | done | with_reducible rfl)
        try simp only [Act.put, List.setIfInBounds_toArray, List.set_cons_zero, List.set_cons_succ]
        refine wpAnyT_step (i := 6) (by kernel_rfl) (ho := by simp only [List.getElem?_toArray, List.getElem?_cons_succ, List.getElem?_cons_zero]; rfl) (fun K hK => ?_)
        go_simp
        first
          | (go_at_call 12; refine (HWT.out _).mono ?_; rintro e w2 ⟨rfl, hd2⟩; have hB := Kit.hid hB.out.drew; have hm := Kit.hid (blk_below (w := wc.drew) hm.out hd2); have hw := Kit.hid (blk_below (w := wc.drew) hw.out hd2); have hB := hid_below hB hd2)
          | (go_at_call 17; refine (HAD.out _).mono ?_; rintro e w2 ⟨rfl, hd2⟩; have hm := Kit.hid (blk_below hm.out hd2); have hw := Kit.hid (blk_below hw.out hd2); have hB := hid_below hB hd2; obtain ⟨c0, c1, z0, z1, _, z2⟩ := own_block hm.out (.int .i64 b); obtain ⟨d0, d1, y0, y1, d2, y2⟩ := own_block hm.out (.int .i64 b))
        go_wp2_with fail
        refine hK.out _ _ ?_ (fun hHeldN => ?_)
        · ((try dsimp only); go_split_ands; exact ⟨(hd2.cell (cell_lt (by assumption))).trans (by assumption), (hd2.cell (cell_lt (by assumption))).trans (by assumption), (hd2.cell (cell_lt (by assumption))).trans (by assumption), (hd2.cell (cell_lt (by assumption))).trans (by assumption), (hd2.cell (cell_lt (by assumption))).trans (by assumption)⟩)
        clear hHeld
        have hHeld := hHeldN
        clear hHeldN
        clear hK K
        try simp only [Act.put, List.setIfInBounds_toArray, List.set_cons_zero, List.set_cons_succ]
        refine wpAnyT_step (i := 7) (by kernel_rfl) (ho := by simp only [List.getElem?_toArray, List.getElem?_cons_succ, List.getElem?_cons_zero]; rfl) (fun K hK => ?_)
        go_simp
        first
          | (go_at_call 12; refine (HWT.out _).mono ?_; rintro e w2 ⟨rfl, hd2⟩; have hB := Kit.hid hB.out.drew; have hm := Kit.hid (blk_below (w := wc.drew) hm.out hd2); have hw := Kit.hid (blk_below (w := wc.drew) hw.out hd2); have hB := hid_below hB hd2)
          | (go_at_call 17; refine (HAD.out _).mono ?_; rintro e w2 ⟨rfl, hd2⟩; have hm := Kit.hid (blk_below hm.out hd2); have hw := Kit.hid (blk_below hw.out hd2); have hB := hid_below hB hd2; obtain ⟨c0, c1, z0, z1, _, z2⟩ := own_block hm.out (.int .i64 b); obtain ⟨d0, d1, y0, y1, d2, y2⟩ := own_block hm.out (.int .i64 b))
        go_wp2_with fail
        refine hK.out _ _ ?_ (fun hHeldN => ?_)
        · ((try dsimp only); go_split_ands; exact ⟨(hd2.cell (cell_lt (by assumption))).trans (by assumption), (hd2.cell (cell_lt (by assumption))).trans (by assumption), (hd2.cell (cell_lt (by assumption))).trans (by assumption), (hd2.cell (cell_lt (by assumption))).trans (by assumption), (hd2.cell (cell_lt (by assumption))).trans (by assumption)⟩)
        clear hHeld
        have hHeld := hHeldN
        clear hHeldN
        clear hK K
        try simp only [Act.put, List.setIfInBounds_toArray, List.set_cons_zero, List.set_cons_succ]
        refine wpAnyT_last (by kernel_rfl) (ho := by simp only [List.getElem?_toArray, List.getElem?_cons_succ, List.getElem?_cons_zero]; rfl) (fun K hK => ?_)
        go_simp
        go_wp2_with fail
        refine hK.out _ _ ?_
        clear hK K
        try simp only [Act.put, List.setIfInBounds_toArray, List.set_cons_zero, List.set_cons_succ]
        clear hHeld
        refine wpAnyT_done (by kernel_rfl) ?_ _
        refine NoPanic.normal ?_
        obtain ⟨_, _, hm5⟩ := own_done hm.out (.int .i64 b) (.complex .f64 (fi (W + wt)) (fi (P + wt * lag)))
        have hw5 := blk_far (blk_far hw.out (p := ⟨gm, 0, none⟩) (Ne.symm HNE.out) (.int .i64 b)) (p := ⟨gm, 1, none⟩) (Ne.symm HNE.out) (.complex .f64 (fi (W + wt)) (fi (P + wt * lag)))
        have hB5 := (hB.out.setCell (p := ⟨gm, 0, none⟩) HGM.out (.int .i64 b)).setCell (p := ⟨gm, 1, none⟩) HGM.out (.complex .f64 (fi (W + wt)) (fi (P + wt * lag)))
        obtain ⟨wn, hwn⟩ : ∃ x, x = (w2.setCell ⟨gm, 0, none⟩ (.int .i64 b)).setCell ⟨gm, 1, none⟩ (.complex .f64 (fi (W + wt)) (fi (P + wt * lag))) := ⟨_, rfl⟩
        rw [← hwn] at hm5 hw5 hB5 ⊢
        have hm := Kit.hid hm5
        have hw := Kit.hid hw5
        have hB := Kit.hid hB5
        clear hm5 hw5 hB5 hwn c0 c1 z0 z1 z2 d0 d1 y0 y1 d2 y2
        obtain ⟨wc, hwc⟩ : ∃ x, x = wn := ⟨_, rfl⟩
        subst hwc
        obtain ⟨k0, k1, k2⟩ := one_at (ones_below ho hB.out) hlt HOO.out
        rw [← HOUT.out] at k2
        go_wp2_with fail
        obtain ⟨c0, c1, c2, _, _, _, _, _, _, _⟩ := own_block3 hw.out (.int .i64 b) (.int .i64 b)
        refine wp_region_noPanic ?_
        refine wp_region_T (fun w' => w'.cell? ⟨gw, 0, none⟩ = some (.int .i64 b) ∧ w'.cell? ⟨gw, 1, none⟩ = some (.int .i64 (W)) ∧ w'.cell? ⟨gw, 2, none⟩ = some (.int .i64 (P)) ∧ w'.cell? (ad.add (i * 3)) = some (.int .i32 o.b) ∧ w'.cell? ⟨(ad.add (i * 3)).block, (ad.add (i * 3)).off + 1, none⟩ = some (.int .u32 o.w) ∧ w'.cell? ⟨(ad.add (i * 3)).block, (ad.add (i * 3)).off + 2, none⟩ = some (.bool false)) 8 (by kernel_rfl) ⟨c0, c1, c2, k0, k1, k2⟩ (fun hHeld => ?_)
        refine wpAnyT_take (i := 0) (hi := by simp only [List.getElem?_toArray, List.getElem?_cons_succ, List.getElem?_cons_zero]; rfl) (v := ?_) (by kernel_rfl) (by kernel_rfl) (by kernel_rfl) (by kernel_rfl) (fun _ _ _ h => h) (Or.inl ⟨by rfl, ?_⟩) (by assumption) ?_
        rotate_left
        · (intro w hSw; (try dsimp only at hSw); go_simp; first | done | with_reducible rfl)
        try simp only [Act.put, List.setIfInBounds_toArray, List.set_cons_zero, List.set_cons_succ]
        refine wpAnyT_take (i := 1) (hi := by simp only [List.getElem?_toArray, List.getElem?_cons_succ, List.getElem?_cons_zero]; rfl) (v := ?_) (by kernel_rfl) (by kernel_rfl) (by kernel_rfl) (by kernel_rfl) (fun _ _ _ h => h) (Or.inl ⟨by rfl, ?_⟩) (by assumption) ?_
        rotate_left
        · (intro w hSw; (try dsimp only at hSw); go_simp; first | done | with_reducible rfl)
        try simp only [Act.put, List.setIfInBounds_toArray, List.set_cons_zero, List.set_cons_succ]
        refine wpAnyT_take (i := 2) (hi := by simp only [List.getElem?_toArray, List.getElem?_cons_succ, List.getElem?_cons_zero]; rfl) (v := ?_) (by kernel_rfl) (by kernel_rfl) (by kernel_rfl) (by kernel_rfl) (fun _ _ _ h => h) (Or.inl ⟨by rfl, ?_⟩) (by assumption) ?_
        rotate_left
        · (intro w hSw; (try dsimp only at hSw); go_simp; first | done | with_reducible rfl)
        try simp only [Act.put, List.setIfInBounds_toArray, List.set_cons_zero, List.set_cons_succ]
        refine wpAnyT_take (i := 3) (hi := by simp only [List.getElem?_toArray, List.getElem?_cons_succ, List.getElem?_cons_zero]; rfl) (v := ?_) (by kernel_rfl) (by kernel_rfl) (by kernel_rfl) (by kernel_rfl) (fun _ _ _ h => h) (Or.inl ⟨by rfl, ?_⟩) (by assumption) ?_
        rotate_left
        · (intro w hSw; (try dsimp only at hSw); go_simp; first | done | with_reducible rfl)
        try simp only [Act.put, List.setIfInBounds_toArray, List.set_cons_zero, List.set_cons_succ]
        refine wpAnyT_take (i := 4) (hi := by simp only [List.getElem?_toArray, List.getElem?_cons_succ, List.getElem?_cons_zero]; rfl) (v := ?_) (by kernel_rfl) (by kernel_rfl) (by kernel_rfl) (by kernel_rfl) (fun _ _ _ h => h) (Or.inl ⟨by rfl, ?_⟩) (by assumption) ?_
        rotate_left
        · (intro w hSw; (try dsimp only at hSw); go_simp; first | done | with_reducible rfl)
        try simp only [Act.put, List.setIfInBounds_toArray, List.set_cons_zero, List.set_cons_succ]
        refine wpAnyT_take (i := 5) (hi := by simp only [List.getElem?_toArray, List.getElem?_cons_succ, List.getElem?_cons_zero]; rfl) (v := ?_) (by kernel_rfl) (by kernel_rfl) (by kernel_rfl) (by kernel_rfl) (fun _ _ _ h => h) (Or.inl ⟨by rfl, ?_⟩) (by assumption) ?_
        rotate_left
        · (intro w hSw; (try dsimp only at hSw); go_simp; first | done | with_reducible rfl)
        try simp only [Act.put, List.setIfInBounds_toArray, List.set_cons_zero, List.set_cons_succ]
        refine wpAnyT_step (i := 6) (by kernel_rfl) (ho := by simp only [List.getElem?_toArray, List.getElem?_cons_succ, List.getElem?_cons_zero]; rfl) (fun K hK => ?_)
        go_simp
        first
          | (go_at_call 12; refine (HWT.out _).mono ?_; rintro e w2 ⟨rfl, hd2⟩; have hB := Kit.hid hB.out.drew; have hm := Kit.hid (blk_below (w := wc.drew) hm.out hd2); have hw := Kit.hid (blk_below (w := wc.drew) hw.out hd2); have hB := hid_below hB hd2)
          | (go_at_call 19; refine (HRA.out _).mono ?_; rintro e w2 ⟨rfl, hd2⟩; have hm := Kit.hid (blk_below hm.out hd2); have hw := Kit.hid (blk_below hw.out hd2); have hB := hid_below hB hd2; obtain ⟨c0, c1, c2, z0, z1, z2, x1, y1, x2, y2⟩ := own_block3 hw.out (.int .i64 b) (.int .i64 (W + wt)))
        go_wp2_with fail
        refine hK.out _ _ ?_ (fun hHeldN => ?_)
        · ((try dsimp only); go_split_ands; exact ⟨(hd2.cell (cell_lt (by assumption))).trans (by assumption), (hd2.cell (cell_lt (by assumption))).trans (by assumption), (hd2.cell (cell_lt (by assumption))).trans (by assumption), (hd2.cell (cell_lt (by assumption))).trans (by assumption), (hd2.cell (cell_lt (by assumption))).trans (by assumption), (hd2.cell (cell_lt (by assumption))).trans (by assumption)⟩)
        clear hHeld
        have hHeld := hHeldN
        clear hHeldN
        clear hK K
        try simp only [Act.put, List.setIfInBounds_toArray, List.set_cons_zero, List.set_cons_succ]
        refine wpAnyT_step (i := 7) (by kernel_rfl) (ho := by simp only [List.getElem?_toArray, List.getElem?_cons_succ, List.getElem?_cons_zero]; rfl) (fun K hK => ?_)
        go_simp
        first
          | (go_at_call 12; refine (HWT.out _).mono ?_; rintro e w2 ⟨rfl, hd2⟩; have hB := Kit.hid hB.out.drew; have hm := Kit.hid (blk_below (w := wc.drew) hm.out hd2); have hw := Kit.hid (blk_below (w := wc.drew) hw.out hd2); have hB := hid_below hB hd2)
          | (go_at_call 19; refine (HRA.out _).mono ?_; rintro e w2 ⟨rfl, hd2⟩; have hm := Kit.hid (blk_below hm.out hd2); have hw := Kit.hid (blk_below hw.out hd2); have hB := hid_below hB hd2; obtain ⟨c0, c1, c2, z0, z1, z2, x1, y1, x2, y2⟩ := own_block3 hw.out (.int .i64 b) (.int .i64 (W + wt)))
        go_wp2_with fail
        refine hK.out _ _ ?_ (fun hHeldN => ?_)
        · ((try dsimp only); go_split_ands; exact ⟨(hd2.cell (cell_lt (by assumption))).trans (by assumption), (hd2.cell (cell_lt (by assumption))).trans (by assumption), (hd2.cell (cell_lt (by assumption))).trans (by assumption), (hd2.cell (cell_lt (by assumption))).trans (by assumption), (hd2.cell (cell_lt (by assumption))).trans (by assumption), (hd2.cell (cell_lt (by assumption))).trans (by assumption)⟩)
        clear hHeld
        have hHeld := hHeldN
        clear hHeldN
        clear hK K
        try simp only [Act.put, List.setIfInBounds_toArray, List.set_cons_zero, List.set_cons_succ]
        refine wpAnyT_last (by kernel_rfl) (ho := by simp only [List.getElem?_toArray, List.getElem?_cons_succ, List.getElem?_cons_zero]; rfl) (fun K hK => ?_)
        go_simp
        go_wp2_with fail
        refine hK.out _ _ ?_
        clear hK K
        try simp only [Act.put, List.setIfInBounds_toArray, List.set_cons_zero, List.set_cons_succ]
        clear hHeld
        refine wpAnyT_done (by kernel_rfl) ?_ _
        refine NoPanic.normal ?_
        have hw5 := own_done3 hw.out (.int .i64 b) (.int .i64 (W + wt)) (.int .i64 (P + wt * lag))
        have hm5 := blk_far (blk_far (blk_far hm.out (p := ⟨gw, 0, none⟩) HNE.out (.int .i64 b)) (p := ⟨gw, 1, none⟩) HNE.out (.int .i64 (W + wt))) (p := ⟨gw, 2, none⟩) HNE.out (.int .i64 (P + wt * lag))
        have hB5 := ((hB.out.setCell (p := ⟨gw, 0, none⟩) HGW.out (.int .i64 b)).setCell (p := ⟨gw, 1, none⟩) HGW.out (.int .i64 (W + wt))).setCell (p := ⟨gw, 2, none⟩) HGW.out (.int .i64 (P + wt * lag))
        obtain ⟨wn, hwn⟩ : ∃ x, x = ((w2.setCell ⟨gw, 0, none⟩ (.int .i64 b)).setCell ⟨gw, 1, none⟩ (.int .i64 (W + wt))).setCell ⟨gw, 2, none⟩ (.int .i64 (P + wt * lag)) := ⟨_, rfl⟩
        rw [← hwn] at hm5 hw5 hB5 ⊢
        have hm := Kit.hid hm5
        have hw := Kit.hid hw5
        have hB := Kit.hid hB5
        clear hm5 hw5 hB5 hwn c0 c1 c2 z0 z1 z2 x1 y1 x2 y2
        obtain ⟨wc, hwc⟩ : ∃ x, x = wn := ⟨_, rfl⟩
        subst hwc
        obtain ⟨k0, k1, k2⟩ := one_at (ones_below ho hB.out) hlt HOO.out
        rw [← HOUT.out] at k2
        go_wp2_with fail
        have hb := HBB.out
        have hbd := HBD.out
        have hwb := HWB.out
        have HSM := Kit.hid (fun w' => same_any b (W + wt) (P + wt * lag) w' (by omega) (by omega))
        have HWG := Kit.hid (fun w' => weight_any b (W + wt) (fi (P + wt * lag)) w' (by omega))
        have HME := Kit.hid (fun w' => mean_any b (W + wt) (P + wt * lag) w' (by omega) (by omega) (by omega))
        have HRM := Kit.hid (fun w' => rmean_any b (W + wt) (P + wt * lag) w' (by omega) (by omega) (by omega))
        unfold rm at HSM HRM
        unfold mo at HSM HME
        obtain ⟨y, hy⟩ : ∃ y, y = meanOf b (W + wt) (P + wt * lag) := ⟨_, rfl⟩
        rw [← hy] at HME HRM
        have HY := Kit.hid hy
        clear hb hbd hwb hy
        have hm : Hid (wc.drew.heap[gm]? = _) := hm
        have hw : Hid (wc.drew.heap[gw]? = _) := hw
        have hB : Hid (Below w.heap.size w wc.drew) := Kit.hid hB.out.drew
        obtain ⟨c0, c1, _, _, _, _⟩ := own_block hm.out (.int .i64 b)
        obtain ⟨d0, d1, d2, _, _, _, _, _, _, _⟩ := own_block3 hw.out (.int .i64 b) (.int .i64 b)
        refine wp_region_noPanic ?_
        refine wp_region_held_drew (S := fun w' => w'.cell? ⟨gm, 0, none⟩ = some (.int .i64 b) ∧ w'.cell? ⟨gm, 1, none⟩ = some (.complex .f64 (fi (W + wt)) (fi (P + wt * lag))) ∧ w'.cell? ⟨gw, 0, none⟩ = some (.int .i64 b) ∧ w'.cell? ⟨gw, 1, none⟩ = some (.int .i64 (W + wt)) ∧ w'.cell? ⟨gw, 2, none⟩ = some (.int .i64 (P + wt * lag))) (by kernel_rfl) ⟨c0, c1, d0, d1, d2⟩ (fun hHeld => ?_)
        refine wpAnyH_take (i := 0) (hi := by simp only [List.getElem?_toArray, List.getElem?_cons_succ, List.getElem?_cons_zero]; rfl) (v := ?_) (by kernel_rfl) (by kernel_rfl) (by kernel_rfl) (fun _ _ _ h => h) (Or.inl ⟨by rfl, ?_⟩) (by assumption) ?_
        rotate_left
        · (intro w hSw; (try dsimp only at hSw); go_simp; first | done | with_reducible rfl)
        try simp only [Act.put, List.setIfInBounds_toArray, List.set_cons_zero, List.set_cons_succ]
        refine wpAnyH_take (i := 1) (hi := by simp only [List.getElem?_toArray, List.getElem?_cons_succ, List.getElem?_cons_zero]; rfl) (v := ?_) (by kernel_rfl) (by kernel_rfl) (by kernel_rfl) (fun _ _ _ h => h) (Or.inl ⟨by rfl, ?_⟩) (by assumption) ?_
        rotate_left
        · (intro w hSw; (try dsimp only at hSw); go_simp; first | done | with_reducible rfl)
        try simp only [Act.put, List.setIfInBounds_toArray, List.set_cons_zero, List.set_cons_succ]
        refine wpAnyH_ready (rs := [2]) (by kernel_rfl) (by simp) ?_
        refine AllReadyH.cons (ho := by simp only [List.getElem?_toArray, List.getElem?_cons_succ, List.getElem?_cons_zero]; rfl) (fun K hK => ?_) AllReadyH.nil
        go_simp
        first
          | (go_at_call 21; refine (HSM.out _).mono ?_; rintro e w2 ⟨rfl, hd2⟩; have hB := hid_below hB hd2; first | (have hm := Kit.hid (blk_below hm.out hd2); have hw := Kit.hid (blk_below hw.out hd2)))
          | (go_at_call 14; refine (HWG.out _).mono ?_; rintro e w2 ⟨rfl, hd2⟩; have hB := hid_below hB hd2; first | (have hm := Kit.hid (blk_below hm.out hd2); have hw := Kit.hid (blk_below hw.out hd2)))
          | (go_at_call 15; refine (HME.out _).mono ?_; rintro e w2 ⟨rfl, hd2⟩; have hB := hid_below hB hd2; first | (have hm := Kit.hid (blk_below hm.out hd2); have hw := Kit.hid (blk_below hw.out hd2)))
          | (go_at_call 22; refine (HRM.out _).mono ?_; rintro e w2 ⟨rfl, hd2⟩; have hB := hid_below hB hd2; first | (have hm := Kit.hid (blk_below hm.out hd2); have hw := Kit.hid (blk_below hw.out hd2)))
        go_wp2_with fail
        refine hK.out _ _ ?_ (fun hHeldN => ?_)
        · ((try dsimp only); go_split_ands; exact ⟨(hd2.cell (cell_lt (by assumption))).trans (by assumption), (hd2.cell (cell_lt (by assumption))).trans (by assumption), (hd2.cell (cell_lt (by assumption))).trans (by assumption), (hd2.cell (cell_lt (by assumption))).trans (by assumption), (hd2.cell (cell_lt (by assumption))).trans (by assumption)⟩)
        clear hHeld
        have hHeld := hHeldN
        clear hHeldN
        clear hK K
        try simp only [Act.put, List.setIfInBounds_toArray, List.set_cons_zero, List.set_cons_succ]
        refine wpAnyH_take (i := 3) (hi := by simp only [List.getElem?_toArray, List.getElem?_cons_succ, List.getElem?_cons_zero]; rfl) (v := ?_) (by kernel_rfl) (by kernel_rfl) (by kernel_rfl) (fun _ _ _ h => h) (Or.inl ⟨by rfl, ?_⟩) (by assumption) ?_
        rotate_left
        · (intro w hSw; (try dsimp only at hSw); go_simp; first | done | with_reducible rfl)
        try simp only [Act.put, List.setIfInBounds_toArray, List.set_cons_zero, List.set_cons_succ]
        refine wpAnyH_take (i := 4) (hi := by simp only [List.getElem?_toArray, List.getElem?_cons_succ, List.getElem?_cons_zero]; rfl) (v := ?_) (by kernel_rfl) (by kernel_rfl) (by kernel_rfl) (fun _ _ _ h => h) (Or.inl ⟨by rfl, ?_⟩) (by assumption) ?_
        rotate_left
        · (intro w hSw; (try dsimp only at hSw); go_simp; first | done | with_reducible rfl)
        try simp only [Act.put, List.setIfInBounds_toArray, List.set_cons_zero, List.set_cons_succ]
        refine wpAnyH_take (i := 5) (hi := by simp only [List.getElem?_toArray, List.getElem?_cons_succ, List.getElem?_cons_zero]; rfl) (v := ?_) (by kernel_rfl) (by kernel_rfl) (by kernel_rfl) (fun _ _ _ h => h) (Or.inl ⟨by rfl, ?_⟩) (by assumption) ?_
        rotate_left
        · (intro w hSw; (try dsimp only at hSw); go_simp; first | done | with_reducible rfl)
        try simp only [Act.put, List.setIfInBounds_toArray, List.set_cons_zero, List.set_cons_succ]
        refine wpAnyH_take (i := 7) (hi := by simp only [List.getElem?_toArray, List.getElem?_cons_succ, List.getElem?_cons_zero]; rfl) (v := ?_) (by kernel_rfl) (by kernel_rfl) (by kernel_rfl) (fun _ _ _ h => h) (Or.inl ⟨by rfl, ?_⟩) (by assumption) ?_
        rotate_left
        · (intro w hSw; (try dsimp only at hSw); go_simp; first | done | with_reducible rfl)
        try simp only [Act.put, List.setIfInBounds_toArray, List.set_cons_zero, List.set_cons_succ]
        refine wpAnyH_take (i := 8) (hi := by simp only [List.getElem?_toArray, List.getElem?_cons_succ, List.getElem?_cons_zero]; rfl) (v := ?_) (by kernel_rfl) (by kernel_rfl) (by kernel_rfl) (fun _ _ _ h => h) (Or.inl ⟨by rfl, ?_⟩) (by assumption) ?_
        rotate_left
        · (intro w hSw; (try dsimp only at hSw); go_simp; first | done | with_reducible rfl)
        try simp only [Act.put, List.setIfInBounds_toArray, List.set_cons_zero, List.set_cons_succ]
        refine wpAnyH_ready (rs := [6]) (by kernel_rfl) (by simp) ?_
        refine AllReadyH.cons (ho := by simp only [List.getElem?_toArray, List.getElem?_cons_succ, List.getElem?_cons_zero]; rfl) (fun K hK => ?_) AllReadyH.nil
        go_simp
        first
          | (go_at_call 21; refine (HSM.out _).mono ?_; rintro e w2 ⟨rfl, hd2⟩; have hB := hid_below hB hd2; first | (have hm := Kit.hid (blk_below hm.out hd2); have hw := Kit.hid (blk_below hw.out hd2)))
          | (go_at_call 14; refine (HWG.out _).mono ?_; rintro e w2 ⟨rfl, hd2⟩; have hB := hid_below hB hd2; first | (have hm := Kit.hid (blk_below hm.out hd2); have hw := Kit.hid (blk_below hw.out hd2)))
          | (go_at_call 15; refine (HME.out _).mono ?_; rintro e w2 ⟨rfl, hd2⟩; have hB := hid_below hB hd2; first | (have hm := Kit.hid (blk_below hm.out hd2); have hw := Kit.hid (blk_below hw.out hd2)))
          | (go_at_call 22; refine (HRM.out _).mono ?_; rintro e w2 ⟨rfl, hd2⟩; have hB := hid_below hB hd2; first | (have hm := Kit.hid (blk_below hm.out hd2); have hw := Kit.hid (blk_below hw.out hd2)))
        go_wp2_with fail
        refine hK.out _ _ ?_ (fun hHeldN => ?_)
        · ((try dsimp only); go_split_ands; exact ⟨(hd2.cell (cell_lt (by assumption))).trans (by assumption), (hd2.cell (cell_lt (by assumption))).trans (by assumption), (hd2.cell (cell_lt (by assumption))).trans (by assumption), (hd2.cell (cell_lt (by assumption))).trans (by assumption), (hd2.cell (cell_lt (by assumption))).trans (by assumption)⟩)
        clear hHeld
        have hHeld := hHeldN
        clear hHeldN
        clear hK K
        try simp only [Act.put, List.setIfInBounds_toArray, List.set_cons_zero, List.set_cons_succ]
        refine wpAnyH_take (i := 9) (hi := by simp only [List.getElem?_toArray, List.getElem?_cons_succ, List.getElem?_cons_zero]; rfl) (v := ?_) (by kernel_rfl) (by kernel_rfl) (by kernel_rfl) (fun _ _ _ h => h) (Or.inl ⟨by rfl, ?_⟩) (by assumption) ?_
        rotate_left
        · (intro w hSw; (try dsimp only at hSw); go_simp; first | done | with_reducible rfl)
        try simp only [Act.put, List.setIfInBounds_toArray, List.set_cons_zero, List.set_cons_succ]
        refine wpAnyH_take (i := 10) (hi := by simp only [List.getElem?_toArray, List.getElem?_cons_succ, List.getElem?_cons_zero]; rfl) (v := ?_) (by kernel_rfl) (by kernel_rfl) (by kernel_rfl) (fun _ _ _ h => h) (Or.inl ⟨by rfl, ?_⟩) (by assumption) ?_
        rotate_left
        · (intro w hSw; (try dsimp only at hSw); go_simp; first | done | with_reducible rfl)
        try simp only [Act.put, List.setIfInBounds_toArray, List.set_cons_zero, List.set_cons_succ]
        refine wpAnyH_take (i := 11) (hi := by simp only [List.getElem?_toArray, List.getElem?_cons_succ, List.getElem?_cons_zero]; rfl) (v := ?_) (by kernel_rfl) (by kernel_rfl) (by kernel_rfl) (fun _ _ _ h => h) (Or.inl ⟨by rfl, ?_⟩) (by assumption) ?_
        rotate_left
        · (intro w hSw; (try dsimp only at hSw); go_simp; first | done | with_reducible rfl)
        try simp only [Act.put, List.setIfInBounds_toArray, List.set_cons_zero, List.set_cons_succ]
        refine wpAnyH_take (i := 12) (hi := by simp only [List.getElem?_toArray, List.getElem?_cons_succ, List.getElem?_cons_zero]; rfl) (v := ?_) (by kernel_rfl) (by kernel_rfl) (by kernel_rfl) (fun _ _ _ h => h) (Or.inl ⟨by rfl, ?_⟩) (by assumption) ?_
        rotate_left
        · (intro w hSw; (try dsimp only at hSw); go_simp; first | done | with_reducible rfl)
        try simp only [Act.put, List.setIfInBounds_toArray, List.set_cons_zero, List.set_cons_succ]
        refine wpAnyH_take (i := 14) (hi := by simp only [List.getElem?_toArray, List.getElem?_cons_succ, List.getElem?_cons_zero]; rfl) (v := ?_) (by kernel_rfl) (by kernel_rfl) (by kernel_rfl) (fun _ _ _ h => h) (Or.inl ⟨by rfl, ?_⟩) (by assumption) ?_
        rotate_left
        · (intro w hSw; (try dsimp only at hSw); go_simp; first | done | with_reducible rfl)
        try simp only [Act.put, List.setIfInBounds_toArray, List.set_cons_zero, List.set_cons_succ]
        refine wpAnyH_ready (rs := [13]) (by kernel_rfl) (by simp) ?_
        refine AllReadyH.cons (ho := by simp only [List.getElem?_toArray, List.getElem?_cons_succ, List.getElem?_cons_zero]; rfl) (fun K hK => ?_) AllReadyH.nil
        go_simp
        first
          | (go_at_call 21; refine (HSM.out _).mono ?_; rintro e w2 ⟨rfl, hd2⟩; have hB := hid_below hB hd2; first | (have hm := Kit.hid (blk_below hm.out hd2); have hw := Kit.hid (blk_below hw.out hd2)))
          | (go_at_call 14; refine (HWG.out _).mono ?_; rintro e w2 ⟨rfl, hd2⟩; have hB := hid_below hB hd2; first | (have hm := Kit.hid (blk_below hm.out hd2); have hw := Kit.hid (blk_below hw.out hd2)))
          | (go_at_call 15; refine (HME.out _).mono ?_; rintro e w2 ⟨rfl, hd2⟩; have hB := hid_below hB hd2; first | (have hm := Kit.hid (blk_below hm.out hd2); have hw := Kit.hid (blk_below hw.out hd2)))
          | (go_at_call 22; refine (HRM.out _).mono ?_; rintro e w2 ⟨rfl, hd2⟩; have hB := hid_below hB hd2; first | (have hm := Kit.hid (blk_below hm.out hd2); have hw := Kit.hid (blk_below hw.out hd2)))
        go_wp2_with fail
        refine hK.out _ _ ?_ (fun hHeldN => ?_)
        · ((try dsimp only); go_split_ands; exact ⟨(hd2.cell (cell_lt (by assumption))).trans (by assumption), (hd2.cell (cell_lt (by assumption))).trans (by assumption), (hd2.cell (cell_lt (by assumption))).trans (by assumption), (hd2.cell (cell_lt (by assumption))).trans (by assumption), (hd2.cell (cell_lt (by assumption))).trans (by assumption)⟩)
        clear hHeld
        have hHeld := hHeldN
        clear hHeldN
        clear hK K
        try simp only [Act.put, List.setIfInBounds_toArray, List.set_cons_zero, List.set_cons_succ]
        refine wpAnyH_ready (rs := [15]) (by kernel_rfl) (by simp) ?_
        refine AllReadyH.cons (ho := by simp only [List.getElem?_toArray, List.getElem?_cons_succ, List.getElem?_cons_zero]; rfl) (fun K hK => ?_) AllReadyH.nil
        go_simp
        first
          | (go_at_call 21; refine (HSM.out _).mono ?_; rintro e w2 ⟨rfl, hd2⟩; have hB := hid_below hB hd2; first | (have hm := Kit.hid (blk_below hm.out hd2); have hw := Kit.hid (blk_below hw.out hd2)))
          | (go_at_call 14; refine (HWG.out _).mono ?_; rintro e w2 ⟨rfl, hd2⟩; have hB := hid_below hB hd2; first | (have hm := Kit.hid (blk_below hm.out hd2); have hw := Kit.hid (blk_below hw.out hd2)))
          | (go_at_call 15; refine (HME.out _).mono ?_; rintro e w2 ⟨rfl, hd2⟩; have hB := hid_below hB hd2; first | (have hm := Kit.hid (blk_below hm.out hd2); have hw := Kit.hid (blk_below hw.out hd2)))
          | (go_at_call 22; refine (HRM.out _).mono ?_; rintro e w2 ⟨rfl, hd2⟩; have hB := hid_below hB hd2; first | (have hm := Kit.hid (blk_below hm.out hd2); have hw := Kit.hid (blk_below hw.out hd2)))
        go_wp2_with fail
        refine hK.out _ _ ?_ (fun hHeldN => ?_)
        · ((try dsimp only); go_split_ands; exact ⟨(hd2.cell (cell_lt (by assumption))).trans (by assumption), (hd2.cell (cell_lt (by assumption))).trans (by assumption), (hd2.cell (cell_lt (by assumption))).trans (by assumption), (hd2.cell (cell_lt (by assumption))).trans (by assumption), (hd2.cell (cell_lt (by assumption))).trans (by assumption)⟩)
        clear hHeld
        have hHeld := hHeldN
        clear hHeldN
        clear hK K
        try simp only [Act.put, List.setIfInBounds_toArray, List.set_cons_zero, List.set_cons_succ]
        refine wpAnyH_take (i := 16) (hi := by simp only [List.getElem?_toArray, List.getElem?_cons_succ, List.getElem?_cons_zero]; rfl) (v := ?_) (by kernel_rfl) (by kernel_rfl) (by kernel_rfl) (fun _ _ _ h => h) (Or.inl ⟨by rfl, ?_⟩) (by assumption) ?_
        rotate_left
        · (intro w hSw; (try dsimp only at hSw); go_simp; first | done | with_reducible rfl)
        try simp only [Act.put, List.setIfInBounds_toArray, List.set_cons_zero, List.set_cons_succ]
        refine wpAnyH_take (i := 17) (hi := by simp only [List.getElem?_toArray, List.getElem?_cons_succ, List.getElem?_cons_zero]; rfl) (v := ?_) (by kernel_rfl) (by kernel_rfl) (by kernel_rfl) (fun _ _ _ h => h) (Or.inl ⟨by rfl, ?_⟩) (by assumption) ?_
        rotate_left
        · (intro w hSw; (try dsimp only at hSw); go_simp; first | done | with_reducible rfl)
        try simp only [Act.put, List.setIfInBounds_toArray, List.set_cons_zero, List.set_cons_succ]
        clear hHeld
        refine wpAnyH_done (by kernel_rfl) ?_ _
        refine NoPanic.normal ?_
        set_option maxRecDepth 4000 in
        go_wp2_with fail
        have hbd := HBD.out
        have hwb := HWB.out
        go_roundw
        case rel => exact ⟨i + 1, _, _, by omega, by go_num, by omega, by omega, by omega, by omega, hm, hw, hB⟩
        case measure => simp [intOf]; omega

      | true =>
        obtain ⟨c0, c1, _, _, _, _⟩ := own_block hm.out (.int .i64 b)
        refine wp_region_noPanic ?_
        refine wp_region_T (fun w' => w'.cell? ⟨gm, 0, none⟩ = some (.int .i64 b) ∧ w'.cell? ⟨gm, 1, none⟩ = some (.complex .f64 (fi (W)) (fi (P))) ∧ w'.cell? (ad.add (i * 3)) = some (.int .i32 o.b) ∧ w'.cell? ⟨(ad.add (i * 3)).block, (ad.add (i * 3)).off + 1, none⟩ = some (.int .u32 o.w) ∧ w'.cell? ⟨(ad.add (i * 3)).block, (ad.add (i * 3)).off + 2, none⟩ = some (.bool true)) 8 (by kernel_rfl) ⟨c0, c1, k0, k1, k2⟩ (fun hHeld => ?_)
        refine wpAnyT_take (i := 0) (hi := by simp only [List.getElem?_toArray, List.getElem?_cons_succ, List.getElem?_cons_zero]; rfl) (v := ?_) (by kernel_rfl) (by kernel_rfl) (by kernel_rfl) (by kernel_rfl) (fun _ _ _ h => h) (Or.inl ⟨by rfl, ?_⟩) (by assumption) ?_
        rotate_left
        · (intro w hSw; (try dsimp only at hSw); go_simp; first | done | with_reducible rfl)
        try simp only [Act.put, List.setIfInBounds_toArray, List.set_cons_zero, List.set_cons_succ]
        refine wpAnyT_take (i := 1) (hi := by simp only [List.getElem?_toArray, List.getElem?_cons_succ, List.getElem?_cons_zero]; rfl) (v := ?_) (by kernel_rfl) (by kernel_rfl) (by kernel_rfl) (by kernel_rfl) (fun _ _ _ h => h) (Or.inl ⟨by rfl, ?_⟩) (by assumption) ?_
        rotate_left
        · (intro w hSw; (try dsimp only at hSw); go_simp; first | done | with_reducible rfl)
        try simp only [Act.put, List.setIfInBounds_toArray, List.set_cons_zero, List.set_cons_succ]
        refine wpAnyT_take (i := 2) (hi := by simp only [List.getElem?_toArray, List.getElem?_cons_succ, List.getElem?_cons_zero]; rfl) (v := ?_) (by kernel_rfl) (by kernel_rfl) (by kernel_rfl) (by kernel_rfl) (fun _ _ _ h => h) (Or.inl ⟨by rfl, ?_⟩) (by assumption) ?_
        rotate_left
        · (intro w hSw; (try dsimp only at hSw); go_simp; first | done | with_reducible rfl)
        try simp only [Act.put, List.setIfInBounds_toArray, List.set_cons_zero, List.set_cons_succ]
        refine wpAnyT_take (i := 3) (hi := by simp only [List.getElem?_toArray, List.getElem?_cons_succ, List.getElem?_cons_zero]; rfl) (v := ?_) (by kernel_rfl) (by kernel_rfl) (by kernel_rfl) (by kernel_rfl) (fun _ _ _ h => h) (Or.inl ⟨by rfl, ?_⟩) (by assumption) ?_
        rotate_left
        · (intro w hSw; (try dsimp only at hSw); go_simp; first | done | with_reducible rfl)
        try simp only [Act.put, List.setIfInBounds_toArray, List.set_cons_zero, List.set_cons_succ]
        refine wpAnyT_take (i := 4) (hi := by simp only [List.getElem?_toArray, List.getElem?_cons_succ, List.getElem?_cons_zero]; rfl) (v := ?_) (by kernel_rfl) (by kernel_rfl) (by kernel_rfl) (by kernel_rfl) (fun _ _ _ h => h) (Or.inl ⟨by rfl, ?_⟩) (by assumption) ?_
        rotate_left
        · (intro w hSw; (try dsimp only at hSw); go_simp; first | done | with_reducible rfl)
        try simp only [Act.put, List.setIfInBounds_toArray, List.set_cons_zero, List.set_cons_succ]
        refine wpAnyT_take (i := 5) (hi := by simp only [List.getElem?_toArray, List.getElem?_cons_succ, List.getElem?_cons_zero]; rfl) (v := ?_) (by kernel_rfl) (by kernel_rfl) (by kernel_rfl) (by kernel_rfl) (fun _ _ _ h => h) (Or.inl ⟨by rfl, ?_⟩) (by assumption) ?_
        rotate_left
        · (intro w hSw; (try dsimp only at hSw); go_simp; first | done | with_reducible rfl)
        try simp only [Act.put, List.setIfInBounds_toArray, List.set_cons_zero, List.set_cons_succ]
        refine wpAnyT_step (i := 6) (by kernel_rfl) (ho := by simp only [List.getElem?_toArray, List.getElem?_cons_succ, List.getElem?_cons_zero]; rfl) (fun K hK => ?_)
        go_simp
        first
          | (go_at_call 12; refine (HWT.out _).mono ?_; rintro e w2 ⟨rfl, hd2⟩; have hB := Kit.hid hB.out.drew; have hm := Kit.hid (blk_below (w := wc.drew) hm.out hd2); have hw := Kit.hid (blk_below (w := wc.drew) hw.out hd2); have hB := hid_below hB hd2)
          | (go_at_call 17; refine (HAD.out _).mono ?_; rintro e w2 ⟨rfl, hd2⟩; have hm := Kit.hid (blk_below hm.out hd2); have hw := Kit.hid (blk_below hw.out hd2); have hB := hid_below hB hd2; obtain ⟨c0, c1, z0, z1, _, z2⟩ := own_block hm.out (.int .i64 b); obtain ⟨d0, d1, y0, y1, d2, y2⟩ := own_block hm.out (.int .i64 b))
        go_wp2_with fail
        refine hK.out _ _ ?_ (fun hHeldN => ?_)
        · ((try dsimp only); go_split_ands; exact ⟨(hd2.cell (cell_lt (by assumption))).trans (by assumption), (hd2.cell (cell_lt (by assumption))).trans (by assumption), (hd2.cell (cell_lt (by assumption))).trans (by assumption), (hd2.cell (cell_lt (by assumption))).trans (by assumption), (hd2.cell (cell_lt (by assumption))).trans (by assumption)⟩)
        clear hHeld
        have hHeld := hHeldN
        clear hHeldN
        clear hK K
        try simp only [Act.put, List.setIfInBounds_toArray, List.set_cons_zero, List.set_cons_succ]
        refine wpAnyT_step (i := 7) (by kernel_rfl) (ho := by simp only [List.getElem?_toArray, List.getElem?_cons_succ, List.getElem?_cons_zero]; rfl) (fun K hK => ?_)
        go_simp
        first
          | (go_at_call 12; refine (HWT.out _).mono ?_; rintro e w2 ⟨rfl, hd2⟩; have hB := Kit.hid hB.out.drew; have hm := Kit.hid (blk_below (w := wc.drew) hm.out hd2); have hw := Kit.hid (blk_below (w := wc.drew) hw.out hd2); have hB := hid_below hB hd2)
          | (go_at_call 17; refine (HAD.out _).mono ?_; rintro e w2 ⟨rfl, hd2⟩; have hm := Kit.hid (blk_below hm.out hd2); have hw := Kit.hid (blk_below hw.out hd2); have hB := hid_below hB hd2; obtain ⟨c0, c1, z0, z1, _, z2⟩ := own_block hm.out (.int .i64 b); obtain ⟨d0, d1, y0, y1, d2, y2⟩ := own_block hm.out (.int .i64 b))
        go_wp2_with fail
        refine hK.out _ _ ?_ (fun hHeldN => ?_)
        · ((try dsimp only); go_split_ands; exact ⟨(hd2.cell (cell_lt (by assumption))).trans (by assumption), (hd2.cell (cell_lt (by assumption))).trans (by assumption), (hd2.cell (cell_lt (by assumption))).trans (by assumption), (hd2.cell (cell_lt (by assumption))).trans (by assumption), (hd2.cell (cell_lt (by assumption))).trans (by assumption)⟩)
        clear hHeld
        have hHeld := hHeldN
        clear hHeldN
        clear hK K
        try simp only [Act.put, List.setIfInBounds_toArray, List.set_cons_zero, List.set_cons_succ]
        refine wpAnyT_last (by kernel_rfl) (ho := by simp only [List.getElem?_toArray, List.getElem?_cons_succ, List.getElem?_cons_zero]; rfl) (fun K hK => ?_)
        go_simp
        go_wp2_with fail
        refine hK.out _ _ ?_
        clear hK K
        try simp only [Act.put, List.setIfInBounds_toArray, List.set_cons_zero, List.set_cons_succ]
        clear hHeld
        refine wpAnyT_done (by kernel_rfl) ?_ _
        refine NoPanic.normal ?_
        obtain ⟨_, _, hm5⟩ := own_done hm.out (.int .i64 b) (.complex .f64 (fi (W + wt)) (fi (P + wt * lag)))
        have hw5 := blk_far (blk_far hw.out (p := ⟨gm, 0, none⟩) (Ne.symm HNE.out) (.int .i64 b)) (p := ⟨gm, 1, none⟩) (Ne.symm HNE.out) (.complex .f64 (fi (W + wt)) (fi (P + wt * lag)))
        have hB5 := (hB.out.setCell (p := ⟨gm, 0, none⟩) HGM.out (.int .i64 b)).setCell (p := ⟨gm, 1, none⟩) HGM.out (.complex .f64 (fi (W + wt)) (fi (P + wt * lag)))
        obtain ⟨wn, hwn⟩ : ∃ x, x = (w2.setCell ⟨gm, 0, none⟩ (.int .i64 b)).setCell ⟨gm, 1, none⟩ (.complex .f64 (fi (W + wt)) (fi (P + wt * lag))) := ⟨_, rfl⟩
        rw [← hwn] at hm5 hw5 hB5 ⊢
        have hm := Kit.hid hm5
        have hw := Kit.hid hw5
        have hB := Kit.hid hB5
        clear hm5 hw5 hB5 hwn c0 c1 z0 z1 z2 d0 d1 y0 y1 d2 y2
        obtain ⟨wc, hwc⟩ : ∃ x, x = wn := ⟨_, rfl⟩
        subst hwc
        obtain ⟨k0, k1, k2⟩ := one_at (ones_below ho hB.out) hlt HOO.out
        rw [← HOUT.out] at k2
        go_wp2_with fail
        obtain ⟨c0, c1, c2, _, _, _, _, _, _, _⟩ := own_block3 hw.out (.int .i64 b) (.int .i64 b)
        refine wp_region_noPanic ?_
        refine wp_region_T (fun w' => w'.cell? ⟨gw, 0, none⟩ = some (.int .i64 b) ∧ w'.cell? ⟨gw, 1, none⟩ = some (.int .i64 (W)) ∧ w'.cell? ⟨gw, 2, none⟩ = some (.int .i64 (P)) ∧ w'.cell? (ad.add (i * 3)) = some (.int .i32 o.b) ∧ w'.cell? ⟨(ad.add (i * 3)).block, (ad.add (i * 3)).off + 1, none⟩ = some (.int .u32 o.w) ∧ w'.cell? ⟨(ad.add (i * 3)).block, (ad.add (i * 3)).off + 2, none⟩ = some (.bool true)) 8 (by kernel_rfl) ⟨c0, c1, c2, k0, k1, k2⟩ (fun hHeld => ?_)
        refine wpAnyT_take (i := 0) (hi := by simp only [List.getElem?_toArray, List.getElem?_cons_succ, List.getElem?_cons_zero]; rfl) (v := ?_) (by kernel_rfl) (by kernel_rfl) (by kernel_rfl) (by kernel_rfl) (fun _ _ _ h => h) (Or.inl ⟨by rfl, ?_⟩) (by assumption) ?_
        rotate_left
        · (intro w hSw; (try dsimp only at hSw); go_simp; first | done | with_reducible rfl)
        try simp only [Act.put, List.setIfInBounds_toArray, List.set_cons_zero, List.set_cons_succ]
        refine wpAnyT_take (i := 1) (hi := by simp only [List.getElem?_toArray, List.getElem?_cons_succ, List.getElem?_cons_zero]; rfl) (v := ?_) (by kernel_rfl) (by kernel_rfl) (by kernel_rfl) (by kernel_rfl) (fun _ _ _ h => h) (Or.inl ⟨by rfl, ?_⟩) (by assumption) ?_
        rotate_left
        · (intro w hSw; (try dsimp only at hSw); go_simp; first | done | with_reducible rfl)
        try simp only [Act.put, List.setIfInBounds_toArray, List.set_cons_zero, List.set_cons_succ]
        refine wpAnyT_take (i := 2) (hi := by simp only [List.getElem?_toArray, List.getElem?_cons_succ, List.getElem?_cons_zero]; rfl) (v := ?_) (by kernel_rfl) (by kernel_rfl) (by kernel_rfl) (by kernel_rfl) (fun _ _ _ h => h) (Or.inl ⟨by rfl, ?_⟩) (by assumption) ?_
        rotate_left
        · (intro w hSw; (try dsimp only at hSw); go_simp; first | done | with_reducible rfl)
        try simp only [Act.put, List.setIfInBounds_toArray, List.set_cons_zero, List.set_cons_succ]
        refine wpAnyT_take (i := 3) (hi := by simp only [List.getElem?_toArray, List.getElem?_cons_succ, List.getElem?_cons_zero]; rfl) (v := ?_) (by kernel_rfl) (by kernel_rfl) (by kernel_rfl) (by kernel_rfl) (fun _ _ _ h => h) (Or.inl ⟨by rfl, ?_⟩) (by assumption) ?_
        rotate_left
        · (intro w hSw; (try dsimp only at hSw); go_simp; first | done | with_reducible rfl)
        try simp only [Act.put, List.setIfInBounds_toArray, List.set_cons_zero, List.set_cons_succ]
        refine wpAnyT_take (i := 4) (hi := by simp only [List.getElem?_toArray, List.getElem?_cons_succ, List.getElem?_cons_zero]; rfl) (v := ?_) (by kernel_rfl) (by kernel_rfl) (by kernel_rfl) (by kernel_rfl) (fun _ _ _ h => h) (Or.inl ⟨by rfl, ?_⟩) (by assumption) ?_
        rotate_left
        · (intro w hSw; (try dsimp only at hSw); go_simp; first | done | with_reducible rfl)
        try simp only [Act.put, List.setIfInBounds_toArray, List.set_cons_zero, List.set_cons_succ]
        refine wpAnyT_take (i := 5) (hi := by simp only [List.getElem?_toArray, List.getElem?_cons_succ, List.getElem?_cons_zero]; rfl) (v := ?_) (by kernel_rfl) (by kernel_rfl) (by kernel_rfl) (by kernel_rfl) (fun _ _ _ h => h) (Or.inl ⟨by rfl, ?_⟩) (by assumption) ?_
        rotate_left
        · (intro w hSw; (try dsimp only at hSw); go_simp; first | done | with_reducible rfl)
        try simp only [Act.put, List.setIfInBounds_toArray, List.set_cons_zero, List.set_cons_succ]
        refine wpAnyT_step (i := 6) (by kernel_rfl) (ho := by simp only [List.getElem?_toArray, List.getElem?_cons_succ, List.getElem?_cons_zero]; rfl) (fun K hK => ?_)
        go_simp
        first
          | (go_at_call 12; refine (HWT.out _).mono ?_; rintro e w2 ⟨rfl, hd2⟩; have hB := Kit.hid hB.out.drew; have hm := Kit.hid (blk_below (w := wc.drew) hm.out hd2); have hw := Kit.hid (blk_below (w := wc.drew) hw.out hd2); have hB := hid_below hB hd2)
          | (go_at_call 19; refine (HRA.out _).mono ?_; rintro e w2 ⟨rfl, hd2⟩; have hm := Kit.hid (blk_below hm.out hd2); have hw := Kit.hid (blk_below hw.out hd2); have hB := hid_below hB hd2; obtain ⟨c0, c1, c2, z0, z1, z2, x1, y1, x2, y2⟩ := own_block3 hw.out (.int .i64 b) (.int .i64 (W + wt)))
        go_wp2_with fail
        refine hK.out _ _ ?_ (fun hHeldN => ?_)
        · ((try dsimp only); go_split_ands; exact ⟨(hd2.cell (cell_lt (by assumption))).trans (by assumption), (hd2.cell (cell_lt (by assumption))).trans (by assumption), (hd2.cell (cell_lt (by assumption))).trans (by assumption), (hd2.cell (cell_lt (by assumption))).trans (by assumption), (hd2.cell (cell_lt (by assumption))).trans (by assumption), (hd2.cell (cell_lt (by assumption))).trans (by assumption)⟩)
        clear hHeld
        have hHeld := hHeldN
        clear hHeldN
        clear hK K
        try simp only [Act.put, List.setIfInBounds_toArray, List.set_cons_zero, List.set_cons_succ]
        refine wpAnyT_step (i := 7) (by kernel_rfl) (ho := by simp only [List.getElem?_toArray, List.getElem?_cons_succ, List.getElem?_cons_zero]; rfl) (fun K hK => ?_)
        go_simp
        first
          | (go_at_call 12; refine (HWT.out _).mono ?_; rintro e w2 ⟨rfl, hd2⟩; have hB := Kit.hid hB.out.drew; have hm := Kit.hid (blk_below (w := wc.drew) hm.out hd2); have hw := Kit.hid (blk_below (w := wc.drew) hw.out hd2); have hB := hid_below hB hd2)
          | (go_at_call 19; refine (HRA.out _).mono ?_; rintro e w2 ⟨rfl, hd2⟩; have hm := Kit.hid (blk_below hm.out hd2); have hw := Kit.hid (blk_below hw.out hd2); have hB := hid_below hB hd2; obtain ⟨c0, c1, c2, z0, z1, z2, x1, y1, x2, y2⟩ := own_block3 hw.out (.int .i64 b) (.int .i64 (W + wt)))
        go_wp2_with fail
        refine hK.out _ _ ?_ (fun hHeldN => ?_)
        · ((try dsimp only); go_split_ands; exact ⟨(hd2.cell (cell_lt (by assumption))).trans (by assumption), (hd2.cell (cell_lt (by assumption))).trans (by assumption), (hd2.cell (cell_lt (by assumption))).trans (by assumption), (hd2.cell (cell_lt (by assumption))).trans (by assumption), (hd2.cell (cell_lt (by assumption))).trans (by assumption), (hd2.cell (cell_lt (by assumption))).trans (by assumption)⟩)
        clear hHeld
        have hHeld := hHeldN
        clear hHeldN
        clear hK K
        try simp only [Act.put, List.setIfInBounds_toArray, List.set_cons_zero, List.set_cons_succ]
        refine wpAnyT_last (by kernel_rfl) (ho := by simp only [List.getElem?_toArray, List.getElem?_cons_succ, List.getElem?_cons_zero]; rfl) (fun K hK => ?_)
        go_simp
        go_wp2_with fail
        refine hK.out _ _ ?_
        clear hK K
        try simp only [Act.put, List.setIfInBounds_toArray, List.set_cons_zero, List.set_cons_succ]
        clear hHeld
        refine wpAnyT_done (by kernel_rfl) ?_ _
        refine NoPanic.normal ?_
        have hw5 := own_done3 hw.out (.int .i64 b) (.int .i64 (W + wt)) (.int .i64 (P + wt * lag))
        have hm5 := blk_far (blk_far (blk_far hm.out (p := ⟨gw, 0, none⟩) HNE.out (.int .i64 b)) (p := ⟨gw, 1, none⟩) HNE.out (.int .i64 (W + wt))) (p := ⟨gw, 2, none⟩) HNE.out (.int .i64 (P + wt * lag))
        have hB5 := ((hB.out.setCell (p := ⟨gw, 0, none⟩) HGW.out (.int .i64 b)).setCell (p := ⟨gw, 1, none⟩) HGW.out (.int .i64 (W + wt))).setCell (p := ⟨gw, 2, none⟩) HGW.out (.int .i64 (P + wt * lag))
        obtain ⟨wn, hwn⟩ : ∃ x, x = ((w2.setCell ⟨gw, 0, none⟩ (.int .i64 b)).setCell ⟨gw, 1, none⟩ (.int .i64 (W + wt))).setCell ⟨gw, 2, none⟩ (.int .i64 (P + wt * lag)) := ⟨_, rfl⟩
        rw [← hwn] at hm5 hw5 hB5 ⊢
        have hm := Kit.hid hm5
        have hw := Kit.hid hw5
        have hB := Kit.hid hB5
        clear hm5 hw5 hB5 hwn c0 c1 c2 z0 z1 z2 x1 y1 x2 y2
        obtain ⟨wc, hwc⟩ : ∃ x, x = wn := ⟨_, rfl⟩
        subst hwc
        obtain ⟨k0, k1, k2⟩ := one_at (ones_below ho hB.out) hlt HOO.out
        rw [← HOUT.out] at k2
        go_wp2_with fail
        obtain ⟨c0, c1, _, _, _, _⟩ := own_block hm.out (.int .i64 b)
        refine wp_region_noPanic ?_
        refine wp_region_T (fun w' => w'.cell? ⟨gm, 0, none⟩ = some (.int .i64 b) ∧ w'.cell? ⟨gm, 1, none⟩ = some (.complex .f64 (fi (W + wt)) (fi (P + wt * lag))) ∧ w'.cell? (ad.add (i * 3)) = some (.int .i32 o.b) ∧ w'.cell? ⟨(ad.add (i * 3)).block, (ad.add (i * 3)).off + 1, none⟩ = some (.int .u32 o.w) ∧ w'.cell? ⟨(ad.add (i * 3)).block, (ad.add (i * 3)).off + 2, none⟩ = some (.bool true)) 8 (by kernel_rfl) ⟨c0, c1, k0, k1, k2⟩ (fun hHeld => ?_)
        refine wpAnyT_take (i := 0) (hi := by simp only [List.getElem?_toArray, List.getElem?_cons_succ, List.getElem?_cons_zero]; rfl) (v := ?_) (by kernel_rfl) (by kernel_rfl) (by kernel_rfl) (by kernel_rfl) (fun _ _ _ h => h) (Or.inl ⟨by rfl, ?_⟩) (by assumption) ?_
        rotate_left
        · (intro w hSw; (try dsimp only at hSw); go_simp; first | done | with_reducible rfl)
        try simp only [Act.put, List.setIfInBounds_toArray, List.set_cons_zero, List.set_cons_succ]
        refine wpAnyT_take (i := 1) (hi := by simp only [List.getElem?_toArray, List.getElem?_cons_succ, List.getElem?_cons_zero]; rfl) (v := ?_) (by kernel_rfl) (by kernel_rfl) (by kernel_rfl) (by kernel_rfl) (fun _ _ _ h => h) (Or.inl ⟨by rfl, ?_⟩) (by assumption) ?_
        rotate_left
        · (intro w hSw; (try dsimp only at hSw); go_simp; first | done | with_reducible rfl)
        try simp only [Act.put, List.setIfInBounds_toArray, List.set_cons_zero, List.set_cons_succ]
        refine wpAnyT_take (i := 2) (hi := by simp only [List.getElem?_toArray, List.getElem?_cons_succ, List.getElem?_cons_zero]; rfl) (v := ?_) (by kernel_rfl) (by kernel_rfl) (by kernel_rfl) (by kernel_rfl) (fun _ _ _ h => h) (Or.inl ⟨by rfl, ?_⟩) (by assumption) ?_
        rotate_left
        · (intro w hSw; (try dsimp only at hSw); go_simp; first | done | with_reducible rfl)
        try simp only [Act.put, List.setIfInBounds_toArray, List.set_cons_zero, List.set_cons_succ]
        refine wpAnyT_take (i := 3) (hi := by simp only [List.getElem?_toArray, List.getElem?_cons_succ, List.getElem?_cons_zero]; rfl) (v := ?_) (by kernel_rfl) (by kernel_rfl) (by kernel_rfl) (by kernel_rfl) (fun _ _ _ h => h) (Or.inl ⟨by rfl, ?_⟩) (by assumption) ?_
        rotate_left
        · (intro w hSw; (try dsimp only at hSw); go_simp; first | done | with_reducible rfl)
        try simp only [Act.put, List.setIfInBounds_toArray, List.set_cons_zero, List.set_cons_succ]
        refine wpAnyT_take (i := 4) (hi := by simp only [List.getElem?_toArray, List.getElem?_cons_succ, List.getElem?_cons_zero]; rfl) (v := ?_) (by kernel_rfl) (by kernel_rfl) (by kernel_rfl) (by kernel_rfl) (fun _ _ _ h => h) (Or.inl ⟨by rfl, ?_⟩) (by assumption) ?_
        rotate_left
        · (intro w hSw; (try dsimp only at hSw); go_simp; first | done | with_reducible rfl)
        try simp only [Act.put, List.setIfInBounds_toArray, List.set_cons_zero, List.set_cons_succ]
        refine wpAnyT_take (i := 5) (hi := by simp only [List.getElem?_toArray, List.getElem?_cons_succ, List.getElem?_cons_zero]; rfl) (v := ?_) (by kernel_rfl) (by kernel_rfl) (by kernel_rfl) (by kernel_rfl) (fun _ _ _ h => h) (Or.inl ⟨by rfl, ?_⟩) (by assumption) ?_
        rotate_left
        · (intro w hSw; (try dsimp only at hSw); go_simp; first | done | with_reducible rfl)
        try simp only [Act.put, List.setIfInBounds_toArray, List.set_cons_zero, List.set_cons_succ]
        refine wpAnyT_step (i := 6) (by kernel_rfl) (ho := by simp only [List.getElem?_toArray, List.getElem?_cons_succ, List.getElem?_cons_zero]; rfl) (fun K hK => ?_)
        go_simp
        first
          | (go_at_call 12; refine (HWT.out _).mono ?_; rintro e w2 ⟨rfl, hd2⟩; have hB := Kit.hid hB.out.drew; have hm := Kit.hid (blk_below (w := wc.drew) hm.out hd2); have hw := Kit.hid (blk_below (w := wc.drew) hw.out hd2); have hB := hid_below hB hd2)
          | (go_at_call 20; refine (HTK.out _).mono ?_; rintro e w2 ⟨rfl, hd2⟩; have hm := Kit.hid (blk_below hm.out hd2); have hw := Kit.hid (blk_below hw.out hd2); have hB := hid_below hB hd2; obtain ⟨c0, c1, z0, z1, _, z2⟩ := own_block hm.out (.int .i64 b); obtain ⟨d0, d1, y0, y1, d2, y2⟩ := own_block hm.out (.int .i64 b))
        go_wp2_with fail
        refine hK.out _ _ ?_ (fun hHeldN => ?_)
        · ((try dsimp only); go_split_ands; exact ⟨(hd2.cell (cell_lt (by assumption))).trans (by assumption), (hd2.cell (cell_lt (by assumption))).trans (by assumption), (hd2.cell (cell_lt (by assumption))).trans (by assumption), (hd2.cell (cell_lt (by assumption))).trans (by assumption), (hd2.cell (cell_lt (by assumption))).trans (by assumption)⟩)
        clear hHeld
        have hHeld := hHeldN
        clear hHeldN
        clear hK K
        try simp only [Act.put, List.setIfInBounds_toArray, List.set_cons_zero, List.set_cons_succ]
        refine wpAnyT_step (i := 7) (by kernel_rfl) (ho := by simp only [List.getElem?_toArray, List.getElem?_cons_succ, List.getElem?_cons_zero]; rfl) (fun K hK => ?_)
        go_simp
        first
          | (go_at_call 12; refine (HWT.out _).mono ?_; rintro e w2 ⟨rfl, hd2⟩; have hB := Kit.hid hB.out.drew; have hm := Kit.hid (blk_below (w := wc.drew) hm.out hd2); have hw := Kit.hid (blk_below (w := wc.drew) hw.out hd2); have hB := hid_below hB hd2)
          | (go_at_call 20; refine (HTK.out _).mono ?_; rintro e w2 ⟨rfl, hd2⟩; have hm := Kit.hid (blk_below hm.out hd2); have hw := Kit.hid (blk_below hw.out hd2); have hB := hid_below hB hd2; obtain ⟨c0, c1, z0, z1, _, z2⟩ := own_block hm.out (.int .i64 b); obtain ⟨d0, d1, y0, y1, d2, y2⟩ := own_block hm.out (.int .i64 b))
        go_wp2_with fail
        refine hK.out _ _ ?_ (fun hHeldN => ?_)
        · ((try dsimp only); go_split_ands; exact ⟨(hd2.cell (cell_lt (by assumption))).trans (by assumption), (hd2.cell (cell_lt (by assumption))).trans (by assumption), (hd2.cell (cell_lt (by assumption))).trans (by assumption), (hd2.cell (cell_lt (by assumption))).trans (by assumption), (hd2.cell (cell_lt (by assumption))).trans (by assumption)⟩)
        clear hHeld
        have hHeld := hHeldN
        clear hHeldN
        clear hK K
        try simp only [Act.put, List.setIfInBounds_toArray, List.set_cons_zero, List.set_cons_succ]
        refine wpAnyT_last (by kernel_rfl) (ho := by simp only [List.getElem?_toArray, List.getElem?_cons_succ, List.getElem?_cons_zero]; rfl) (fun K hK => ?_)
        go_simp
        go_wp2_with fail
        refine hK.out _ _ ?_
        clear hK K
        try simp only [Act.put, List.setIfInBounds_toArray, List.set_cons_zero, List.set_cons_succ]
        clear hHeld
        refine wpAnyT_done (by kernel_rfl) ?_ _
        refine NoPanic.normal ?_
        obtain ⟨_, _, hm5⟩ := own_done hm.out (.int .i64 b) (.complex .f64 (fi (W)) (fi (P)))
        have hw5 := blk_far (blk_far hw.out (p := ⟨gm, 0, none⟩) (Ne.symm HNE.out) (.int .i64 b)) (p := ⟨gm, 1, none⟩) (Ne.symm HNE.out) (.complex .f64 (fi (W)) (fi (P)))
        have hB5 := (hB.out.setCell (p := ⟨gm, 0, none⟩) HGM.out (.int .i64 b)).setCell (p := ⟨gm, 1, none⟩) HGM.out (.complex .f64 (fi (W)) (fi (P)))
        obtain ⟨wn, hwn⟩ : ∃ x, x = (w2.setCell ⟨gm, 0, none⟩ (.int .i64 b)).setCell ⟨gm, 1, none⟩ (.complex .f64 (fi (W)) (fi (P))) := ⟨_, rfl⟩
        rw [← hwn] at hm5 hw5 hB5 ⊢
        have hm := Kit.hid hm5
        have hw := Kit.hid hw5
        have hB := Kit.hid hB5
        clear hm5 hw5 hB5 hwn c0 c1 z0 z1 z2 d0 d1 y0 y1 d2 y2
        obtain ⟨wc, hwc⟩ : ∃ x, x = wn := ⟨_, rfl⟩
        subst hwc
        obtain ⟨k0, k1, k2⟩ := one_at (ones_below ho hB.out) hlt HOO.out
        rw [← HOUT.out] at k2
        go_wp2_with fail
        obtain ⟨c0, c1, c2, _, _, _, _, _, _, _⟩ := own_block3 hw.out (.int .i64 b) (.int .i64 b)
        refine wp_region_noPanic ?_
        refine wp_region_T (fun w' => w'.cell? ⟨gw, 0, none⟩ = some (.int .i64 b) ∧ w'.cell? ⟨gw, 1, none⟩ = some (.int .i64 (W + wt)) ∧ w'.cell? ⟨gw, 2, none⟩ = some (.int .i64 (P + wt * lag)) ∧ w'.cell? (ad.add (i * 3)) = some (.int .i32 o.b) ∧ w'.cell? ⟨(ad.add (i * 3)).block, (ad.add (i * 3)).off + 1, none⟩ = some (.int .u32 o.w) ∧ w'.cell? ⟨(ad.add (i * 3)).block, (ad.add (i * 3)).off + 2, none⟩ = some (.bool true)) 8 (by kernel_rfl) ⟨c0, c1, c2, k0, k1, k2⟩ (fun hHeld => ?_)
        refine wpAnyT_take (i := 0) (hi := by simp only [List.getElem?_toArray, List.getElem?_cons_succ, List.getElem?_cons_zero]; rfl) (v := ?_) (by kernel_rfl) (by kernel_rfl) (by kernel_rfl) (by kernel_rfl) (fun _ _ _ h => h) (Or.inl ⟨by rfl, ?_⟩) (by assumption) ?_
        rotate_left
        · (intro w hSw; (try dsimp only at hSw); go_simp; first | done | with_reducible rfl)
        try simp only [Act.put, List.setIfInBounds_toArray, List.set_cons_zero, List.set_cons_succ]
        refine wpAnyT_take (i := 1) (hi := by simp only [List.getElem?_toArray, List.getElem?_cons_succ, List.getElem?_cons_zero]; rfl) (v := ?_) (by kernel_rfl) (by kernel_rfl) (by kernel_rfl) (by kernel_rfl) (fun _ _ _ h => h) (Or.inl ⟨by rfl, ?_⟩) (by assumption) ?_
        rotate_left
        · (intro w hSw; (try dsimp only at hSw); go_simp; first | done | with_reducible rfl)
        try simp only [Act.put, List.setIfInBounds_toArray, List.set_cons_zero, List.set_cons_succ]
        refine wpAnyT_take (i := 2) (hi := by simp only [List.getElem?_toArray, List.getElem?_cons_succ, List.getElem?_cons_zero]; rfl) (v := ?_) (by kernel_rfl) (by kernel_rfl) (by kernel_rfl) (by kernel_rfl) (fun _ _ _ h => h) (Or.inl ⟨by rfl, ?_⟩) (by assumption) ?_
        rotate_left
        · (intro w hSw; (try dsimp only at hSw); go_simp; first | done | with_reducible rfl)
        try simp only [Act.put, List.setIfInBounds_toArray, List.set_cons_zero, List.set_cons_succ]
        refine wpAnyT_take (i := 3) (hi := by simp only [List.getElem?_toArray, List.getElem?_cons_succ, List.getElem?_cons_zero]; rfl) (v := ?_) (by kernel_rfl) (by kernel_rfl) (by kernel_rfl) (by kernel_rfl) (fun _ _ _ h => h) (Or.inl ⟨by rfl, ?_⟩) (by assumption) ?_
        rotate_left
        · (intro w hSw; (try dsimp only at hSw); go_simp; first | done | with_reducible rfl)
        try simp only [Act.put, List.setIfInBounds_toArray, List.set_cons_zero, List.set_cons_succ]
        refine wpAnyT_take (i := 4) (hi := by simp only [List.getElem?_toArray, List.getElem?_cons_succ, List.getElem?_cons_zero]; rfl) (v := ?_) (by kernel_rfl) (by kernel_rfl) (by kernel_rfl) (by kernel_rfl) (fun _ _ _ h => h) (Or.inl ⟨by rfl, ?_⟩) (by assumption) ?_
        rotate_left
        · (intro w hSw; (try dsimp only at hSw); go_simp; first | done | with_reducible rfl)
        try simp only [Act.put, List.setIfInBounds_toArray, List.set_cons_zero, List.set_cons_succ]
        refine wpAnyT_take (i := 5) (hi := by simp only [List.getElem?_toArray, List.getElem?_cons_succ, List.getElem?_cons_zero]; rfl) (v := ?_) (by kernel_rfl) (by kernel_rfl) (by kernel_rfl) (by kernel_rfl) (fun _ _ _ h => h) (Or.inl ⟨by rfl, ?_⟩) (by assumption) ?_
        rotate_left
        · (intro w hSw; (try dsimp only at hSw); go_simp; first | done | with_reducible rfl)
        try simp only [Act.put, List.setIfInBounds_toArray, List.set_cons_zero, List.set_cons_succ]
        refine wpAnyT_step (i := 6) (by kernel_rfl) (ho := by simp only [List.getElem?_toArray, List.getElem?_cons_succ, List.getElem?_cons_zero]; rfl) (fun K hK => ?_)
        go_simp
        first
          | (go_at_call 12; refine (HWT.out _).mono ?_; rintro e w2 ⟨rfl, hd2⟩; have hB := Kit.hid hB.out.drew; have hm := Kit.hid (blk_below (w := wc.drew) hm.out hd2); have hw := Kit.hid (blk_below (w := wc.drew) hw.out hd2); have hB := hid_below hB hd2)
          | (go_at_call 19; refine (HRT.out _).mono ?_; rintro e w2 ⟨rfl, hd2⟩; have hm := Kit.hid (blk_below hm.out hd2); have hw := Kit.hid (blk_below hw.out hd2); have hB := hid_below hB hd2; obtain ⟨c0, c1, c2, z0, z1, z2, x1, y1, x2, y2⟩ := own_block3 hw.out (.int .i64 b) (.int .i64 (W)))
        go_wp2_with fail
        refine hK.out _ _ ?_ (fun hHeldN => ?_)
        · ((try dsimp only); go_split_ands; exact ⟨(hd2.cell (cell_lt (by assumption))).trans (by assumption), (hd2.cell (cell_lt (by assumption))).trans (by assumption), (hd2.cell (cell_lt (by assumption))).trans (by assumption), (hd2.cell (cell_lt (by assumption))).trans (by assumption), (hd2.cell (cell_lt (by assumption))).trans (by assumption), (hd2.cell (cell_lt (by assumption))).trans (by assumption)⟩)
        clear hHeld
        have hHeld := hHeldN
        clear hHeldN
        clear hK K
        try simp only [Act.put, List.setIfInBounds_toArray, List.set_cons_zero, List.set_cons_succ]
        refine wpAnyT_step (i := 7) (by kernel_rfl) (ho := by simp only [List.getElem?_toArray, List.getElem?_cons_succ, List.getElem?_cons_zero]; rfl) (fun K hK => ?_)
        go_simp
        first
          | (go_at_call 12; refine (HWT.out _).mono ?_; rintro e w2 ⟨rfl, hd2⟩; have hB := Kit.hid hB.out.drew; have hm := Kit.hid (blk_below (w := wc.drew) hm.out hd2); have hw := Kit.hid (blk_below (w := wc.drew) hw.out hd2); have hB := hid_below hB hd2)
          | (go_at_call 19; refine (HRT.out _).mono ?_; rintro e w2 ⟨rfl, hd2⟩; have hm := Kit.hid (blk_below hm.out hd2); have hw := Kit.hid (blk_below hw.out hd2); have hB := hid_below hB hd2; obtain ⟨c0, c1, c2, z0, z1, z2, x1, y1, x2, y2⟩ := own_block3 hw.out (.int .i64 b) (.int .i64 (W)))
        go_wp2_with fail
        refine hK.out _ _ ?_ (fun hHeldN => ?_)
        · ((try dsimp only); go_split_ands; exact ⟨(hd2.cell (cell_lt (by assumption))).trans (by assumption), (hd2.cell (cell_lt (by assumption))).trans (by assumption), (hd2.cell (cell_lt (by assumption))).trans (by assumption), (hd2.cell (cell_lt (by assumption))).trans (by assumption), (hd2.cell (cell_lt (by assumption))).trans (by assumption), (hd2.cell (cell_lt (by assumption))).trans (by assumption)⟩)
        clear hHeld
        have hHeld := hHeldN
        clear hHeldN
        clear hK K
        try simp only [Act.put, List.setIfInBounds_toArray, List.set_cons_zero, List.set_cons_succ]
        refine wpAnyT_last (by kernel_rfl) (ho := by simp only [List.getElem?_toArray, List.getElem?_cons_succ, List.getElem?_cons_zero]; rfl) (fun K hK => ?_)
        go_simp
        go_wp2_with fail
        refine hK.out _ _ ?_
        clear hK K
        try simp only [Act.put, List.setIfInBounds_toArray, List.set_cons_zero, List.set_cons_succ]
        clear hHeld
        refine wpAnyT_done (by kernel_rfl) ?_ _
        refine NoPanic.normal ?_
        have hw5 := own_done3 hw.out (.int .i64 b) (.int .i64 (W)) (.int .i64 (P))
        have hm5 := blk_far (blk_far (blk_far hm.out (p := ⟨gw, 0, none⟩) HNE.out (.int .i64 b)) (p := ⟨gw, 1, none⟩) HNE.out (.int .i64 (W))) (p := ⟨gw, 2, none⟩) HNE.out (.int .i64 (P))
        have hB5 := ((hB.out.setCell (p := ⟨gw, 0, none⟩) HGW.out (.int .i64 b)).setCell (p := ⟨gw, 1, none⟩) HGW.out (.int .i64 (W))).setCell (p := ⟨gw, 2, none⟩) HGW.out (.int .i64 (P))
        obtain ⟨wn, hwn⟩ : ∃ x, x = ((w2.setCell ⟨gw, 0, none⟩ (.int .i64 b)).setCell ⟨gw, 1, none⟩ (.int .i64 (W))).setCell ⟨gw, 2, none⟩ (.int .i64 (P)) := ⟨_, rfl⟩
        rw [← hwn] at hm5 hw5 hB5 ⊢
        have hm := Kit.hid hm5
        have hw := Kit.hid hw5
        have hB := Kit.hid hB5
        clear hm5 hw5 hB5 hwn c0 c1 c2 z0 z1 z2 x1 y1 x2 y2
        obtain ⟨wc, hwc⟩ : ∃ x, x = wn := ⟨_, rfl⟩
        subst hwc
        obtain ⟨k0, k1, k2⟩ := one_at (ones_below ho hB.out) hlt HOO.out
        rw [← HOUT.out] at k2
        go_wp2_with fail
        have hb := HBB.out
        have hbd := HBD.out
        have hwb := HWB.out
        have HSM := Kit.hid (fun w' => same_any b (W) (P) w' (by omega) (by omega))
        have HWG := Kit.hid (fun w' => weight_any b (W) (fi (P)) w' (by omega))
        have HME := Kit.hid (fun w' => mean_any b (W) (P) w' (by omega) (by omega) (by omega))
        have HRM := Kit.hid (fun w' => rmean_any b (W) (P) w' (by omega) (by omega) (by omega))
        unfold rm at HSM HRM
        unfold mo at HSM HME
        obtain ⟨y, hy⟩ : ∃ y, y = meanOf b (W) (P) := ⟨_, rfl⟩
        rw [← hy] at HME HRM
        have HY := Kit.hid hy
        clear hb hbd hwb hy
        have hm : Hid (wc.drew.heap[gm]? = _) := hm
        have hw : Hid (wc.drew.heap[gw]? = _) := hw
        have hB : Hid (Below w.heap.size w wc.drew) := Kit.hid hB.out.drew
        obtain ⟨c0, c1, _, _, _, _⟩ := own_block hm.out (.int .i64 b)
        obtain ⟨d0, d1, d2, _, _, _, _, _, _, _⟩ := own_block3 hw.out (.int .i64 b) (.int .i64 b)
        refine wp_region_noPanic ?_
        refine wp_region_held_drew (S := fun w' => w'.cell? ⟨gm, 0, none⟩ = some (.int .i64 b) ∧ w'.cell? ⟨gm, 1, none⟩ = some (.complex .f64 (fi (W)) (fi (P))) ∧ w'.cell? ⟨gw, 0, none⟩ = some (.int .i64 b) ∧ w'.cell? ⟨gw, 1, none⟩ = some (.int .i64 (W)) ∧ w'.cell? ⟨gw, 2, none⟩ = some (.int .i64 (P))) (by kernel_rfl) ⟨c0, c1, d0, d1, d2⟩ (fun hHeld => ?_)
        refine wpAnyH_take (i := 0) (hi := by simp only [List.getElem?_toArray, List.getElem?_cons_succ, List.getElem?_cons_zero]; rfl) (v := ?_) (by kernel_rfl) (by kernel_rfl) (by kernel_rfl) (fun _ _ _ h => h) (Or.inl ⟨by rfl, ?_⟩) (by assumption) ?_
        rotate_left
        · (intro w hSw; (try dsimp only at hSw); go_simp; first | done | with_reducible rfl)
        try simp only [Act.put, List.setIfInBounds_toArray, List.set_cons_zero, List.set_cons_succ]
        refine wpAnyH_take (i := 1) (hi := by simp only [List.getElem?_toArray, List.getElem?_cons_succ, List.getElem?_cons_zero]; rfl) (v := ?_) (by kernel_rfl) (by kernel_rfl) (by kernel_rfl) (fun _ _ _ h => h) (Or.inl ⟨by rfl, ?_⟩) (by assumption) ?_
        rotate_left
        · (intro w hSw; (try dsimp only at hSw); go_simp; first | done | with_reducible rfl)
        try simp only [Act.put, List.setIfInBounds_toArray, List.set_cons_zero, List.set_cons_succ]
        refine wpAnyH_ready (rs := [2]) (by kernel_rfl) (by simp) ?_
        refine AllReadyH.cons (ho := by simp only [List.getElem?_toArray, List.getElem?_cons_succ, List.getElem?_cons_zero]; rfl) (fun K hK => ?_) AllReadyH.nil
        go_simp
        first
          | (go_at_call 21; refine (HSM.out _).mono ?_; rintro e w2 ⟨rfl, hd2⟩; have hB := hid_below hB hd2; first | (have hm := Kit.hid (blk_below hm.out hd2); have hw := Kit.hid (blk_below hw.out hd2)))
          | (go_at_call 14; refine (HWG.out _).mono ?_; rintro e w2 ⟨rfl, hd2⟩; have hB := hid_below hB hd2; first | (have hm := Kit.hid (blk_below hm.out hd2); have hw := Kit.hid (blk_below hw.out hd2)))
          | (go_at_call 15; refine (HME.out _).mono ?_; rintro e w2 ⟨rfl, hd2⟩; have hB := hid_below hB hd2; first | (have hm := Kit.hid (blk_below hm.out hd2); have hw := Kit.hid (blk_below hw.out hd2)))
          | (go_at_call 22; refine (HRM.out _).mono ?_; rintro e w2 ⟨rfl, hd2⟩; have hB := hid_below hB hd2; first | (have hm := Kit.hid (blk_below hm.out hd2); have hw := Kit.hid (blk_below hw.out hd2)))
        go_wp2_with fail
        refine hK.out _ _ ?_ (fun hHeldN => ?_)
        · ((try dsimp only); go_split_ands; exact ⟨(hd2.cell (cell_lt (by assumption))).trans (by assumption), (hd2.cell (cell_lt (by assumption))).trans (by assumption), (hd2.cell (cell_lt (by assumption))).trans (by assumption), (hd2.cell (cell_lt (by assumption))).trans (by assumption), (hd2.cell (cell_lt (by assumption))).trans (by assumption)⟩)
        clear hHeld
        have hHeld := hHeldN
        clear hHeldN
        clear hK K
        try simp only [Act.put, List.setIfInBounds_toArray, List.set_cons_zero, List.set_cons_succ]
        refine wpAnyH_take (i := 3) (hi := by simp only [List.getElem?_toArray, List.getElem?_cons_succ, List.getElem?_cons_zero]; rfl) (v := ?_) (by kernel_rfl) (by kernel_rfl) (by kernel_rfl) (fun _ _ _ h => h) (Or.inl ⟨by rfl, ?_⟩) (by assumption) ?_
        rotate_left
        · (intro w hSw; (try dsimp only at hSw); go_simp; first | done | with_reducible rfl)
        try simp only [Act.put, List.setIfInBounds_toArray, List.set_cons_zero, List.set_cons_succ]
        refine wpAnyH_take (i := 4) (hi := by simp only [List.getElem?_toArray, List.getElem?_cons_succ, List.getElem?_cons_zero]; rfl) (v := ?_) (by kernel_rfl) (by kernel_rfl) (by kernel_rfl) (fun _ _ _ h => h) (Or.inl ⟨by rfl, ?_⟩) (by assumption) ?_
        rotate_left
        · (intro w hSw; (try dsimp only at hSw); go_simp; first | done | with_reducible rfl)
        try simp only [Act.put, List.setIfInBounds_toArray, List.set_cons_zero, List.set_cons_succ]
        refine wpAnyH_take (i := 5) (hi := by simp only [List.getElem?_toArray, List.getElem?_cons_succ, List.getElem?_cons_zero]; rfl) (v := ?_) (by kernel_rfl) (by kernel_rfl) (by kernel_rfl) (fun _ _ _ h => h) (Or.inl ⟨by rfl, ?_⟩) (by assumption) ?_
        rotate_left
        · (intro w hSw; (try dsimp only at hSw); go_simp; first | done | with_reducible rfl)
        try simp only [Act.put, List.setIfInBounds_toArray, List.set_cons_zero, List.set_cons_succ]
        refine wpAnyH_take (i := 7) (hi := by simp only [List.getElem?_toArray, List.getElem?_cons_succ, List.getElem?_cons_zero]; rfl) (v := ?_) (by kernel_rfl) (by kernel_rfl) (by kernel_rfl) (fun _ _ _ h => h) (Or.inl ⟨by rfl, ?_⟩) (by assumption) ?_
        rotate_left
        · (intro w hSw; (try dsimp only at hSw); go_simp; first | done | with_reducible rfl)
        try simp only [Act.put, List.setIfInBounds_toArray, List.set_cons_zero, List.set_cons_succ]
        refine wpAnyH_take (i := 8) (hi := by simp only [List.getElem?_toArray, List.getElem?_cons_succ, List.getElem?_cons_zero]; rfl) (v := ?_) (by kernel_rfl) (by kernel_rfl) (by kernel_rfl) (fun _ _ _ h => h) (Or.inl ⟨by rfl, ?_⟩) (by assumption) ?_
        rotate_left
        · (intro w hSw; (try dsimp only at hSw); go_simp; first | done | with_reducible rfl)
        try simp only [Act.put, List.setIfInBounds_toArray, List.set_cons_zero, List.set_cons_succ]
        refine wpAnyH_ready (rs := [6]) (by kernel_rfl) (by simp) ?_
        refine AllReadyH.cons (ho := by simp only [List.getElem?_toArray, List.getElem?_cons_succ, List.getElem?_cons_zero]; rfl) (fun K hK => ?_) AllReadyH.nil
        go_simp
        first
          | (go_at_call 21; refine (HSM.out _).mono ?_; rintro e w2 ⟨rfl, hd2⟩; have hB := hid_below hB hd2; first | (have hm := Kit.hid (blk_below hm.out hd2); have hw := Kit.hid (blk_below hw.out hd2)))
          | (go_at_call 14; refine (HWG.out _).mono ?_; rintro e w2 ⟨rfl, hd2⟩; have hB := hid_below hB hd2; first | (have hm := Kit.hid (blk_below hm.out hd2); have hw := Kit.hid (blk_below hw.out hd2)))
          | (go_at_call 15; refine (HME.out _).mono ?_; rintro e w2 ⟨rfl, hd2⟩; have hB := hid_below hB hd2; first | (have hm := Kit.hid (blk_below hm.out hd2); have hw := Kit.hid (blk_below hw.out hd2)))
          | (go_at_call 22; refine (HRM.out _).mono ?_; rintro e w2 ⟨rfl, hd2⟩; have hB := hid_below hB hd2; first | (have hm := Kit.hid (blk_below hm.out hd2); have hw := Kit.hid (blk_below hw.out hd2)))
        go_wp2_with fail
        refine hK.out _ _ ?_ (fun hHeldN => ?_)
        · ((try dsimp only); go_split_ands; exact ⟨(hd2.cell (cell_lt (by assumption))).trans (by assumption), (hd2.cell (cell_lt (by assumption))).trans (by assumption), (hd2.cell (cell_lt (by assumption))).trans (by assumption), (hd2.cell (cell_lt (by assumption))).trans (by assumption), (hd2.cell (cell_lt (by assumption))).trans (by assumption)⟩)
        clear hHeld
        have hHeld := hHeldN
        clear hHeldN
        clear hK K
        try simp only [Act.put, List.setIfInBounds_toArray, List.set_cons_zero, List.set_cons_succ]
        refine wpAnyH_take (i := 9) (hi := by simp only [List.getElem?_toArray, List.getElem?_cons_succ, List.getElem?_cons_zero]; rfl) (v := ?_) (by kernel_rfl) (by kernel_rfl) (by kernel_rfl) (fun _ _ _ h => h) (Or.inl ⟨by rfl, ?_⟩) (by assumption) ?_
        rotate_left
        · (intro w hSw; (try dsimp only at hSw); go_simp; first | done | with_reducible rfl)
        try simp only [Act.put, List.setIfInBounds_toArray, List.set_cons_zero, List.set_cons_succ]
        refine wpAnyH_take (i := 10) (hi := by simp only [List.getElem?_toArray, List.getElem?_cons_succ, List.getElem?_cons_zero]; rfl) (v := ?_) (by kernel_rfl) (by kernel_rfl) (by kernel_rfl) (fun _ _ _ h => h) (Or.inl ⟨by rfl, ?_⟩) (by assumption) ?_
        rotate_left
        · (intro w hSw; (try dsimp only at hSw); go_simp; first | done | with_reducible rfl)
        try simp only [Act.put, List.setIfInBounds_toArray, List.set_cons_zero, List.set_cons_succ]
        refine wpAnyH_take (i := 11) (hi := by simp only [List.getElem?_toArray, List.getElem?_cons_succ, List.getElem?_cons_zero]; rfl) (v := ?_) (by kernel_rfl) (by kernel_rfl) (by kernel_rfl) (fun _ _ _ h => h) (Or.inl ⟨by rfl, ?_⟩) (by assumption) ?_
        rotate_left
        · (intro w hSw; (try dsimp only at hSw); go_simp; first | done | with_reducible rfl)
        try simp only [Act.put, List.setIfInBounds_toArray, List.set_cons_zero, List.set_cons_succ]
        refine wpAnyH_take (i := 12) (hi := by simp only [List.getElem?_toArray, List.getElem?_cons_succ, List.getElem?_cons_zero]; rfl) (v := ?_) (by kernel_rfl) (by kernel_rfl) (by kernel_rfl) (fun _ _ _ h => h) (Or.inl ⟨by rfl, ?_⟩) (by assumption) ?_
        rotate_left
        · (intro w hSw; (try dsimp only at hSw); go_simp; first | done | with_reducible rfl)
        try simp only [Act.put, List.setIfInBounds_toArray, List.set_cons_zero, List.set_cons_succ]
        refine wpAnyH_take (i := 14) (hi := by simp only [List.getElem?_toArray, List.getElem?_cons_succ, List.getElem?_cons_zero]; rfl) (v := ?_) (by kernel_rfl) (by kernel_rfl) (by kernel_rfl) (fun _ _ _ h => h) (Or.inl ⟨by rfl, ?_⟩) (by assumption) ?_
        rotate_left
        · (intro w hSw; (try dsimp only at hSw); go_simp; first | done | with_reducible rfl)
        try simp only [Act.put, List.setIfInBounds_toArray, List.set_cons_zero, List.set_cons_succ]
        refine wpAnyH_ready (rs := [13]) (by kernel_rfl) (by simp) ?_
        refine AllReadyH.cons (ho := by simp only [List.getElem?_toArray, List.getElem?_cons_succ, List.getElem?_cons_zero]; rfl) (fun K hK => ?_) AllReadyH.nil
        go_simp
        first
          | (go_at_call 21; refine (HSM.out _).mono ?_; rintro e w2 ⟨rfl, hd2⟩; have hB := hid_below hB hd2; first | (have hm := Kit.hid (blk_below hm.out hd2); have hw := Kit.hid (blk_below hw.out hd2)))
          | (go_at_call 14; refine (HWG.out _).mono ?_; rintro e w2 ⟨rfl, hd2⟩; have hB := hid_below hB hd2; first | (have hm := Kit.hid (blk_below hm.out hd2); have hw := Kit.hid (blk_below hw.out hd2)))
          | (go_at_call 15; refine (HME.out _).mono ?_; rintro e w2 ⟨rfl, hd2⟩; have hB := hid_below hB hd2; first | (have hm := Kit.hid (blk_below hm.out hd2); have hw := Kit.hid (blk_below hw.out hd2)))
          | (go_at_call 22; refine (HRM.out _).mono ?_; rintro e w2 ⟨rfl, hd2⟩; have hB := hid_below hB hd2; first | (have hm := Kit.hid (blk_below hm.out hd2); have hw := Kit.hid (blk_below hw.out hd2)))
        go_wp2_with fail
        refine hK.out _ _ ?_ (fun hHeldN => ?_)
        · ((try dsimp only); go_split_ands; exact ⟨(hd2.cell (cell_lt (by assumption))).trans (by assumption), (hd2.cell (cell_lt (by assumption))).trans (by assumption), (hd2.cell (cell_lt (by assumption))).trans (by assumption), (hd2.cell (cell_lt (by assumption))).trans (by assumption), (hd2.cell (cell_lt (by assumption))).trans (by assumption)⟩)
        clear hHeld
        have hHeld := hHeldN
        clear hHeldN
        clear hK K
        try simp only [Act.put, List.setIfInBounds_toArray, List.set_cons_zero, List.set_cons_succ]
        refine wpAnyH_ready (rs := [15]) (by kernel_rfl) (by simp) ?_
        refine AllReadyH.cons (ho := by simp only [List.getElem?_toArray, List.getElem?_cons_succ, List.getElem?_cons_zero]; rfl) (fun K hK => ?_) AllReadyH.nil
        go_simp
        first
          | (go_at_call 21; refine (HSM.out _).mono ?_; rintro e w2 ⟨rfl, hd2⟩; have hB := hid_below hB hd2; first | (have hm := Kit.hid (blk_below hm.out hd2); have hw := Kit.hid (blk_below hw.out hd2)))
          | (go_at_call 14; refine (HWG.out _).mono ?_; rintro e w2 ⟨rfl, hd2⟩; have hB := hid_below hB hd2; first | (have hm := Kit.hid (blk_below hm.out hd2); have hw := Kit.hid (blk_below hw.out hd2)))
          | (go_at_call 15; refine (HME.out _).mono ?_; rintro e w2 ⟨rfl, hd2⟩; have hB := hid_below hB hd2; first | (have hm := Kit.hid (blk_below hm.out hd2); have hw := Kit.hid (blk_below hw.out hd2)))
          | (go_at_call 22; refine (HRM.out _).mono ?_; rintro e w2 ⟨rfl, hd2⟩; have hB := hid_below hB hd2; first | (have hm := Kit.hid (blk_below hm.out hd2); have hw := Kit.hid (blk_below hw.out hd2)))
        go_wp2_with fail
        refine hK.out _ _ ?_ (fun hHeldN => ?_)
        · ((try dsimp only); go_split_ands; exact ⟨(hd2.cell (cell_lt (by assumption))).trans (by assumption), (hd2.cell (cell_lt (by assumption))).trans (by assumption), (hd2.cell (cell_lt (by assumption))).trans (by assumption), (hd2.cell (cell_lt (by assumption))).trans (by assumption), (hd2.cell (cell_lt (by assumption))).trans (by assumption)⟩)
        clear hHeld
        have hHeld := hHeldN
        clear hHeldN
        clear hK K
        try simp only [Act.put, List.setIfInBounds_toArray, List.set_cons_zero, List.set_cons_succ]
        refine wpAnyH_take (i := 16) (hi := by simp only [List.getElem?_toArray, List.getElem?_cons_succ, List.getElem?_cons_zero]; rfl) (v := ?_) (by kernel_rfl) (by kernel_rfl) (by kernel_rfl) (fun _ _ _ h => h) (Or.inl ⟨by rfl, ?_⟩) (by assumption) ?_
        rotate_left
        · (intro w hSw; (try dsimp only at hSw); go_simp; first | done | with_reducible rfl)
        try simp only [Act.put, List.setIfInBounds_toArray, List.set_cons_zero, List.set_cons_succ]
        refine wpAnyH_take (i := 17) (hi := by simp only [List.getElem?_toArray, List.getElem?_cons_succ, List.getElem?_cons_zero]; rfl) (v := ?_) (by kernel_rfl) (by kernel_rfl) (by kernel_rfl) (fun _ _ _ h => h) (Or.inl ⟨by rfl, ?_⟩) (by assumption) ?_
        rotate_left
        · (intro w hSw; (try dsimp only at hSw); go_simp; first | done | with_reducible rfl)
        try simp only [Act.put, List.setIfInBounds_toArray, List.set_cons_zero, List.set_cons_succ]
        clear hHeld
        refine wpAnyH_done (by kernel_rfl) ?_ _
        refine NoPanic.normal ?_
        set_option maxRecDepth 4000 in
        go_wp2_with fail
        have hbd := HBD.out
        have hwb := HWB.out
        go_roundw
        case rel => exact ⟨i + 1, _, _, by omega, by go_num, by omega, by omega, by omega, by omega, hm, hw, hB⟩
        case measure => simp [intOf]; omega

    · obtain rfl : i = l.length := by omega
      have hwa : (⟨at_, 0, false⟩ : One).Wf := ⟨hat.1, hat.2, Int.le_refl 0, (by show (0 : Int) ≤ 4294967295; decide)⟩
      have lb := (⟨at_, 0, false⟩ : One).lag_bd
      have HBY := Kit.hid (fun w' => by_any ⟨at_, 0, false⟩ hwa w')
      obtain ⟨lag, hlag⟩ : ∃ x, x = (⟨at_, 0, false⟩ : One).lag := ⟨_, rfl⟩
      rw [← hlag] at HBY lb
      unfold One.val at HBY
      have HGP := Kit.hid (fun w' => gap_any b W P (b + lag) lag w' (by omega) (by omega) (by omega) (by omega) (gap_small (by omega) (by omega) (by omega) (by omega)))
      have hWl : W.natAbs * lag.natAbs ≤ 62914560 * 1048576 := Nat.mul_le_mul (by omega) (by omega)
      have hWl2 : -65970697666560 ≤ W * lag ∧ W * lag ≤ 65970697666560 := by rw [← Int.natAbs_mul] at hWl; omega
      have HRG := Kit.hid (fun w' => rgap_any b W P (b + lag) lag w' (by omega) (by omega) (by omega) (by omega))
      have HME := Kit.hid (fun w' => mean_any b W P w' (by omega) (by omega) (by omega))
      have HRM := Kit.hid (fun w' => rmean_any b W P w' (by omega) (by omega) (by omega))
      obtain ⟨y, hy⟩ : ∃ y, y = meanOf b W P := ⟨_, rfl⟩
      rw [← hy] at HME HRM
      obtain ⟨x, hx⟩ : ∃ x, x = P - W * lag := ⟨_, rfl⟩
      rw [← hx] at HGP HRG
      have r1 : IntKind.i64.wrap (b + lag) = b + lag := i64_in _ (by omega)
      have r2 : wrap64 (b + lag) = b + lag := by unfold wrap64; omega
      unfold mo at HGP HME
      unfold rm at HRG HRM
      clear hlag hwa lb hy hx hWl hWl2 hb hW0 hW1 hP0 hP1
      go_wp2_with (go_at_call 13; refine (HBY.out _).mono ?_; rintro e w2 ⟨rfl, hd2⟩; have hm := Kit.hid (blk_below hm.out hd2); have hw := Kit.hid (blk_below hw.out hd2); have hB := hid_below hB hd2)
      obtain ⟨wc, hwc⟩ : ∃ x, x = w2 := ⟨_, rfl⟩
      subst hwc
      have hm : Hid (wc.drew.heap[gm]? = _) := hm
      have hw : Hid (wc.drew.heap[gw]? = _) := hw
      have hB : Hid (Below w.heap.size w wc.drew) := Kit.hid hB.out.drew
      obtain ⟨c0, c1, _, _, _, _⟩ := own_block hm.out (.int .i64 b)
      obtain ⟨d0, d1, d2, _, _, _, _, _, _, _⟩ := own_block3 hw.out (.int .i64 b) (.int .i64 b)
      refine wp_region_noPanic ?_
      refine wp_region_held_drew (S := fun w' => w'.cell? ⟨gm, 0, none⟩ = some (.int .i64 b) ∧ w'.cell? ⟨gm, 1, none⟩ = some (.complex .f64 (fi (W)) (fi (P))) ∧ w'.cell? ⟨gw, 0, none⟩ = some (.int .i64 b) ∧ w'.cell? ⟨gw, 1, none⟩ = some (.int .i64 (W)) ∧ w'.cell? ⟨gw, 2, none⟩ = some (.int .i64 (P))) (by kernel_rfl) ⟨c0, c1, d0, d1, d2⟩ (fun hHeld => ?_)
      refine wpAnyH_take (i := 0) (hi := by simp only [List.getElem?_toArray, List.getElem?_cons_succ, List.getElem?_cons_zero]; rfl) (v := ?_) (by kernel_rfl) (by kernel_rfl) (by kernel_rfl) (fun _ _ _ h => h) (Or.inl ⟨by rfl, ?_⟩) (by assumption) ?_
      rotate_left
      · (intro w hSw; (try dsimp only at hSw); go_simp; first | done | with_reducible rfl)
      try simp only [Act.put, List.setIfInBounds_toArray, List.set_cons_zero, List.set_cons_succ]
      refine wpAnyH_take (i := 1) (hi := by simp only [List.getElem?_toArray, List.getElem?_cons_succ, List.getElem?_cons_zero]; rfl) (v := ?_) (by kernel_rfl) (by kernel_rfl) (by kernel_rfl) (fun _ _ _ h => h) (Or.inl ⟨by rfl, ?_⟩) (by assumption) ?_
      rotate_left
      · (intro w hSw; (try dsimp only at hSw); go_simp; first | done | with_reducible rfl)
      try simp only [Act.put, List.setIfInBounds_toArray, List.set_cons_zero, List.set_cons_succ]
      refine wpAnyH_take (i := 2) (hi := by simp only [List.getElem?_toArray, List.getElem?_cons_succ, List.getElem?_cons_zero]; rfl) (v := ?_) (by kernel_rfl) (by kernel_rfl) (by kernel_rfl) (fun _ _ _ h => h) (Or.inl ⟨by rfl, ?_⟩) (by assumption) ?_
      rotate_left
      · (intro w hSw; (try dsimp only at hSw); go_simp; first | done | with_reducible rfl)
      try simp only [Act.put, List.setIfInBounds_toArray, List.set_cons_zero, List.set_cons_succ]
      refine wpAnyH_take (i := 3) (hi := by simp only [List.getElem?_toArray, List.getElem?_cons_succ, List.getElem?_cons_zero]; rfl) (v := ?_) (by kernel_rfl) (by kernel_rfl) (by kernel_rfl) (fun _ _ _ h => h) (Or.inl ⟨by rfl, ?_⟩) (by assumption) ?_
      rotate_left
      · (intro w hSw; (try dsimp only at hSw); go_simp; first | done | with_reducible rfl)
      try simp only [Act.put, List.setIfInBounds_toArray, List.set_cons_zero, List.set_cons_succ]
      refine wpAnyH_take (i := 5) (hi := by simp only [List.getElem?_toArray, List.getElem?_cons_succ, List.getElem?_cons_zero]; rfl) (v := ?_) (by kernel_rfl) (by kernel_rfl) (by kernel_rfl) (fun _ _ _ h => h) (Or.inl ⟨by rfl, ?_⟩) (by assumption) ?_
      rotate_left
      · (intro w hSw; (try dsimp only at hSw); go_simp; first | done | with_reducible rfl)
      try simp only [Act.put, List.setIfInBounds_toArray, List.set_cons_zero, List.set_cons_succ]
      refine wpAnyH_take (i := 6) (hi := by simp only [List.getElem?_toArray, List.getElem?_cons_succ, List.getElem?_cons_zero]; rfl) (v := ?_) (by kernel_rfl) (by kernel_rfl) (by kernel_rfl) (fun _ _ _ h => h) (Or.inl ⟨by rfl, ?_⟩) (by assumption) ?_
      rotate_left
      · (intro w hSw; (try dsimp only at hSw); go_simp; first | done | with_reducible rfl)
      try simp only [Act.put, List.setIfInBounds_toArray, List.set_cons_zero, List.set_cons_succ]
      refine wpAnyH_ready (rs := [4]) (by kernel_rfl) (by simp) ?_
      refine AllReadyH.cons (ho := by simp only [List.getElem?_toArray, List.getElem?_cons_succ, List.getElem?_cons_zero]; rfl) (fun K hK => ?_) AllReadyH.nil
      go_simp
      first
        | (go_at_call 16; refine (HGP.out _).mono ?_; rintro e w2 ⟨rfl, hd2⟩; have hB := hid_below hB hd2; first | (have hm := Kit.hid (blk_below hm.out hd2); have hw := Kit.hid (blk_below hw.out hd2)))
        | (go_at_call 23; refine (HRG.out _).mono ?_; rintro e w2 ⟨rfl, hd2⟩; have hB := hid_below hB hd2; first | (have hm := Kit.hid (blk_below hm.out hd2); have hw := Kit.hid (blk_below hw.out hd2)))
        | (go_at_call 15; refine (HME.out _).mono ?_; rintro e w2 ⟨rfl, hd2⟩; have hB := hid_below hB hd2; first | (have hm := Kit.hid (blk_below hm.out hd2); have hw := Kit.hid (blk_below hw.out hd2)))
        | (go_at_call 22; refine (HRM.out _).mono ?_; rintro e w2 ⟨rfl, hd2⟩; have hB := hid_below hB hd2; first | (have hm := Kit.hid (blk_below hm.out hd2); have hw := Kit.hid (blk_below hw.out hd2)))
      go_wp2_with fail
      refine hK.out _ _ ?_ (fun hHeldN => ?_)
      · ((try dsimp only); go_split_ands; exact ⟨(hd2.cell (cell_lt (by assumption))).trans (by assumption), (hd2.cell (cell_lt (by assumption))).trans (by assumption), (hd2.cell (cell_lt (by assumption))).trans (by assumption), (hd2.cell (cell_lt (by assumption))).trans (by assumption), (hd2.cell (cell_lt (by assumption))).trans (by assumption)⟩)
      clear hHeld
      have hHeld := hHeldN
      clear hHeldN
      clear hK K
      try simp only [Act.put, List.setIfInBounds_toArray, List.set_cons_zero, List.set_cons_succ]
      refine wpAnyH_ready (rs := [7]) (by kernel_rfl) (by simp) ?_
      refine AllReadyH.cons (ho := by simp only [List.getElem?_toArray, List.getElem?_cons_succ, List.getElem?_cons_zero]; rfl) (fun K hK => ?_) AllReadyH.nil
      go_simp
      first
        | (go_at_call 16; refine (HGP.out _).mono ?_; rintro e w2 ⟨rfl, hd2⟩; have hB := hid_below hB hd2; first | (have hm := Kit.hid (blk_below hm.out hd2); have hw := Kit.hid (blk_below hw.out hd2)))
        | (go_at_call 23; refine (HRG.out _).mono ?_; rintro e w2 ⟨rfl, hd2⟩; have hB := hid_below hB hd2; first | (have hm := Kit.hid (blk_below hm.out hd2); have hw := Kit.hid (blk_below hw.out hd2)))
        | (go_at_call 15; refine (HME.out _).mono ?_; rintro e w2 ⟨rfl, hd2⟩; have hB := hid_below hB hd2; first | (have hm := Kit.hid (blk_below hm.out hd2); have hw := Kit.hid (blk_below hw.out hd2)))
        | (go_at_call 22; refine (HRM.out _).mono ?_; rintro e w2 ⟨rfl, hd2⟩; have hB := hid_below hB hd2; first | (have hm := Kit.hid (blk_below hm.out hd2); have hw := Kit.hid (blk_below hw.out hd2)))
      go_wp2_with fail
      refine hK.out _ _ ?_ (fun hHeldN => ?_)
      · ((try dsimp only); go_split_ands; exact ⟨(hd2.cell (cell_lt (by assumption))).trans (by assumption), (hd2.cell (cell_lt (by assumption))).trans (by assumption), (hd2.cell (cell_lt (by assumption))).trans (by assumption), (hd2.cell (cell_lt (by assumption))).trans (by assumption), (hd2.cell (cell_lt (by assumption))).trans (by assumption)⟩)
      clear hHeld
      have hHeld := hHeldN
      clear hHeldN
      clear hK K
      try simp only [Act.put, List.setIfInBounds_toArray, List.set_cons_zero, List.set_cons_succ]
      refine wpAnyH_take (i := 8) (hi := by simp only [List.getElem?_toArray, List.getElem?_cons_succ, List.getElem?_cons_zero]; rfl) (v := ?_) (by kernel_rfl) (by kernel_rfl) (by kernel_rfl) (fun _ _ _ h => h) (Or.inl ⟨by rfl, ?_⟩) (by assumption) ?_
      rotate_left
      · (intro w hSw; (try dsimp only at hSw); go_simp; first | done | with_reducible rfl)
      try simp only [Act.put, List.setIfInBounds_toArray, List.set_cons_zero, List.set_cons_succ]
      refine wpAnyH_take (i := 9) (hi := by simp only [List.getElem?_toArray, List.getElem?_cons_succ, List.getElem?_cons_zero]; rfl) (v := ?_) (by kernel_rfl) (by kernel_rfl) (by kernel_rfl) (fun _ _ _ h => h) (Or.inl ⟨by rfl, ?_⟩) (by assumption) ?_
      rotate_left
      · (intro w hSw; (try dsimp only at hSw); go_simp; first | done | with_reducible rfl)
      try simp only [Act.put, List.setIfInBounds_toArray, List.set_cons_zero, List.set_cons_succ]
      refine wpAnyH_take (i := 10) (hi := by simp only [List.getElem?_toArray, List.getElem?_cons_succ, List.getElem?_cons_zero]; rfl) (v := ?_) (by kernel_rfl) (by kernel_rfl) (by kernel_rfl) (fun _ _ _ h => h) (Or.inl ⟨by rfl, ?_⟩) (by assumption) ?_
      rotate_left
      · (intro w hSw; (try dsimp only at hSw); go_simp; first | done | with_reducible rfl)
      try simp only [Act.put, List.setIfInBounds_toArray, List.set_cons_zero, List.set_cons_succ]
      refine wpAnyH_take (i := 11) (hi := by simp only [List.getElem?_toArray, List.getElem?_cons_succ, List.getElem?_cons_zero]; rfl) (v := ?_) (by kernel_rfl) (by kernel_rfl) (by kernel_rfl) (fun _ _ _ h => h) (Or.inl ⟨by rfl, ?_⟩) (by assumption) ?_
      rotate_left
      · (intro w hSw; (try dsimp only at hSw); go_simp; first | done | with_reducible rfl)
      try simp only [Act.put, List.setIfInBounds_toArray, List.set_cons_zero, List.set_cons_succ]
      refine wpAnyH_take (i := 13) (hi := by simp only [List.getElem?_toArray, List.getElem?_cons_succ, List.getElem?_cons_zero]; rfl) (v := ?_) (by kernel_rfl) (by kernel_rfl) (by kernel_rfl) (fun _ _ _ h => h) (Or.inl ⟨by rfl, ?_⟩) (by assumption) ?_
      rotate_left
      · (intro w hSw; (try dsimp only at hSw); go_simp; first | done | with_reducible rfl)
      try simp only [Act.put, List.setIfInBounds_toArray, List.set_cons_zero, List.set_cons_succ]
      refine wpAnyH_ready (rs := [12]) (by kernel_rfl) (by simp) ?_
      refine AllReadyH.cons (ho := by simp only [List.getElem?_toArray, List.getElem?_cons_succ, List.getElem?_cons_zero]; rfl) (fun K hK => ?_) AllReadyH.nil
      go_simp
      first
        | (go_at_call 16; refine (HGP.out _).mono ?_; rintro e w2 ⟨rfl, hd2⟩; have hB := hid_below hB hd2; first | (have hm := Kit.hid (blk_below hm.out hd2); have hw := Kit.hid (blk_below hw.out hd2)))
        | (go_at_call 23; refine (HRG.out _).mono ?_; rintro e w2 ⟨rfl, hd2⟩; have hB := hid_below hB hd2; first | (have hm := Kit.hid (blk_below hm.out hd2); have hw := Kit.hid (blk_below hw.out hd2)))
        | (go_at_call 15; refine (HME.out _).mono ?_; rintro e w2 ⟨rfl, hd2⟩; have hB := hid_below hB hd2; first | (have hm := Kit.hid (blk_below hm.out hd2); have hw := Kit.hid (blk_below hw.out hd2)))
        | (go_at_call 22; refine (HRM.out _).mono ?_; rintro e w2 ⟨rfl, hd2⟩; have hB := hid_below hB hd2; first | (have hm := Kit.hid (blk_below hm.out hd2); have hw := Kit.hid (blk_below hw.out hd2)))
      go_wp2_with fail
      refine hK.out _ _ ?_ (fun hHeldN => ?_)
      · ((try dsimp only); go_split_ands; exact ⟨(hd2.cell (cell_lt (by assumption))).trans (by assumption), (hd2.cell (cell_lt (by assumption))).trans (by assumption), (hd2.cell (cell_lt (by assumption))).trans (by assumption), (hd2.cell (cell_lt (by assumption))).trans (by assumption), (hd2.cell (cell_lt (by assumption))).trans (by assumption)⟩)
      clear hHeld
      have hHeld := hHeldN
      clear hHeldN
      clear hK K
      try simp only [Act.put, List.setIfInBounds_toArray, List.set_cons_zero, List.set_cons_succ]
      refine wpAnyH_ready (rs := [14]) (by kernel_rfl) (by simp) ?_
      refine AllReadyH.cons (ho := by simp only [List.getElem?_toArray, List.getElem?_cons_succ, List.getElem?_cons_zero]; rfl) (fun K hK => ?_) AllReadyH.nil
      go_simp
      first
        | (go_at_call 16; refine (HGP.out _).mono ?_; rintro e w2 ⟨rfl, hd2⟩; have hB := hid_below hB hd2; first | (have hm := Kit.hid (blk_below hm.out hd2); have hw := Kit.hid (blk_below hw.out hd2)))
        | (go_at_call 23; refine (HRG.out _).mono ?_; rintro e w2 ⟨rfl, hd2⟩; have hB := hid_below hB hd2; first | (have hm := Kit.hid (blk_below hm.out hd2); have hw := Kit.hid (blk_below hw.out hd2)))
        | (go_at_call 15; refine (HME.out _).mono ?_; rintro e w2 ⟨rfl, hd2⟩; have hB := hid_below hB hd2; first | (have hm := Kit.hid (blk_below hm.out hd2); have hw := Kit.hid (blk_below hw.out hd2)))
        | (go_at_call 22; refine (HRM.out _).mono ?_; rintro e w2 ⟨rfl, hd2⟩; have hB := hid_below hB hd2; first | (have hm := Kit.hid (blk_below hm.out hd2); have hw := Kit.hid (blk_below hw.out hd2)))
      go_wp2_with fail
      refine hK.out _ _ ?_ (fun hHeldN => ?_)
      · ((try dsimp only); go_split_ands; exact ⟨(hd2.cell (cell_lt (by assumption))).trans (by assumption), (hd2.cell (cell_lt (by assumption))).trans (by assumption), (hd2.cell (cell_lt (by assumption))).trans (by assumption), (hd2.cell (cell_lt (by assumption))).trans (by assumption), (hd2.cell (cell_lt (by assumption))).trans (by assumption)⟩)
      clear hHeld
      have hHeld := hHeldN
      clear hHeldN
      clear hK K
      try simp only [Act.put, List.setIfInBounds_toArray, List.set_cons_zero, List.set_cons_succ]
      refine wpAnyH_take (i := 15) (hi := by simp only [List.getElem?_toArray, List.getElem?_cons_succ, List.getElem?_cons_zero]; rfl) (v := ?_) (by kernel_rfl) (by kernel_rfl) (by kernel_rfl) (fun _ _ _ h => h) (Or.inl ⟨by rfl, ?_⟩) (by assumption) ?_
      rotate_left
      · (intro w hSw; (try dsimp only at hSw); go_simp; first | done | with_reducible rfl)
      try simp only [Act.put, List.setIfInBounds_toArray, List.set_cons_zero, List.set_cons_succ]
      refine wpAnyH_take (i := 16) (hi := by simp only [List.getElem?_toArray, List.getElem?_cons_succ, List.getElem?_cons_zero]; rfl) (v := ?_) (by kernel_rfl) (by kernel_rfl) (by kernel_rfl) (fun _ _ _ h => h) (Or.inl ⟨by rfl, ?_⟩) (by assumption) ?_
      rotate_left
      · (intro w hSw; (try dsimp only at hSw); go_simp; first | done | with_reducible rfl)
      try simp only [Act.put, List.setIfInBounds_toArray, List.set_cons_zero, List.set_cons_succ]
      refine wpAnyH_take (i := 17) (hi := by simp only [List.getElem?_toArray, List.getElem?_cons_succ, List.getElem?_cons_zero]; rfl) (v := ?_) (by kernel_rfl) (by kernel_rfl) (by kernel_rfl) (fun _ _ _ h => h) (Or.inl ⟨by rfl, ?_⟩) (by assumption) ?_
      rotate_left
      · (intro w hSw; (try dsimp only at hSw); go_simp; first | done | with_reducible rfl)
      try simp only [Act.put, List.setIfInBounds_toArray, List.set_cons_zero, List.set_cons_succ]
      clear hHeld
      refine wpAnyH_done (by kernel_rfl) ?_ _
      refine NoPanic.normal ?_
      go_wp2_with fail
      go_ret
      exact ⟨by simp, hB.out⟩
end Go.Proofs.Ytjddoohlmgacjaa.Mo

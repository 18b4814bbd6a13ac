/- The law QueueMean. -/
import Derived.Test.YtggcbeoinmnopaaQuMean
namespace Go.Proofs.Ytggcbeoinmnopaa.Qu
open Go.RowKit Go.Proofs.Ytggcbeoinmnopaa.Kit Go.Proofs.Ytggcbeoinmnopaa.ShM Go.Proofs.Ytggcbeoinmnopaa.Sh Go.Proofs.Ytggcbeoinmnopaa.QuM
set_option linter.unusedVariables false
set_option linter.unusedSimpArgs false
set_option maxRecDepth 8000 in
set_option maxHeartbeats 4000000 in
theorem meanLaw_any (A : Option Addr) (l : List QOp) (ca : Nat) (w : World) (hr : Hid (QRow w A l)) (hl : l.length ≤ 9223372036854775807) :
    Calls Try.prog 9 #[.slice A l.length ca] w fun e w' => e = .returned (.bool true) ∧ Below w.heap.size w w' := by
  have HAW := Kit.hid qawake_any
  have HR := hr
  clear hr
  go_enter Try.func9, Try.ntmps9
  go_wp2_with fail
  (with_reducible refine (HAW.out w).mono ?_); rintro e w1 ⟨rfl, hd1⟩
  have HB1 := Kit.hid hd1
  have hr1 := qrow_below HR HB1.out
  clear hd1 HAW HR
  by_cases hbig : 60 < l.length
  · have g1 : (60 : Int) < (l.length : Int) := by omega
    clear hbig
    go_wp2
    go_ret
    exact ⟨rfl, HB1.out⟩
  have g1 : ¬ (60 : Int) < (l.length : Int) := by omega
  have hll : l.length ≤ 60 := by omega
  clear hbig hl
  have HWL := Kit.hid (qwalked_any A l ca w1 hr1 (by omega))
  obtain ⟨HWQ, HQB⟩ := walkedQ_ok l
  generalize walkedQ l = s at HWL HWQ HQB
  obtain ⟨L, b⟩ := s
  dsimp only at HWL HWQ HQB
  have HWQ := Kit.hid HWQ
  have HQB := Kit.hid HQB
  clear hr1
  go_wp2_with fail
  (with_reducible refine HWL.out.mono ?_); rintro e w2 ⟨q, rfl, hq, F, hF, hFe, hk2⟩
  have HF2 := Kit.hid hF
  have HE2 := Kit.hid (hk2.toBelow fun k h => h.elim)
  have HLL : Hid (L.length ≤ 61) := Kit.hid (by have := hF.len; omega)
  obtain ⟨nl, hnl⟩ : ∃ nl, nl = l.length + 1 := ⟨_, rfl⟩
  rw [← hnl] at HF2
  have HNL : Hid (nl ≤ 61) := Kit.hid (by omega)
  clear hF hFe hk2 HWL hq hnl
  have HAL := Kit.hid (qall_any HF2.out HQB.out (by have := HNL.out; omega))
  go_wp2_with fail
  (with_reducible refine HAL.out.mono ?_); rintro e w3 ⟨va, rfl, hva, hb3⟩
  obtain ⟨A3, c3, rfl, hc3, _, hA3⟩ := own_readsS (by decide) hva
  have HRA := trow_cells hc3
  have HF3 := Kit.hid (HF2.out.below hb3)
  have HE3 := Kit.hid (HE2.out.trans (hb3.mono HE2.out.size))
  clear hva hc3 hb3 hA3 HAL HF2 HE2
  have HME := Kit.hid (qmean_any HF3.out HQB.out (by have := HNL.out; omega))
  have HMD : Hid (meanQ L b = if farQ b L = true then (0, false) else if L = [] then (0, false) else (b + sumPq b L / sumWq L, true)) := Kit.hid rfl
  generalize meanQ L b = mq at HME HMD
  obtain ⟨mv, mi⟩ := mq
  dsimp only at HME
  go_wp2_with fail
  (with_reducible refine HME.out.mono ?_); rintro e w4 ⟨rfl, hb4⟩
  have HF4 := Kit.hid (HF3.out.below hb4)
  have HE4 := Kit.hid (HE3.out.trans (hb4.mono HE3.out.size))
  have HR4 := trow_below HRA hb4
  have HEE := Kit.hid (HB1.out.trans (HE4.out.mono HB1.out.size))
  clear hb4 HME HF3 HE3 HRA
  by_cases hnil : L = []
  · subst hnil
    have hm : (mv, mi) = ((0 : Int), false) := HMD.out
    cases hm
    go_wp2
    go_ret
    exact ⟨rfl, HEE.out⟩
  have hpos : 0 < L.length := List.length_pos_iff.2 hnil
  have g2 : ((L.length : Int) == 0) = false := beq_eq_false_iff_ne.2 (by omega)
  by_cases hfar : farQ b L = true
  · have hm : (mv, mi) = ((0 : Int), false) := by rw [HMD.out, if_pos hfar]
    cases hm
    go_wp2
    go_ret
    exact ⟨rfl, HEE.out⟩
  have hm : (mv, mi) = (b + sumPq b L / sumWq L, true) := by rw [HMD.out, if_neg hfar, if_neg hnil]
  obtain ⟨mean, hmean⟩ : ∃ mean, mean = b + sumPq b L / sumWq L := ⟨_, rfl⟩
  rw [← hmean] at hm
  cases hm
  obtain ⟨y, hy⟩ : ∃ y, L[0]? = some y := ⟨_, List.getElem?_eq_getElem hpos⟩
  obtain ⟨z, hz⟩ : ∃ z, L[L.length - 1]? = some z := ⟨_, List.getElem?_eq_getElem (by omega)⟩
  obtain ⟨hm1, hm2⟩ := mean_between HWQ.out HQB.out hy hz hfar
  rw [← hmean] at hm1 hm2
  have hyb := HQB.out.each y (List.mem_of_getElem? hy)
  have hzb := HQB.out.each z (List.mem_of_getElem? hz)
  have hb0 := HQB.out.b0
  obtain ⟨ly, hly⟩ : ∃ ly, ly = y.v - b := ⟨_, rfl⟩
  obtain ⟨lz, hlz⟩ : ∃ lz, lz = z.v - b := ⟨_, rfl⟩
  have HBA : Hid (∀ w', Below w4.heap.size w4 w' → Calls Try.prog 16 #[.pointer (some ⟨q, 0, none⟩)] w' fun e' w'' => e' = .returned (.int .i64 b) ∧ Below w'.heap.size w' w'') := Kit.hid (fun w' h => base_any (HF4.out.below h))
  obtain ⟨ad, hA, p0, p1, p2, p3⟩ := t_at HR4 (tget b L 0 y hy)
  obtain ⟨ad', hA', q0, q1, q2, q3⟩ := t_at HR4 (tget b L _ z hz)
  subst hA
  obtain rfl := Option.some.inj hA'
  rw [show ad.add (0 * 4) = ad from by unfold Addr.add; simp] at p0 p1 p2 p3
  dsimp only at p2 q2
  rw [← hly] at p2
  rw [← hlz] at q2
  obtain ⟨ln, hln⟩ : ∃ ln : Nat, ln = L.length - 1 := ⟨_, rfl⟩
  rw [← hln] at q2
  have HSX : Hid (∀ w', Below w4.heap.size w4 w' → w'.cell? ⟨ad.block, ad.off + 2, none⟩ = some (.int .i64 ly) ∧ w'.cell? ⟨(ad.add (ln * 4)).block, (ad.add (ln * 4)).off + 2, none⟩ = some (.int .i64 lz)) := Kit.hid (fun w' h => ⟨(h.cell (cell_lt p2)).trans p2, (h.cell (cell_lt q2)).trans q2⟩)
  have e1 : IntKind.i64.wrap (b + ly) = y.v := by rw [IntKind.wrap_i64]; omega
  have e2 : IntKind.i64.wrap (b + lz) = z.v := by rw [IntKind.wrap_i64]; omega
  have e3 : IntKind.i64.wrap ((L.length : Int) - 1) = (ln : Int) := by rw [IntKind.wrap_i64]; have := HLL.out; omega
  have k0 : (0 : Int) < (L.length : Int) := by omega
  have k1 : (ln : Int) < (L.length : Int) := by omega
  have k2 : decide (y.v ≤ mv) = true := decide_eq_true hm1
  have k3 : decide (mv ≤ z.v) = true := decide_eq_true hm2
  have k4 : decide (b ≤ y.v) = true := decide_eq_true (by omega)
  clear p0 p1 p2 p3 q0 q1 q2 q3 hyb hzb hb0 hm1 hm2 hly hlz hln hy hz hmean hnil hfar
  go_wp2_with fail
  refine wp_region_noPanic ?_
  refine wp_region_held_drew (S := fun w' => Below w4.heap.size w4 w') (by kernel_rfl) (Below.refl _ _).drew (fun hHeld => ?_)
  refine wpAnyH_take (i := 0) (hi := by simp only [List.getElem?_toArray, List.getElem?_cons_succ, List.getElem?_cons_zero]; rfl) (v := ?_) (by kernel_rfl) (by kernel_rfl) (by kernel_rfl) (fun _ _ _ h => h) (Or.inl ⟨by rfl, ?_⟩) (by assumption) ?_
  rotate_left
  · (intro w hSw; (try dsimp only at hSw); go_simp; first | done | with_reducible rfl)
  try simp only [Act.put, List.setIfInBounds_toArray, List.set_cons_zero, List.set_cons_succ]
  refine wpAnyH_take (i := 2) (hi := by simp only [List.getElem?_toArray, List.getElem?_cons_succ, List.getElem?_cons_zero]; rfl) (v := ?_) (by kernel_rfl) (by kernel_rfl) (by kernel_rfl) (fun _ _ _ h => h) (Or.inl ⟨by rfl, ?_⟩) (by assumption) ?_
  rotate_left
  · (intro w hSw; (try dsimp only at hSw); go_simp; first | done | with_reducible rfl)
  try simp only [Act.put, List.setIfInBounds_toArray, List.set_cons_zero, List.set_cons_succ]
  refine wpAnyH_take (i := 3) (hi := by simp only [List.getElem?_toArray, List.getElem?_cons_succ, List.getElem?_cons_zero]; rfl) (v := ?_) (by kernel_rfl) (by kernel_rfl) (by kernel_rfl) (fun _ _ _ h => h) (Or.inl ⟨by rfl, ?_⟩) (by assumption) ?_
  rotate_left
  · (intro w hSw; (try dsimp only at hSw); (obtain ⟨x0, x1⟩ := HSX.out _ hSw); go_simp; first | done | with_reducible rfl)
  try simp only [Act.put, List.setIfInBounds_toArray, List.set_cons_zero, List.set_cons_succ]
  refine wpAnyH_take (i := 4) (hi := by simp only [List.getElem?_toArray, List.getElem?_cons_succ, List.getElem?_cons_zero]; rfl) (v := ?_) (by kernel_rfl) (by kernel_rfl) (by kernel_rfl) (fun _ _ _ h => h) (Or.inl ⟨by rfl, ?_⟩) (by assumption) ?_
  rotate_left
  · (intro w hSw; (try dsimp only at hSw); go_simp; first | done | with_reducible rfl)
  try simp only [Act.put, List.setIfInBounds_toArray, List.set_cons_zero, List.set_cons_succ]
  refine wpAnyH_take (i := 5) (hi := by simp only [List.getElem?_toArray, List.getElem?_cons_succ, List.getElem?_cons_zero]; rfl) (v := ?_) (by kernel_rfl) (by kernel_rfl) (by kernel_rfl) (fun _ _ _ h => h) (Or.inl ⟨by rfl, ?_⟩) (by assumption) ?_
  rotate_left
  · (intro w hSw; (try dsimp only at hSw); go_simp; first | done | with_reducible rfl)
  try simp only [Act.put, List.setIfInBounds_toArray, List.set_cons_zero, List.set_cons_succ]
  refine wpAnyH_take (i := 6) (hi := by simp only [List.getElem?_toArray, List.getElem?_cons_succ, List.getElem?_cons_zero]; rfl) (v := ?_) (by kernel_rfl) (by kernel_rfl) (by kernel_rfl) (fun _ _ _ h => h) (Or.inl ⟨by rfl, ?_⟩) (by assumption) ?_
  rotate_left
  · (intro w hSw; (try dsimp only at hSw); (obtain ⟨x0, x1⟩ := HSX.out _ hSw); go_simp; first | done | with_reducible rfl)
  try simp only [Act.put, List.setIfInBounds_toArray, List.set_cons_zero, List.set_cons_succ]
  refine wpAnyH_ready (rs := [1]) (by kernel_rfl) (by simp) ?_
  refine AllReadyH.cons (ho := by simp only [List.getElem?_toArray, List.getElem?_cons_succ, List.getElem?_cons_zero]; rfl) (fun K hK => ?_) (AllReadyH.nil)
  go_simp
  go_at_call 16; (with_reducible refine (HBA.out _ hHeld).mono ?_); rintro e w8 ⟨rfl, hb8⟩
  have HB8 : Hid (Below w4.heap.size w4 w8) := Kit.hid (hHeld.trans (hb8.mono hHeld.size))
  clear hb8
  go_wp2_with fail
  refine hK.out _ _ ?_ (fun hHeldN => ?_)
  · exact HB8.out
  clear hHeld
  have hHeld := hHeldN
  clear hHeldN
  clear hK K
  try simp only [Act.put, List.setIfInBounds_toArray, List.set_cons_zero, List.set_cons_succ]
  refine wpAnyH_take (i := 7) (hi := by simp only [List.getElem?_toArray, List.getElem?_cons_succ, List.getElem?_cons_zero]; rfl) (v := ?_) (by kernel_rfl) (by kernel_rfl) (by kernel_rfl) (fun _ _ _ h => h) (Or.inl ⟨by rfl, ?_⟩) (by assumption) ?_
  rotate_left
  · (intro w hSw; (try dsimp only at hSw); go_simp; first | done | with_reducible rfl)
  try simp only [Act.put, List.setIfInBounds_toArray, List.set_cons_zero, List.set_cons_succ]
  refine wpAnyH_take (i := 8) (hi := by simp only [List.getElem?_toArray, List.getElem?_cons_succ, List.getElem?_cons_zero]; rfl) (v := ?_) (by kernel_rfl) (by kernel_rfl) (by kernel_rfl) (fun _ _ _ h => h) (Or.inl ⟨by rfl, ?_⟩) (by assumption) ?_
  rotate_left
  · (intro w hSw; (try dsimp only at hSw); go_simp; first | done | with_reducible rfl)
  try simp only [Act.put, List.setIfInBounds_toArray, List.set_cons_zero, List.set_cons_succ]
  clear hHeld
  refine wpAnyH_done (by kernel_rfl) ?_ _
  refine NoPanic.normal ?_
  skip
  go_wp2_with fail
  refine wp_region_noPanic ?_
  refine wp_region_held_drew (S := fun w' => Below w4.heap.size w4 w') (by kernel_rfl) HB8.out.drew (fun hHeld => ?_)
  refine wpAnyH_take (i := 0) (hi := by simp only [List.getElem?_toArray, List.getElem?_cons_succ, List.getElem?_cons_zero]; rfl) (v := ?_) (by kernel_rfl) (by kernel_rfl) (by kernel_rfl) (fun _ _ _ h => h) (Or.inl ⟨by rfl, ?_⟩) (by assumption) ?_
  rotate_left
  · (intro w hSw; (try dsimp only at hSw); go_simp; first | done | with_reducible rfl)
  try simp only [Act.put, List.setIfInBounds_toArray, List.set_cons_zero, List.set_cons_succ]
  refine wpAnyH_take (i := 2) (hi := by simp only [List.getElem?_toArray, List.getElem?_cons_succ, List.getElem?_cons_zero]; rfl) (v := ?_) (by kernel_rfl) (by kernel_rfl) (by kernel_rfl) (fun _ _ _ h => h) (Or.inl ⟨by rfl, ?_⟩) (by assumption) ?_
  rotate_left
  · (intro w hSw; (try dsimp only at hSw); go_simp; first | done | with_reducible rfl)
  try simp only [Act.put, List.setIfInBounds_toArray, List.set_cons_zero, List.set_cons_succ]
  refine wpAnyH_take (i := 3) (hi := by simp only [List.getElem?_toArray, List.getElem?_cons_succ, List.getElem?_cons_zero]; rfl) (v := ?_) (by kernel_rfl) (by kernel_rfl) (by kernel_rfl) (fun _ _ _ h => h) (Or.inl ⟨by rfl, ?_⟩) (by assumption) ?_
  rotate_left
  · (intro w hSw; (try dsimp only at hSw); go_simp; first | done | with_reducible rfl)
  try simp only [Act.put, List.setIfInBounds_toArray, List.set_cons_zero, List.set_cons_succ]
  refine wpAnyH_take (i := 4) (hi := by simp only [List.getElem?_toArray, List.getElem?_cons_succ, List.getElem?_cons_zero]; rfl) (v := ?_) (by kernel_rfl) (by kernel_rfl) (by kernel_rfl) (fun _ _ _ h => h) (Or.inl ⟨by rfl, ?_⟩) (by assumption) ?_
  rotate_left
  · (intro w hSw; (try dsimp only at hSw); go_simp; first | done | with_reducible rfl)
  try simp only [Act.put, List.setIfInBounds_toArray, List.set_cons_zero, List.set_cons_succ]
  refine wpAnyH_take (i := 5) (hi := by simp only [List.getElem?_toArray, List.getElem?_cons_succ, List.getElem?_cons_zero]; rfl) (v := ?_) (by kernel_rfl) (by kernel_rfl) (by kernel_rfl) (fun _ _ _ h => h) (Or.inl ⟨by rfl, ?_⟩) (by assumption) ?_
  rotate_left
  · (intro w hSw; (try dsimp only at hSw); go_simp; first | done | with_reducible rfl)
  try simp only [Act.put, List.setIfInBounds_toArray, List.set_cons_zero, List.set_cons_succ]
  refine wpAnyH_take (i := 6) (hi := by simp only [List.getElem?_toArray, List.getElem?_cons_succ, List.getElem?_cons_zero]; rfl) (v := ?_) (by kernel_rfl) (by kernel_rfl) (by kernel_rfl) (fun _ _ _ h => h) (Or.inl ⟨by rfl, ?_⟩) (by assumption) ?_
  rotate_left
  · (intro w hSw; (try dsimp only at hSw); (obtain ⟨x0, x1⟩ := HSX.out _ hSw); go_simp; first | done | with_reducible rfl)
  try simp only [Act.put, List.setIfInBounds_toArray, List.set_cons_zero, List.set_cons_succ]
  refine wpAnyH_take (i := 7) (hi := by simp only [List.getElem?_toArray, List.getElem?_cons_succ, List.getElem?_cons_zero]; rfl) (v := ?_) (by kernel_rfl) (by kernel_rfl) (by kernel_rfl) (fun _ _ _ h => h) (Or.inl ⟨by rfl, ?_⟩) (by assumption) ?_
  rotate_left
  · (intro w hSw; (try dsimp only at hSw); go_simp; first | done | with_reducible rfl)
  try simp only [Act.put, List.setIfInBounds_toArray, List.set_cons_zero, List.set_cons_succ]
  refine wpAnyH_take (i := 8) (hi := by simp only [List.getElem?_toArray, List.getElem?_cons_succ, List.getElem?_cons_zero]; rfl) (v := ?_) (by kernel_rfl) (by kernel_rfl) (by kernel_rfl) (fun _ _ _ h => h) (Or.inl ⟨by rfl, ?_⟩) (by assumption) ?_
  rotate_left
  · (intro w hSw; (try dsimp only at hSw); go_simp; first | done | with_reducible rfl)
  try simp only [Act.put, List.setIfInBounds_toArray, List.set_cons_zero, List.set_cons_succ]
  refine wpAnyH_take (i := 9) (hi := by simp only [List.getElem?_toArray, List.getElem?_cons_succ, List.getElem?_cons_zero]; rfl) (v := ?_) (by kernel_rfl) (by kernel_rfl) (by kernel_rfl) (fun _ _ _ h => h) (Or.inl ⟨by rfl, ?_⟩) (by assumption) ?_
  rotate_left
  · (intro w hSw; (try dsimp only at hSw); (obtain ⟨x0, x1⟩ := HSX.out _ hSw); go_simp; first | done | with_reducible rfl)
  try simp only [Act.put, List.setIfInBounds_toArray, List.set_cons_zero, List.set_cons_succ]
  refine wpAnyH_ready (rs := [1]) (by kernel_rfl) (by simp) ?_
  refine AllReadyH.cons (ho := by simp only [List.getElem?_toArray, List.getElem?_cons_succ, List.getElem?_cons_zero]; rfl) (fun K hK => ?_) (AllReadyH.nil)
  go_simp
  go_at_call 16; (with_reducible refine (HBA.out _ hHeld).mono ?_); rintro e w9 ⟨rfl, hb9⟩
  have HB9 : Hid (Below w4.heap.size w4 w9) := Kit.hid (hHeld.trans (hb9.mono hHeld.size))
  clear hb9
  go_wp2_with fail
  refine hK.out _ _ ?_ (fun hHeldN => ?_)
  · exact HB9.out
  clear hHeld
  have hHeld := hHeldN
  clear hHeldN
  clear hK K
  try simp only [Act.put, List.setIfInBounds_toArray, List.set_cons_zero, List.set_cons_succ]
  refine wpAnyH_take (i := 10) (hi := by simp only [List.getElem?_toArray, List.getElem?_cons_succ, List.getElem?_cons_zero]; rfl) (v := ?_) (by kernel_rfl) (by kernel_rfl) (by kernel_rfl) (fun _ _ _ h => h) (Or.inl ⟨by rfl, ?_⟩) (by assumption) ?_
  rotate_left
  · (intro w hSw; (try dsimp only at hSw); go_simp; first | done | with_reducible rfl)
  try simp only [Act.put, List.setIfInBounds_toArray, List.set_cons_zero, List.set_cons_succ]
  refine wpAnyH_take (i := 11) (hi := by simp only [List.getElem?_toArray, List.getElem?_cons_succ, List.getElem?_cons_zero]; rfl) (v := ?_) (by kernel_rfl) (by kernel_rfl) (by kernel_rfl) (fun _ _ _ h => h) (Or.inl ⟨by rfl, ?_⟩) (by assumption) ?_
  rotate_left
  · (intro w hSw; (try dsimp only at hSw); go_simp; first | done | with_reducible rfl)
  try simp only [Act.put, List.setIfInBounds_toArray, List.set_cons_zero, List.set_cons_succ]
  clear hHeld
  refine wpAnyH_done (by kernel_rfl) ?_ _
  refine NoPanic.normal ?_
  skip
  go_wp2_with fail
  (with_reducible refine (HBA.out _ HB9.out).mono ?_); rintro e w10 ⟨rfl, hb10⟩
  have HX := Kit.hid (HEE.out.trans ((HB9.out.trans (hb10.mono HB9.out.size)).mono HEE.out.size))
  go_wp2
  go_ret
  exact ⟨rfl, HX.out⟩
end Go.Proofs.Ytggcbeoinmnopaa.Qu

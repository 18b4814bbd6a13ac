/- The law KinCopies. -/
import Derived.Test.YtkhoiiinifdhcaaKiO
namespace Go.Proofs.Ytkhoiiinifdhcaa.Ki
open Go.RowKit Go.Proofs.Ytkhoiiinifdhcaa.Kit Go.Proofs.Ytkhoiiinifdhcaa.KiM
set_option linter.unusedVariables false
set_option linter.unusedSimpArgs false
/-- A tree outlasts what keeps all blocks but another one's map. -/
theorem KT.kp {w w' : World} {p mb mc n : Nat} {T : Tr} (h : KT w p mb T n) (hm : ∃ es clock, w.heap[mc]? = some (.map es clock)) (hne : mb ≠ mc) (k : Kp mc w w') : KT w' p mb T n := by
  obtain ⟨es, clock, hmc⟩ := hm
  refine ⟨?_, h.2⟩
  obtain ⟨h1, va, h2, h3⟩ := h.1
  have hp : p ≠ mc := fun e => by
    subst e
    rw [h1] at hmc
    cases hmc
  exact ⟨(k.block p (blk_lt h1) hp).trans h1, va, h2.same (k.block mb h2.lt hne), fun j q hj => ⟨(h3 j q hj).1.same fun g hg => k.block g ((h3 j q hj).1.own_lt g hg).2 (row_ne (h3 j q hj).1 hmc g hg), (h3 j q hj).2⟩⟩
/-- Two trees side by side. -/
def Two (W w : World) (p mb : Nat) (T : Tr) (n c mc : Nat) (C : Tr) (k : Nat) : Prop := Kt W w p mb T n ∧ Kt W w c mc C k ∧ mb ≠ mc
section
variable {W w w' : World} {p mb n c mc k k' : Nat} {T C C' : Tr}
theorem Two.symm (h : Two W w p mb T n c mc C k) : Two W w c mc C k p mb T n := ⟨h.2.1, h.1, h.2.2.symm⟩
theorem Two.below (h : Two W w p mb T n c mc C k) (hb : Below w.heap.size w w') : Two W w' p mb T n c mc C k := ⟨h.1.below hb, h.2.1.below hb, h.2.2⟩
theorem Two.op {Q : Ending → Prop} {f : Nat} {args : Array Value} (h : Two W w p mb T n c mc C k)
    (H : Calls Try.prog f args w fun e w' => Q e ∧ KT w' c mc C' k' ∧ Kp mc w w') : Calls Try.prog f args w fun e w' => Q e ∧ Two W w' p mb T n c mc C' k' ∧ ∀ B v l, Row B w v l → Row B w' v l :=
  H.mono fun e w' g => by
    obtain ⟨es, clock, hb, _⟩ := h.2.1.1.1.obj
    exact ⟨g.1, ⟨⟨h.1.1.kp ⟨es, clock, hb⟩ h.2.2 g.2.2, h.1.2.1, h.1.2.2.1, g.2.2.below h.1.2.2.2 h.2.1.2.2.1 h.1.2.2.2.size⟩, h.2.1.step g.2.1 g.2.2, h.2.2⟩, fun B v l hr => hr.kp h.2.1.1 g.2.2⟩
end
end Go.Proofs.Ytkhoiiinifdhcaa.Ki
namespace Go.Proofs.Ytkhoiiinifdhcaa.Ki
open Go.RowKit Go.Proofs.Ytkhoiiinifdhcaa.Kit Go.Proofs.Ytkhoiiinifdhcaa.KiM
set_option linter.unusedVariables false
set_option linter.unusedSimpArgs false
set_option maxRecDepth 8000 in
set_option maxHeartbeats 3200000 in
theorem copiesLaw_any (A : Option Addr) (l : List KOp) (ca : Nat) (A2 : Option Addr) (l2 : List KOp) (ca2 : Nat) (w : World) (hr : Hid (KRow w A l)) (hl : l.length ≤ 9223372036854775807) (hr2 : Hid (KRow w A2 l2)) (hl2 : l2.length ≤ 9223372036854775807) :
    Calls Try.prog 8 #[.slice A l.length ca, .slice A2 l2.length ca2] w fun e w' => e = .returned (.bool true) ∧ Below w.heap.size w w' := by
  have HAW := Kit.hid awake_any
  have HR := hr
  have HR2 := hr2
  clear hr hr2
  go_enter Try.func8, Try.ntmps8
  go_wp2_with fail
  (with_reducible refine (HAW.out w).mono ?_); rintro e w1 ⟨rfl, hd1⟩
  have HB1 := Kit.hid hd1
  have hr1 := krow_below HR HB1.out
  have HRM := krow_below HR2 HB1.out
  clear hd1 HAW HR HR2
  by_cases hbig : 60 < l.length
  · have g1 : (60 : Int) < (l.length : Int) := by omega
    clear hbig
    go_wp2
    go_ret
    exact ⟨rfl, HB1.out⟩
  have g1 : ¬ (60 : Int) < (l.length : Int) := by omega
  have hll : l.length ≤ 60 := by omega
  clear hbig hl
  by_cases hbig2 : 60 < l2.length
  · have g2 : (60 : Int) < (l2.length : Int) := by omega
    clear hbig2
    go_wp2
    go_ret
    exact ⟨rfl, HB1.out⟩
  have g2 : ¬ (60 : Int) < (l2.length : Int) := by omega
  have hl22 : l2.length ≤ 60 := by omega
  clear hbig2 hl2
  have HWL := Kit.hid (walked_any A l ca w1 hr1 (by omega))
  have HWF := Kit.hid (walkedK_wf l)
  generalize walkedK l = T at HWL HWF
  clear hr1
  go_wp2_with fail
  (with_reducible refine HWL.out.mono ?_); rintro e w2 ⟨p, mb, rfl, hq⟩
  obtain ⟨n, hn⟩ : ∃ n, n = 3 * l.length + 1 := ⟨_, rfl⟩
  rw [← hn] at hq
  have HK2 := Kit.hid hq
  have HNL : Hid (n ≤ 181) := Kit.hid (by omega)
  have HUL : Hid (∀ (T' : Tr) x, T'.length ≤ 400 → WF T' → (under T' x).length ≤ 1000000) := Kit.hid (fun T' x h1 h2 => by have := under_len h2 x; omega)
  have HKL : Hid (∀ x, (kids T x).length ≤ 182) := Kit.hid (fun x => by have := kids_len (T := T) x; have := hq.1.2.2.2; omega)
  have HTL : Hid (T.length ≤ 400) := Kit.hid (by have := hq.1.2.2.2; omega)
  have HCP := Kit.hid (copy_any hq.1)
  have HD : Hid (∀ (o : KOp) (p' mb' c' mc' : Nat) (T' C' : Tr) n' k' w', Two w1 w' p' mb' T' n' c' mc' C' k' → k' ≤ 4000 → (-9223372036854775808 ≤ o.id ∧ o.id ≤ 9223372036854775807) → (-9223372036854775808 ≤ o.p ∧ o.p ≤ 9223372036854775807) →
      Calls Try.prog 14 #[.pointer (some ⟨c', 0, none⟩), .agg #[.int .i64 o.d, .int .i64 o.id, .int .i64 o.p]] w' fun e w'' => e = .returned (.int .i64 (doK C' o).1) ∧ Two w1 w'' p' mb' T' n' c' mc' (doK C' o).2 (k' + 3) ∧ ∀ B v l, Row B w' v l → Row B w'' v l) :=
    Kit.hid (fun o p' mb' c' mc' T' C' n' k' w' h hk h1 h2 => h.op (do_any o h.2.1.1 hk h1.1 h1.2 h2.1 h2.2))
  have HRM2 : Hid (∀ w' p' mb' T' n' c' mc' C' k', Two w1 w' p' mb' T' n' c' mc' C' k' → Hid (KRow w' A2 l2)) := Kit.hid (fun w' p' mb' T' n' c' mc' C' k' h => krow_below HRM h.1.2.2.2)
  have HU : Hid (∀ (p' mb' c' mc' : Nat) (T' C' : Tr) n' k' w', Two w1 w' p' mb' T' n' c' mc' C' k' → Calls Try.prog 19 #[.pointer (some ⟨p', 0, none⟩), .int .i64 0] w' fun e w'' => ∃ A c, e = .returned (.slice A (under T' 0).length c) ∧ Row 0 w'' (.slice A (under T' 0).length c) (under T' 0) ∧ Two w1 w'' p' mb' T' n' c' mc' C' k' ∧ Below w'.heap.size w' w'') := Kit.hid (fun p' mb' c' mc' T' C' n' k' w' h => (kt_under h.1 0 (by omega)).mono fun e w'' g => by
    obtain ⟨A, c, h1, h2, h3, h4⟩ := g
    exact ⟨A, c, h1, h2, h.below h4, h4⟩)
  have HK2 := Kit.hid hq
  clear hq hn HWL HRM
  go_wp2_with fail
  (with_reducible refine HCP.out.mono ?_); rintro e w3 ⟨c, mc, rfl, hc1, hc2, hc3, hb3⟩
  have HT3 : Hid (Two w1 w3 p mb T n c mc T n) := Kit.hid ⟨HK2.out.below hb3, ⟨hc3, Nat.le_trans HK2.out.2.2.2.size hc1, Nat.le_trans HK2.out.2.2.2.size hc2, (HK2.out.below hb3).2.2.2⟩, fun e => by
    have := HK2.out.1.1.lt.2.1
    omega⟩
  have H4 := Kit.hid (HU.out _ _ _ _ _ _ _ _ _ HT3.out)
  obtain ⟨U, hU⟩ : ∃ U, U = under T 0 := ⟨_, rfl⟩
  have HUE := Kit.hid hU
  have hul : U.length ≤ 1000000 := by rw [hU]; exact HUL.out _ _ HTL.out HWF.out
  rw [← hU] at H4
  clear hc1 hc2 hc3 hb3 HCP hU
  go_wp2_with fail
  (with_reducible refine H4.out.mono ?_); rintro e w4 ⟨Au, cu, rfl, hru, ht4, _⟩
  have HRU4 := Kit.hid hru
  have HT4 := Kit.hid ht4
  clear hru ht4 H4
  go_wp2_with fail
  go_loopw [9] (fun v9 wr => ∃ i : Nat, i ≤ l2.length ∧ v9 = .int .i64 i ∧ Hid (Two w1 wr p mb T n c mc (runK T (l2.take i)) (n + 3 * i)) ∧ Hid (Row 0 wr (.slice Au U.length cu) U)) (fun i _ => l2.length - (intOf i).toNat)
  case atStart => exact ⟨0, by omega, rfl, HT4, HRU4⟩
  case round =>
    obtain ⟨i, hi, rfl, HT, HRU⟩ := hrel
    by_cases hlt : i < l2.length
    · obtain ⟨o, ho⟩ : ∃ o, l2[i]? = some o := ⟨_, List.getElem?_eq_getElem hlt⟩
      obtain ⟨ad, hA, c0, c1, c2, hi1, hi2⟩ := kop_at (HRM2.out _ _ _ _ _ _ _ _ _ HT.out) ho
      have HS := Kit.hid (runK_snoc T l2 i o ho)
      have HDO := Kit.hid (HD.out o _ _ _ _ _ _ _ _ _ HT.out (by have := HNL.out; omega) hi1 hi2)
      subst hA
      clear ho hi1 hi2
      go_wp2_with fail
      (with_reducible refine HDO.out.mono ?_); rintro e w5 ⟨rfl, ht5, hr5⟩
      have HT5 : Hid (Two w1 w5 p mb T n c mc (runK T (l2.take (i + 1))) (n + 3 * (i + 1))) := Kit.hid (by rw [HS.out]; exact ht5)
      have HRU5 := Kit.hid (hr5 _ _ _ HRU.out)
      clear ht5 hr5 HDO
      go_wp2_with fail
      go_roundw
      case rel => exact ⟨i + 1, by omega, by go_num, HT5, HRU5⟩
      case measure => simp [intOf]; omega
    · obtain rfl : i = l2.length := by omega
      rw [List.take_length] at HT
      have H5 := Kit.hid (HU.out _ _ _ _ _ _ _ _ _ HT.out)
      rw [← HUE.out] at H5
      obtain ⟨n3, hn3⟩ : ∃ n3, n3 = n + 3 * l2.length := ⟨_, rfl⟩
      have HN3 : Hid (n3 ≤ 400) := Kit.hid (by have := HNL.out; omega)
      rw [← hn3] at HT H5
      obtain ⟨C, hC⟩ : ∃ C, C = runK T l2 := ⟨_, rfl⟩
      have HCE := Kit.hid hC
      rw [← hC] at HT H5
      clear hn3 hC
      go_wp2_with fail
      (with_reducible refine H5.out.mono ?_); rintro e w5 ⟨A5, c5, rfl, hr5, ht5, hb5⟩
      have HRU5 := Kit.hid (HRU.out.below hb5)
      have H6 := Kit.hid (rsame_any hr5 HRU5.out (by omega) (by omega))
      rw [decide_eq_true rfl] at H6
      have HT5 := Kit.hid ht5
      clear hr5 ht5 hb5 H5 HT HRU
      go_wp2_with fail
      (with_reducible refine H6.out.mono ?_); rintro e w6 ⟨rfl, hb6⟩
      have HRU6 := Kit.hid (HRU5.out.below hb6)
      have HT6 := Kit.hid (HT5.out.below hb6)
      clear hb6 H6 HT5 HRU5
      go_wp2_with fail
      go_loopw [10] (fun v10 wr => ∃ i : Nat, i ≤ U.length ∧ v10 = .int .i64 i ∧ Hid (Two w1 wr p mb T n c mc C n3) ∧ Hid (Row 0 wr (.slice Au U.length cu) U)) (fun i _ => U.length - (intOf i).toNat)
      case atStart => exact ⟨0, by omega, rfl, HT6, HRU6⟩
      case round =>
        obtain ⟨i, hi, rfl, HT, HRU⟩ := hrel
        by_cases hlt : i < U.length
        · obtain ⟨y, hy⟩ : ∃ y, U[i]? = some y := ⟨_, List.getElem?_eq_getElem hlt⟩
          obtain ⟨ad, rfl, c0⟩ := row_at HRU.out hy
          have hym : has T y = true := HWF.out.all_mem.1 (by rw [← HUE.out]; exact List.mem_of_getElem? hy)
          have HK7 := Kit.hid (kt_kidsR HT.out.1 y (HWF.out.fits hym))
          have HY := Kit.hid hy
          obtain ⟨Y, hY⟩ : ∃ Y, Y = kids T y := ⟨_, rfl⟩
          have HYE := Kit.hid hY
          have hyl : Y.length ≤ 182 := by rw [hY]; exact HKL.out y
          rw [← hY] at HK7
          clear hy hym hY
          go_wp2_with fail
          (with_reducible refine HK7.out.mono ?_); rintro e w7 ⟨A7, c7, rfl, hr7, _, hb7⟩
          have HR7 := Kit.hid hr7
          have HRU7 := Kit.hid (HRU.out.below hb7)
          have HT7 := Kit.hid (HT.out.below hb7)
          clear hr7 hb7 HK7 HT HRU c0
          go_wp2_with fail
          go_loopw [12] (fun v12 wr => ∃ j : Nat, j ≤ Y.length ∧ v12 = .int .i64 j ∧ Hid (Two w1 wr p mb T n c mc C n3) ∧ Hid (Row 0 wr (.slice (some ad) U.length cu) U) ∧ Hid (Row 0 wr (.slice A7 Y.length c7) Y)) (fun j _ => Y.length - (intOf j).toNat)
          case atStart => exact ⟨0, by omega, rfl, HT7, HRU7, HR7⟩
          case round =>
            obtain ⟨j, hj, rfl, HT, HRU, HRY⟩ := hrel
            by_cases hltj : j < Y.length
            · obtain ⟨q, hq⟩ : ∃ q, Y[j]? = some q := ⟨_, List.getElem?_eq_getElem hltj⟩
              obtain ⟨ay, rfl, _⟩ := row_at HRY.out hq
              have HQ := Kit.hid hq
              have HG : Hid (get T q = some y) := Kit.hid ((mem_kids HWF.out.rises).1 (by rw [← HYE.out]; exact List.mem_of_getElem? hq))
              have HC : Hid (∀ w', Below wr.heap.size wr w' → w'.cell? (ay.add j) = some (.int .i64 q) ∧ w'.cell? (ad.add i) = some (.int .i64 y)) := Kit.hid (fun w' hb => by
                obtain ⟨a1, e1, d1⟩ := row_at (HRY.out.below hb) HQ.out
                obtain ⟨a2, e2, d2⟩ := row_at (HRU.out.below hb) HY.out
                cases e1
                cases e2
                exact ⟨d1, d2⟩)
              have HPA : Hid (∀ w', Below wr.heap.size wr w' → Calls Try.prog 23 #[.pointer (some ⟨p, 0, none⟩), .int .i64 q] w' fun e w'' => e = .returned (.int .i64 y) ∧ Below w'.heap.size w' w'') := Kit.hid (fun w' hb => by
                have hf := HWF.out.fits (x := q) (has_iff.2 (.inr ⟨_, HG.out⟩))
                have := kt_parent (HT.out.below hb).1.1 q hf.1 hf.2
                unfold parent at this
                rw [HG.out] at this
                exact this)
              have hne : (y != y) = false := by simp
              clear hq
              go_wp2
              refine wp_region_noPanic ?_
              refine wp_region_held_drew (S := fun w' => Below wr.heap.size wr w') (by kernel_rfl) (Below.refl _ _).drew (fun hHeld => ?_)
              refine wpAnyH_take (i := 0) (hi := by simp only [List.getElem?_toArray, List.getElem?_cons_succ, List.getElem?_cons_zero]; rfl) (v := ?_) (by kernel_rfl) (by kernel_rfl) (by kernel_rfl) (fun _ _ _ h => h) (Or.inl ⟨by rfl, ?_⟩) (by assumption) ?_
              rotate_left
              · (intro w hSw; (try dsimp only at hSw); go_simp; first | done | with_reducible rfl)
              try simp only [Act.put, List.setIfInBounds_toArray, List.set_cons_zero, List.set_cons_succ]
              refine wpAnyH_take (i := 1) (hi := by simp only [List.getElem?_toArray, List.getElem?_cons_succ, List.getElem?_cons_zero]; rfl) (v := ?_) (by kernel_rfl) (by kernel_rfl) (by kernel_rfl) (fun _ _ _ h => h) (Or.inl ⟨by rfl, ?_⟩) (by assumption) ?_
              rotate_left
              · (intro w hSw; (try dsimp only at hSw); go_simp; first | done | with_reducible rfl)
              try simp only [Act.put, List.setIfInBounds_toArray, List.set_cons_zero, List.set_cons_succ]
              refine wpAnyH_take (i := 2) (hi := by simp only [List.getElem?_toArray, List.getElem?_cons_succ, List.getElem?_cons_zero]; rfl) (v := ?_) (by kernel_rfl) (by kernel_rfl) (by kernel_rfl) (fun _ _ _ h => h) (Or.inl ⟨by rfl, ?_⟩) (by assumption) ?_
              rotate_left
              · (intro w hSw; (try dsimp only at hSw); go_simp; first | done | with_reducible rfl)
              try simp only [Act.put, List.setIfInBounds_toArray, List.set_cons_zero, List.set_cons_succ]
              refine wpAnyH_take (i := 3) (hi := by simp only [List.getElem?_toArray, List.getElem?_cons_succ, List.getElem?_cons_zero]; rfl) (v := ?_) (by kernel_rfl) (by kernel_rfl) (by kernel_rfl) (fun _ _ _ h => h) (Or.inl ⟨by rfl, ?_⟩) (by assumption) ?_
              rotate_left
              · (intro w hSw; (try dsimp only at hSw); (obtain ⟨c0, c1⟩ := HC.out _ hSw); go_simp; first | done | with_reducible rfl)
              try simp only [Act.put, List.setIfInBounds_toArray, List.set_cons_zero, List.set_cons_succ]
              refine wpAnyH_take (i := 4) (hi := by simp only [List.getElem?_toArray, List.getElem?_cons_succ, List.getElem?_cons_zero]; rfl) (v := ?_) (by kernel_rfl) (by kernel_rfl) (by kernel_rfl) (fun _ _ _ h => h) (Or.inl ⟨by rfl, ?_⟩) (by assumption) ?_
              rotate_left
              · (intro w hSw; (try dsimp only at hSw); (obtain ⟨c0, c1⟩ := HC.out _ hSw); go_simp; first | done | with_reducible rfl)
              try simp only [Act.put, List.setIfInBounds_toArray, List.set_cons_zero, List.set_cons_succ]
              refine wpAnyH_take (i := 6) (hi := by simp only [List.getElem?_toArray, List.getElem?_cons_succ, List.getElem?_cons_zero]; rfl) (v := ?_) (by kernel_rfl) (by kernel_rfl) (by kernel_rfl) (fun _ _ _ h => h) (Or.inl ⟨by rfl, ?_⟩) (by assumption) ?_
              rotate_left
              · (intro w hSw; (try dsimp only at hSw); go_simp; first | done | with_reducible rfl)
              try simp only [Act.put, List.setIfInBounds_toArray, List.set_cons_zero, List.set_cons_succ]
              refine wpAnyH_take (i := 7) (hi := by simp only [List.getElem?_toArray, List.getElem?_cons_succ, List.getElem?_cons_zero]; rfl) (v := ?_) (by kernel_rfl) (by kernel_rfl) (by kernel_rfl) (fun _ _ _ h => h) (Or.inl ⟨by rfl, ?_⟩) (by assumption) ?_
              rotate_left
              · (intro w hSw; (try dsimp only at hSw); go_simp; first | done | with_reducible rfl)
              try simp only [Act.put, List.setIfInBounds_toArray, List.set_cons_zero, List.set_cons_succ]
              refine wpAnyH_take (i := 8) (hi := by simp only [List.getElem?_toArray, List.getElem?_cons_succ, List.getElem?_cons_zero]; rfl) (v := ?_) (by kernel_rfl) (by kernel_rfl) (by kernel_rfl) (fun _ _ _ h => h) (Or.inl ⟨by rfl, ?_⟩) (by assumption) ?_
              rotate_left
              · (intro w hSw; (try dsimp only at hSw); (obtain ⟨c0, c1⟩ := HC.out _ hSw); go_simp; first | done | with_reducible rfl)
              try simp only [Act.put, List.setIfInBounds_toArray, List.set_cons_zero, List.set_cons_succ]
              refine wpAnyH_take (i := 9) (hi := by simp only [List.getElem?_toArray, List.getElem?_cons_succ, List.getElem?_cons_zero]; rfl) (v := ?_) (by kernel_rfl) (by kernel_rfl) (by kernel_rfl) (fun _ _ _ h => h) (Or.inl ⟨by rfl, ?_⟩) (by assumption) ?_
              rotate_left
              · (intro w hSw; (try dsimp only at hSw); (obtain ⟨c0, c1⟩ := HC.out _ hSw); go_simp; first | done | with_reducible rfl)
              try simp only [Act.put, List.setIfInBounds_toArray, List.set_cons_zero, List.set_cons_succ]
              refine wpAnyH_ready (rs := [5]) (by kernel_rfl) (by simp) ?_
              refine AllReadyH.cons (ho := by simp only [List.getElem?_toArray, List.getElem?_cons_succ, List.getElem?_cons_zero]; rfl) (fun K hK => ?_) (AllReadyH.nil)
              go_simp
              go_at_call 23; (with_reducible refine (HPA.out _ hHeld).mono ?_); rintro e w11 ⟨rfl, hb11⟩
              have HB11 : Hid (Below wr.heap.size wr w11) := Kit.hid (hHeld.trans (hb11.mono hHeld.size))
              clear hb11
              go_wp2_with fail
              refine hK.out _ _ ?_ (fun hHeldN => ?_)
              · exact HB11.out
              clear hHeld
              have hHeld := hHeldN
              clear hHeldN
              clear hK K
              try simp only [Act.put, List.setIfInBounds_toArray, List.set_cons_zero, List.set_cons_succ]
              refine wpAnyH_take (i := 10) (hi := by simp only [List.getElem?_toArray, List.getElem?_cons_succ, List.getElem?_cons_zero]; rfl) (v := ?_) (by kernel_rfl) (by kernel_rfl) (by kernel_rfl) (fun _ _ _ h => h) (Or.inl ⟨by rfl, ?_⟩) (by assumption) ?_
              rotate_left
              · (intro w hSw; (try dsimp only at hSw); go_simp; first | done | with_reducible rfl)
              try simp only [Act.put, List.setIfInBounds_toArray, List.set_cons_zero, List.set_cons_succ]
              clear hHeld
              refine wpAnyH_done (by kernel_rfl) ?_ _
              refine NoPanic.normal ?_
              skip
              go_wp2_with fail
              go_roundw
              case rel => exact ⟨j + 1, by omega, by go_num, Kit.hid (HT.out.below HB11.out), Kit.hid (HRU.out.below HB11.out), Kit.hid (HRY.out.below HB11.out)⟩
              case measure => simp [intOf]; omega
            · obtain rfl : j = Y.length := by omega
              go_wp2
              go_roundw
              case rel => exact ⟨i + 1, by omega, by go_num, HT, HRU⟩
              case measure => simp [intOf]; omega
        · obtain rfl : i = U.length := by omega
          have HT0 : Hid (Two w1 wr c mc C n3 p mb T n) := Kit.hid HT.out.symm
          clear HT HRU
          go_wp2_with fail
          go_loopw [13] (fun v13 wr => ∃ i : Nat, i ≤ l2.length ∧ v13 = .int .i64 i ∧ Hid (Two w1 wr c mc C n3 p mb (runK T (l2.take i)) (n + 3 * i))) (fun i _ => l2.length - (intOf i).toNat)
          case atStart => exact ⟨0, by omega, rfl, HT0⟩
          case round =>
            obtain ⟨i, hi, rfl, HT⟩ := hrel
            by_cases hlt : i < l2.length
            · obtain ⟨o, ho⟩ : ∃ o, l2[i]? = some o := ⟨_, List.getElem?_eq_getElem hlt⟩
              obtain ⟨ad, hA, c0, c1, c2, hi1, hi2⟩ := kop_at (HRM2.out _ _ _ _ _ _ _ _ _ HT.out) ho
              have HS := Kit.hid (runK_snoc T l2 i o ho)
              have HDO := Kit.hid (HD.out o _ _ _ _ _ _ _ _ _ HT.out (by have := HNL.out; omega) hi1 hi2)
              subst hA
              clear ho hi1 hi2
              go_wp2_with fail
              (with_reducible refine HDO.out.mono ?_); rintro e w5 ⟨rfl, ht5, _⟩
              have HT5 : Hid (Two w1 w5 c mc C n3 p mb (runK T (l2.take (i + 1))) (n + 3 * (i + 1))) := Kit.hid (by rw [HS.out]; exact ht5)
              clear ht5 HDO
              go_wp2_with fail
              go_roundw
              case rel => exact ⟨i + 1, by omega, by go_num, HT5⟩
              case measure => simp [intOf]; omega
            · obtain rfl : i = l2.length := by omega
              rw [List.take_length, ← HCE.out] at HT
              have H8 := Kit.hid (HU.out _ _ _ _ _ _ _ _ _ HT.out.symm)
              have HCL : Hid ((under C 0).length ≤ 1000000) := Kit.hid (HUL.out C 0 (by have := HT.out.1.1.2.2.2; have := HN3.out; omega) HT.out.1.1.2.1)
              obtain ⟨V, hV⟩ : ∃ V, V = under C 0 := ⟨_, rfl⟩
              have HVE := Kit.hid hV
              rw [← hV] at H8 HCL
              clear hV
              go_wp2_with fail
              (with_reducible refine H8.out.mono ?_); rintro e w8 ⟨A8, c8, rfl, hr8, ht8, _⟩
              have HR8 := Kit.hid hr8
              have H9 := Kit.hid (HU.out _ _ _ _ _ _ _ _ _ ht8.symm)
              rw [← HVE.out] at H9
              clear hr8 ht8 H8
              go_wp2_with fail
              (with_reducible refine H9.out.mono ?_); rintro e w9 ⟨A9, c9, rfl, hr9, ht9, hb9⟩
              have HR89 := Kit.hid (HR8.out.below hb9)
              have H10 := Kit.hid (rsame_any HR89.out hr9 HCL.out HCL.out)
              rw [decide_eq_true rfl] at H10
              have HT9 := Kit.hid ht9
              clear hr9 ht9 hb9 H9
              go_wp2_with fail
              (with_reducible refine H10.out.mono ?_); rintro e w10 ⟨rfl, hb10⟩
              have HT10 := Kit.hid (HT9.out.below hb10)
              clear hb10 H10
              go_wp2
              go_ret
              exact ⟨rfl, HB1.out.trans (HT10.out.1.2.2.2.mono HB1.out.size)⟩
end Go.Proofs.Ytkhoiiinifdhcaa.Ki

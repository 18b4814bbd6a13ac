/- The law KinMoves. -/
import Derived.Test.YtkhoiiinifdhcaaKiO
namespace Go.Proofs.Ytkhoiiinifdhcaa.KiM
/-- What a move does, as the law asks it. -/
theorem moved_law {T T' : Tr} {id old p : Int} (h : WF T) (m : Moved T id old p T') :
    (under T' 0).length = (under T 0).length ∧ parent T id = old ∧ parent T' id = p ∧ under T' id = under T id ∧ p ∉ under T id ∧ moveR T' id old = (0, T) ∧ has T old = true := by
  have h' := h.move m
  have hid := h.move_ne m
  have ho := h.move_old m
  have hh : has T id = true := has_iff.2 (.inr ⟨_, m.old_⟩)
  refine ⟨?_, by unfold parent; rw [m.old_]; rfl, ?_, h.move_under m, ?_, (h.move_back m).run h', ho.2.1⟩
  · apply List.Perm.length_eq
    apply (List.perm_ext_iff_of_nodup (h'.nodup_under (has_zero _)) (h.nodup_under (has_zero _))).2
    intro x
    rw [h'.all_mem, h.all_mem, h.move_has m]
  · unfold parent
    rw [h.move_get m, if_pos rfl]
    rfl
  · rw [h.mem_under hh]
    rintro ⟨_, e | e⟩
    · exact hid.1 e
    · exact m.not e
end Go.Proofs.Ytkhoiiinifdhcaa.KiM
namespace Go.Proofs.Ytkhoiiinifdhcaa.Ki
open Go.RowKit Go.Proofs.Ytkhoiiinifdhcaa.Kit Go.Proofs.Ytkhoiiinifdhcaa.KiM
set_option linter.unusedVariables false
set_option linter.unusedSimpArgs false
set_option maxRecDepth 8000 in
set_option maxHeartbeats 3200000 in
theorem movesLaw_any (A : Option Addr) (l : List KOp) (ca : Nat) (id to : Int) (w : World) (hr : Hid (KRow w A l)) (hl : l.length ≤ 9223372036854775807) (hi1 : -9223372036854775808 ≤ id) (hi2 : id ≤ 9223372036854775807) (ht1 : -9223372036854775808 ≤ to) (ht2 : to ≤ 9223372036854775807) :
    Calls Try.prog 7 #[.slice A l.length ca, .int .i64 id, .int .i64 to] w fun e w' => e = .returned (.bool true) ∧ Below w.heap.size w w' := by
  have HAW := Kit.hid awake_any
  have HR := hr
  clear hr
  go_enter Try.func7, Try.ntmps7
  go_wp2_with fail
  (with_reducible refine (HAW.out w).mono ?_); rintro e w1 ⟨rfl, hd1⟩
  have HB1 := Kit.hid hd1
  have hr1 := krow_below HR HB1.out
  clear hd1 HAW HR
  by_cases hbig : 60 < l.length
  · have g1 : (60 : Int) < (l.length : Int) := by omega
    clear hbig
    go_wp2
    go_ret
    exact ⟨rfl, HB1.out⟩
  have g1 : ¬ (60 : Int) < (l.length : Int) := by omega
  have hll : l.length ≤ 60 := by omega
  clear hbig hl
  have HWL := Kit.hid (walked_any A l ca w1 hr1 (by omega))
  have HWF := Kit.hid (walkedK_wf l)
  generalize walkedK l = T at HWL HWF
  clear hr1
  go_wp2_with fail
  (with_reducible refine HWL.out.mono ?_); rintro e w2 ⟨p, mb, rfl, hq⟩
  obtain ⟨n, hn⟩ : ∃ n, n = 3 * l.length + 1 := ⟨_, rfl⟩
  rw [← hn] at hq
  have HK2 := Kit.hid hq
  have HNL : Hid (n ≤ 181) := Kit.hid (by omega)
  have HUL : Hid (∀ x, (under T x).length ≤ 182) := Kit.hid (fun x => by have := under_len HWF.out x; have := hq.1.2.2.2; omega)
  have HUI : Hid (∀ (T' : Tr) n' w', Kt w1 w' p mb T' n' → Calls Try.prog 19 #[.pointer (some ⟨p, 0, none⟩), .int .i64 id] w' (RowPost w1 p mb T' n' (under T' id) w')) := Kit.hid (fun T' n' w' h => kt_under h id ⟨hi1, hi2⟩)
  have HU0 : Hid (∀ (T' : Tr) n' w', Kt w1 w' p mb T' n' → Calls Try.prog 19 #[.pointer (some ⟨p, 0, none⟩), .int .i64 0] w' (RowPost w1 p mb T' n' (under T' 0) w')) := Kit.hid (fun T' n' w' h => kt_under h 0 (by omega))
  have HPI : Hid (∀ (T' : Tr) n' w', Kt w1 w' p mb T' n' → Calls Try.prog 23 #[.pointer (some ⟨p, 0, none⟩), .int .i64 id] w' fun e w'' => e = .returned (.int .i64 (parent T' id)) ∧ Kt w1 w'' p mb T' n' ∧ Below w'.heap.size w' w'') := Kit.hid (fun T' n' w' h => (kt_parent h.1 id hi1 hi2).mono fun e w'' g => ⟨g.1, h.below g.2, g.2⟩)
  have HMV := Kit.hid (fun (w' : World) (h : Kt w1 w' p mb T n) => kt_move h (by have := HNL.out; omega) id to ⟨hi1, hi2⟩ ⟨ht1, ht2⟩)
  have HSM : Hid (∀ (w' : World) (A1 : Option Addr) c1 l1 A2 c2 l2 (T' : Tr) n', Kt w1 w' p mb T' n' → Row 0 w' (.slice A1 (List.length l1) c1) l1 → Row 0 w' (.slice A2 (List.length l2) c2) l2 → l1.length ≤ 1000000 → l2.length ≤ 1000000 → Calls Try.prog 18 #[.slice A1 l1.length c1, .slice A2 l2.length c2] w' fun e w'' => e = .returned (.bool (decide (l1 = l2))) ∧ Kt w1 w'' p mb T' n' ∧ Below w'.heap.size w' w'') := Kit.hid (fun w' A1 c1 l1 A2 c2 l2 T' n' hk h1 h2 h3 h4 => (rsame_any h1 h2 h3 h4).mono fun e w'' g => ⟨g.1, hk.below g.2, g.2⟩)
  obtain ⟨PA, hPA⟩ : ∃ q, q = parent T id := ⟨_, rfl⟩
  have HPAE := Kit.hid hPA
  obtain ⟨U, hU⟩ : ∃ U, U = under T 0 := ⟨_, rfl⟩
  have HUE := Kit.hid hU
  obtain ⟨V, hV⟩ : ∃ V, V = under T id := ⟨_, rfl⟩
  have HVE := Kit.hid hV
  have HUL0 : Hid (U.length ≤ 182) := Kit.hid (by rw [hU]; exact HUL.out 0)
  have HVL0 : Hid (V.length ≤ 182) := Kit.hid (by rw [hV]; exact HUL.out id)
  have H3 := Kit.hid (HU0.out T n w2 hq)
  have HUI0 := Kit.hid (fun (w' : World) (h : Kt w1 w' p mb T n) => HUI.out T n w' h)
  have HPI0 := Kit.hid (fun (w' : World) (h : Kt w1 w' p mb T n) => HPI.out T n w' h)
  rw [← hU] at H3
  rw [← hV] at HUI0
  rw [← hPA] at HPI0
  clear hq hn HWL hU hV hPA
  go_wp2_with fail
  (with_reducible refine H3.out.mono ?_); rintro e w3 ⟨Aw, cw, rfl, hrw, hk3, _⟩
  have HRW3 := Kit.hid hrw
  have HK3 := Kit.hid hk3
  clear hrw hk3 H3
  go_wp2_with fail
  (with_reducible refine (HUI0.out _ HK3.out).mono ?_); rintro e w4 ⟨Av, cv, rfl, hrv, hk4, hb4⟩
  have HRW4 := Kit.hid (HRW3.out.below hb4)
  have HRV4 := Kit.hid hrv
  have HK4 := Kit.hid hk4
  clear hrv hk4 hb4 HRW3 HK3
  go_wp2_with fail
  (with_reducible refine (HPI0.out _ HK4.out).mono ?_); rintro e w5 ⟨rfl, hk5, hb5⟩
  have HRW5 := Kit.hid (HRW4.out.below hb5)
  have HRV5 := Kit.hid (HRV4.out.below hb5)
  have HK5 := Kit.hid hk5
  clear hk5 hb5 HRW4 HRV4 HK4
  go_wp2_with fail
  (with_reducible refine (HMV.out _ HK5.out).mono ?_); rintro e w6 ⟨rfl, hk6, hr6⟩
  have HRW6 := Kit.hid (hr6 _ _ _ HRW5.out)
  have HRV6 := Kit.hid (hr6 _ _ _ HRV5.out)
  clear hr6 HRW5 HRV5 HK5 HMV
  rcases moveR_cases HWF.out id to with ⟨hne, hsame⟩ | ⟨⟨old, hmv⟩, hrun⟩
  · obtain ⟨ec, hec⟩ : ∃ ec, ec = (moveR T id to).1 := ⟨_, rfl⟩
    rw [hsame] at hk6
    rw [← hec] at hne ⊢
    have g2 : (ec != 0) = true := by simpa using hne
    have HK6 := Kit.hid hk6
    have H7 := Kit.hid (HU0.out T _ w6 hk6)
    rw [← HUE.out] at H7
    clear hk6 hsame hne hec
    go_wp2_with fail
    (with_reducible refine H7.out.mono ?_); rintro e w7 ⟨A7, c7, rfl, hr7, hk7, hb7⟩
    have HRW7 := Kit.hid (HRW6.out.below hb7)
    have H8 := Kit.hid (HSM.out _ _ _ _ _ _ _ _ _ hk7 HRW7.out hr7 (by have := HUL0.out; omega) (by have := HUL0.out; omega))
    rw [decide_eq_true rfl] at H8
    clear hr7 hk7 hb7 H7 HK6 HRW6 HRW7 HRV6
    go_wp2_with fail
    (with_reducible refine H8.out.mono ?_); rintro e w8 ⟨rfl, hk8, _⟩
    have H9 := Kit.hid (HPI.out T _ _ hk8)
    rw [← HPAE.out] at H9
    clear hk8 H8
    go_wp2_with fail
    (with_reducible refine H9.out.mono ?_); rintro e w9 ⟨rfl, hk9, _⟩
    have HK9 := Kit.hid hk9
    clear hk9 H9
    go_wp2
    go_ret
    exact ⟨by simp, HB1.out.trans (HK9.out.2.2.2.mono HB1.out.size)⟩
  · have hlaw := moved_law HWF.out hmv
    generalize ins (id, to) (del T id) = T' at hmv hrun hlaw
    obtain ⟨q1, q2, q3, q4, q5, q6, q7⟩ := hlaw
    rw [hrun] at hk6 ⊢
    rw [← HUE.out] at q1
    rw [← HPAE.out] at q2
    subst q2
    rw [← HVE.out] at q4 q5
    obtain ⟨N, hN⟩ : ∃ N, N = under T' 0 := ⟨_, rfl⟩
    have HQ1 : Hid (N.length = U.length) := Kit.hid (by rw [hN]; exact q1)
    have HQ3 := Kit.hid q3
    have HQ4 := Kit.hid q4
    have HQ5 := Kit.hid q5
    have HQ6 := Kit.hid q6
    have HQ7 := Kit.hid (HWF.out.fits q7)
    have hk6 : Kt w1 w6 p mb T' (n + 3) := hk6
    have HK6 := Kit.hid hk6
    have H7 := Kit.hid (HU0.out T' _ w6 hk6)
    rw [← hN] at H7
    clear hk6 hrun hmv q1 q3 q4 q5 q6 q7 hN
    go_wp2_with fail
    (with_reducible refine H7.out.mono ?_); rintro e w7 ⟨A7, c7, rfl, hr7, hk7, hb7⟩
    have HRW7 := Kit.hid (HRW6.out.below hb7)
    have HRV7 := Kit.hid (HRV6.out.below hb7)
    have HK7 := Kit.hid hk7
    have H8 := Kit.hid (HPI.out T' _ _ hk7)
    rw [HQ3.out] at H8
    rw [HQ1.out]
    clear hr7 hk7 hb7 H7 HK6 HRW6 HRV6
    go_wp2_with fail
    (with_reducible refine H8.out.mono ?_); rintro e w8 ⟨rfl, hk8, hb8⟩
    have HRW8 := Kit.hid (HRW7.out.below hb8)
    have HRV8 := Kit.hid (HRV7.out.below hb8)
    have H9 := Kit.hid (HUI.out T' _ _ hk8)
    rw [HQ4.out] at H9
    clear hk8 hb8 H8 HK7 HRW7 HRV7
    go_wp2_with fail
    (with_reducible refine H9.out.mono ?_); rintro e w9 ⟨A9, c9, rfl, hr9, hk9, hb9⟩
    have HRW9 := Kit.hid (HRW8.out.below hb9)
    have HRV9 := Kit.hid (HRV8.out.below hb9)
    have H10 := Kit.hid (HSM.out _ _ _ _ _ _ _ _ _ hk9 hr9 HRV9.out (by have := HVL0.out; omega) (by have := HVL0.out; omega))
    rw [decide_eq_true rfl] at H10
    clear hr9 hk9 hb9 H9 HRW8 HRV8
    go_wp2_with fail
    (with_reducible refine H10.out.mono ?_); rintro e w10 ⟨rfl, hk10, hb10⟩
    have HRW10 := Kit.hid (HRW9.out.below hb10)
    have HRV10 := Kit.hid (HRV9.out.below hb10)
    have HK10 := Kit.hid hk10
    have H11 := Kit.hid (rin_any HRV10.out to (by have := HVL0.out; omega))
    rw [decide_eq_false HQ5.out] at H11
    clear hk10 hb10 H10 HRW9 HRV9
    go_wp2_with fail
    (with_reducible refine H11.out.mono ?_); rintro e w11 ⟨rfl, hb11⟩
    have HRW11 := Kit.hid (HRW10.out.below hb11)
    have hk11 := HK10.out.below hb11
    have H12 := Kit.hid (kt_move hk11 (by have := HNL.out; omega) id PA ⟨hi1, hi2⟩ HQ7.out)
    rw [HQ6.out] at H12
    clear hk11 hb11 H11 HRW10 HRV10 HK10
    go_wp2_with fail
    (with_reducible refine H12.out.mono ?_); rintro e w12 ⟨rfl, hk12, hr12⟩
    have HRW12 := Kit.hid (hr12 _ _ _ HRW11.out)
    have H13 := Kit.hid (HU0.out T _ _ hk12)
    rw [← HUE.out] at H13
    clear hk12 hr12 H12 HRW11
    go_wp2_with fail
    (with_reducible refine H13.out.mono ?_); rintro e w13 ⟨A13, c13, rfl, hr13, hk13, hb13⟩
    have HRW13 := Kit.hid (HRW12.out.below hb13)
    have H14 := Kit.hid (HSM.out _ _ _ _ _ _ _ _ _ hk13 hr13 HRW13.out (by have := HUL0.out; omega) (by have := HUL0.out; omega))
    rw [decide_eq_true rfl] at H14
    clear hr13 hk13 hb13 H13 HRW12 HRW13
    go_wp2_with fail
    (with_reducible refine H14.out.mono ?_); rintro e w14 ⟨rfl, hk14, _⟩
    have HK14 := Kit.hid hk14
    clear hk14 H14
    go_wp2
    go_ret
    exact ⟨rfl, HB1.out.trans (HK14.out.2.2.2.mono HB1.out.size)⟩
end Go.Proofs.Ytkhoiiinifdhcaa.Ki

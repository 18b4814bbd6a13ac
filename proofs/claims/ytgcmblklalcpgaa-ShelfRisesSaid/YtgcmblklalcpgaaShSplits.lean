/- The law ShelfSplits. -/
import Derived.Test.YtgcmblklalcpgaaShR
namespace Go.Proofs.Ytgcmblklalcpgaa.ShM
theorem rank_split (x : It) : ∀ (l : List It) (k : Nat) (y : It), Rises l → l[k]? = some y → less y x = decide (k < rankL x l)
  | [], k, y, _, h => by cases h
  | z :: l, 0, y, hr, h => by
    cases h
    have h' := List.pairwise_cons.1 hr
    cases hz : less z x
    · have : rankL x (z :: l) = 0 := by
        unfold rankL
        rw [List.filter_cons_of_neg (by rw [hz]; decide), filter_none (fun a ha => by
          cases hq : less a x
          · rfl
          · have := less_trans (h'.1 a ha) hq
            rw [hz] at this; cases this)]
        rfl
      rw [this]; rfl
    · have : 0 < rankL x (z :: l) := by
        unfold rankL
        rw [List.filter_cons_of_pos (p := fun y => less y x) hz]
        simp
      rw [decide_eq_true this]
  | z :: l, k + 1, y, hr, h => by
    have h' := List.pairwise_cons.1 hr
    have ih := rank_split x l k y h'.2 h
    cases hz : less z x
    · have h0 : rankL x (z :: l) = 0 := by
        unfold rankL
        rw [List.filter_cons_of_neg (by rw [hz]; decide), filter_none (fun a ha => by
          cases hq : less a x
          · rfl
          · have := less_trans (h'.1 a ha) hq
            rw [hz] at this; cases this)]
        rfl
      have hy : less y x = false := by
        cases hq : less y x
        · rfl
        · have hm : y ∈ l := List.mem_of_getElem? h
          have := less_trans (h'.1 y hm) hq
          rw [hz] at this; cases this
      rw [h0, hy]; rfl
    · have h1 : rankL x (z :: l) = rankL x l + 1 := by
        unfold rankL
        rw [List.filter_cons_of_pos (p := fun y => less y x) hz]
        rfl
      rw [ih, h1]
      exact decide_eq_decide.2 (by omega)
theorem rank_le (x : It) (l : List It) : rankL x l ≤ l.length := List.length_filter_le _ _
end Go.Proofs.Ytgcmblklalcpgaa.ShM
namespace Go.Proofs.Ytgcmblklalcpgaa.Sh
open Go.RowKit Go.Proofs.Ytgcmblklalcpgaa.Kit Go.Proofs.Ytgcmblklalcpgaa.ShM
set_option linter.unusedVariables false
set_option linter.unusedSimpArgs false
set_option maxHeartbeats 1600000 in
theorem splitsLaw_any (A : Option Addr) (ops : List OpM) (cap : Nat) (x : It) (w : World) (hr : Hid (OpRow w A ops)) (hl : ops.length ≤ 9223372036854775807) :
    Calls Try.prog 3 #[.slice A ops.length cap, .agg #[.int .i64 x.key, .int .i64 x.id]] w fun e w' => e = .returned (.bool true) ∧ Below w.heap.size w w' := by
  obtain ⟨wb, hwb⟩ : ∃ wb, wb = w.alloc (.cells #[.int .i64 x.key, .int .i64 x.id] 24) := ⟨_, rfl⟩
  obtain ⟨xb, hxb⟩ : ∃ xb, xb = w.heap.size := ⟨_, rfl⟩
  have HBB : Hid (Below w.heap.size w wb) := Kit.hid (by rw [hwb]; exact (Below.refl _ _).alloc (Nat.le_refl _) _)
  have HXB : Hid (wb.heap[xb]? = some (.cells #[.int .i64 x.key, .int .i64 x.id] 24 (0, 0))) := Kit.hid (by rw [hwb, hxb]; exact blk_new _ _)
  have HWB := Kit.hid hwb
  have HXN := Kit.hid hxb
  have HAW := Kit.hid (awake_any wb)
  have hrb := oprow_below hr HBB.out
  clear hwb hxb
  by_cases hbig : 100 < ops.length
  · have g1 : (100 : Int) < (ops.length : Int) := by omega
    clear hbig
    go_enter Try.func3, Try.ntmps3
    go_wp2_with fail
    rw [← HWB.out, ← HXN.out]
    (with_reducible refine HAW.out.mono ?_); rintro e w1 ⟨rfl, hd1⟩
    have H1 := Kit.hid (HBB.out.trans (hd1.mono HBB.out.size))
    clear hd1
    go_wp2
    go_ret
    exact ⟨rfl, H1.out⟩
  have g1 : ¬ (100 : Int) < (ops.length : Int) := by omega
  have HWK : Hid (∀ w', Hid (OpRow w' A ops) → Calls Try.prog 11 #[.slice A ops.length cap] w' (WalkedPost w' (fun _ => False) w' (walkedL ops) (ops.length + 1))) := Kit.hid (fun w' h => walked_any A ops cap w' h (by omega))
  obtain ⟨l, hl'⟩ : ∃ l, l = walkedL ops := ⟨_, rfl⟩
  rw [← hl'] at HWK
  clear hl' hbig hl
  unfold WalkedPost at HWK
  have hops : ops.length ≤ 100 := by omega
  go_enter Try.func3, Try.ntmps3
  go_wp2_with fail
  rw [← HWB.out, ← HXN.out]
  (with_reducible refine HAW.out.mono ?_); rintro e w1 ⟨rfl, hd1⟩
  have hr1 := oprow_below hrb hd1
  have HX1 := Kit.hid (blk_below HXB.out hd1)
  have H1 := Kit.hid (HBB.out.trans (hd1.mono HBB.out.size))
  clear hd1 hrb
  go_wp2_with fail
  (with_reducible refine (HWK.out _ hr1).mono ?_); rintro e w2 ⟨g, rfl, hg, hi⟩
  have hb2 := hi.kept.toBelow (fun k h => h.elim)
  have HX2 := Kit.hid (blk_below HX1.out hb2)
  have x0 := blk_cell HX2.out 0
  have x1 := blk_cell HX2.out 1
  have HLEN := Kit.hid hi.length
  have HRS := Kit.hid hi.rises
  have HRK : Hid (∀ w', Items w1 (fun _ => False) w' g l (ops.length + 1) → Calls Try.prog 12 #[.pointer (some ⟨g, 0, none⟩), .agg #[.int .i64 x.key, .int .i64 x.id]] w' fun e w'' => e = .returned (.int .i64 (rankL x l : Int)) ∧ Below w'.heap.size w' w'') := Kit.hid (fun w' h => items_rank x h (by omega))
  have HLN : Hid (∀ w', Items w1 (fun _ => False) w' g l (ops.length + 1) → Calls Try.prog 13 #[.pointer (some ⟨g, 0, none⟩)] w' fun e w'' => e = .returned (.int .i64 (l.length : Int)) ∧ ∃ m, w'' = w'.drewN m) := Kit.hid (fun w' h => items_len h)
  have HAT : Hid (∀ i y w', Items w1 (fun _ => False) w' g l (ops.length + 1) → l[i]? = some y → Calls Try.prog 14 #[.pointer (some ⟨g, 0, none⟩), .int .i64 ((i : Nat) : Int)] w' (AtPost w' y true)) := Kit.hid (fun i y w' h hy => items_at i y h (by omega) hy)
  have HLS : Hid (∀ (y : It) w', Calls Try.prog 15 #[.agg #[.int .i64 y.key, .int .i64 y.id], .agg #[.int .i64 x.key, .int .i64 x.id]] w' fun e w'' => e = .returned (.bool (less y x)) ∧ Below w'.heap.size w' w'') := Kit.hid (fun y w' => rless_any y x w')
  unfold AtPost at HAT
  have hrk := rank_le x l
  obtain ⟨rk, hrk2⟩ : ∃ rk, rk = rankL x l := ⟨_, rfl⟩
  rw [← hrk2] at HRK hrk
  have HRK2 := Kit.hid hrk2
  have HI2 := Kit.hid hi
  have hll : l.length ≤ 101 := by have := HLEN.out; omega
  have g2 : decide ((rk : Int) < 0) = false := decide_eq_false (by omega)
  have g3 : decide (l.length < rk) = false := decide_eq_false (by omega)
  have hxl := blk_lt HX2.out
  clear hi hb2 hrk2
  go_wp2_with fail
  (with_reducible refine (HRK.out _ HI2.out).mono ?_); rintro e w3 ⟨rfl, hb3⟩
  have HI3 := Kit.hid (HI2.out.below hb3)
  have HX3 := Kit.hid (blk_below HX2.out hb3)
  clear hb3 x0 x1
  go_wp2_with fail
  (with_reducible refine (HLN.out _ HI3.out).mono ?_); rintro e w4 ⟨rfl, m4, rfl⟩
  have HI4 := Kit.hid (HI3.out.below (below_drewN (Below.refl _ _) m4))
  have HX4 := Kit.hid (blk_drewN HX3.out m4)
  go_wp2_with fail
  go_loopw [8] (fun v8 wr => ∃ k : Nat, k ≤ l.length ∧ v8 = .int .i64 k ∧ Hid (Items w1 (fun _ => False) wr g l (ops.length + 1)) ∧ Hid (wr.heap[xb]? = some (.cells #[.int .i64 x.key, .int .i64 x.id] 24 (0, 0)))) (fun k _ => l.length - (intOf k).toNat)
  case atStart => exact ⟨0, by omega, rfl, HI4, HX4⟩
  case round =>
    obtain ⟨k, hk, rfl, hI, hX⟩ := hrel
    by_cases hlt : k < l.length
    · obtain ⟨y, hy⟩ : ∃ y, l[k]? = some y := ⟨_, List.getElem?_eq_getElem hlt⟩
      have HY := Kit.hid hy
      have HSP : Hid (less y x = decide (k < rk)) := Kit.hid (by rw [HRK2.out]; exact rank_split x l k y HRS.out hy)
      clear hy
      go_wp2_with fail
      (with_reducible refine (HLN.out _ hI.out).mono ?_); rintro e w5 ⟨rfl, m5, rfl⟩
      have HI5 := Kit.hid (hI.out.below (below_drewN (Below.refl _ _) m5))
      have HX5 := Kit.hid (blk_drewN hX.out m5)
      go_wp2_with fail
      (with_reducible refine (HAT.out k y _ HI5.out HY.out).mono ?_); rintro e w6 ⟨rfl, hb6⟩
      have HI6 := Kit.hid ((HI5.out.below hb6).below ((Below.refl _ _).alloc (Nat.le_refl _) (.cells #[.int .i64 y.key, .int .i64 y.id] 24)))
      have hx6 := blk_below HX5.out hb6
      have HX6 := Kit.hid (blk_alloc hx6 (.cells #[.int .i64 y.key, .int .i64 y.id] 24))
      have x0 := blk_cell hx6 0
      have x1 := blk_cell hx6 1
      have hxl6 := blk_lt hx6
      clear hb6 hx6
      go_wp2_with fail
      (with_reducible refine (HLS.out y _).mono ?_); rintro e w7 ⟨rfl, hb7⟩
      have HI7 := Kit.hid (HI6.out.below hb7)
      have HX7 := Kit.hid (blk_below HX6.out hb7)
      clear hb7 x0 x1
      rw [HSP.out]
      go_wp2
      go_roundw
      case rel => exact ⟨k + 1, by omega, by go_num, HI7, HX7⟩
      case measure => simp [intOf]; omega
    · obtain rfl : k = l.length := by omega
      have HB9 : Hid (Below w.heap.size w wr) := Kit.hid (H1.out.trans ((hI.out.kept.toBelow (fun k h => h.elim)).mono H1.out.size))
      go_wp2_with fail
      (with_reducible refine (HLN.out _ hI.out).mono ?_); rintro e w5 ⟨rfl, m5, rfl⟩
      have HB10 := Kit.hid (below_drewN HB9.out m5)
      go_wp2
      go_ret
      exact ⟨rfl, HB10.out⟩
end Go.Proofs.Ytgcmblklalcpgaa.Sh

/- The law ShelfFlat. -/
import Derived.Test.YtgcmblklalcpgaaShR
namespace Go.Proofs.Ytgcmblklalcpgaa.ShM
/-- How many binary digits a number has. -/
def digN (n : Nat) : Nat := if n = 0 then 0 else digN (n / 2) + 1
termination_by n
decreasing_by omega
theorem digN_zero : digN 0 = 0 := by rw [digN]; rfl
theorem digN_step {n : Nat} (h : 0 < n) : digN n = digN (n / 2) + 1 := by rw [digN, if_neg (by omega)]
theorem digN_bd (n : Nat) : n < 2 ^ digN n ∧ (0 < n → 2 ^ digN n ≤ 2 * n) := by
  induction n using Nat.strongRecOn with
  | _ n ih =>
    by_cases h : n = 0
    · subst h; rw [digN_zero]; exact ⟨by decide, fun h => by omega⟩
    · obtain ⟨h1, h2⟩ := ih (n / 2) (by omega)
      rw [digN_step (by omega), Nat.pow_succ]
      refine ⟨by omega, fun _ => ?_⟩
      by_cases h3 : 0 < n / 2
      · have := h2 h3; omega
      · have h4 : n / 2 = 0 := by omega
        rw [h4, digN_zero]; omega
theorem digN_le (n : Nat) : digN n ≤ n := by
  induction n using Nat.strongRecOn with
  | _ n ih =>
    by_cases h : n = 0
    · subst h; rw [digN_zero]; exact Nat.le_refl _
    · have := ih (n / 2) (by omega)
      rw [digN_step (by omega)]; omega
theorem pow_le_inj {a b : Nat} (h : 2 ^ a ≤ 2 ^ b) : a ≤ b := (Nat.pow_le_pow_iff_right (by decide)).1 h
theorem deep_digits {d m : Nat} (h1 : 2 ^ ((d + 1) / 2) ≤ m + 1) (h2 : m + 1 ≤ 2 ^ d) : d ≤ 2 * digN m ∧ digN m ≤ d ∧ (d = 0 ↔ m = 0) := by
  obtain ⟨b1, b2⟩ := digN_bd m
  have c1 := pow_le_inj (Nat.le_trans h1 b1)
  refine ⟨by omega, ?_, ?_⟩
  · by_cases hm : m = 0
    · subst hm; rw [digN_zero]; omega
    · have e := b2 (by omega)
      have : 2 ^ digN m < 2 ^ (d + 1) := by rw [Nat.pow_succ]; omega
      have := (Nat.pow_lt_pow_iff_right (by decide : 1 < 2)).1 this
      omega
  · constructor
    · intro h; subst h; simp at h2; omega
    · intro h; subst h
      rw [digN_zero] at c1; omega
end Go.Proofs.Ytgcmblklalcpgaa.ShM
namespace Go.Proofs.Ytgcmblklalcpgaa.Sh
open Go.RowKit Go.Proofs.Ytgcmblklalcpgaa.Kit Go.Proofs.Ytgcmblklalcpgaa.ShM
set_option linter.unusedVariables false
set_option linter.unusedSimpArgs false
theorem digits_any (n : Nat) (w : World) (hn : n ≤ 1099511627776) :
    Calls Try.prog 19 #[.int .i64 (n : Int)] w fun e w' => e = .returned (.int .i64 (digN n : Int)) ∧ w = w' := by
  have hd := digN_le n
  go_enter Try.func19, Try.ntmps19
  go_wp2
  go_loop [0, 3] (fun v0 v3 => ∃ m k : Nat, m ≤ 1099511627776 ∧ v0 = .int .i64 m ∧ v3 = .int .i64 k ∧ Hid (k + digN m = digN n) ∧ k ≤ 1099511627776) (fun v _ => (intOf v).toNat)
  case atStart => exact ⟨n, 0, hn, rfl, rfl, Kit.hid (by omega), by omega⟩
  case round =>
    obtain ⟨m, k, hm, rfl, rfl, hs, hk⟩ := hrel
    by_cases h0 : 0 < m
    · have h1 : (0 : Int) < (m : Int) := by omega
      have HS : Hid (k + 1 + digN (m / 2) = digN n) := Kit.hid (by have := hs.out; rw [digN_step h0] at this; omega)
      go_wp2
      go_round
      case rel => exact ⟨m / 2, k + 1, by omega, by go_num, by go_num, HS, by have := HS.out; omega⟩
      case measure => simp [intOf]; omega
    · obtain rfl : m = 0 := by omega
      have HS : Hid (k = digN n) := Kit.hid (by have := hs.out; rw [digN_zero] at this; omega)
      go_wp2
      go_ret
      exact ⟨by rw [← HS.out]; rfl, rfl⟩
theorem flat_step {l : List It} {i : Nat} {k : Int} (hl : l.length = i) (hk : ∀ y ∈ l, y.key.natAbs < i) (hi : k.natAbs = i) : (⟨k, 0⟩ : It) ∉ l ∧ (putL ⟨k, 0⟩ l).length = i + 1 ∧ ∀ y ∈ putL ⟨k, 0⟩ l, y.key.natAbs < i + 1 := by
  have hn : (⟨k, 0⟩ : It) ∉ l := fun h => by have : k.natAbs < i := hk _ h; omega
  refine ⟨hn, ?_, fun y hy => ?_⟩
  · rw [putL, if_neg hn, insL_length, hl]
  · rw [putL, if_neg hn, insL_mem] at hy
    rcases hy with rfl | hy
    · show k.natAbs < i + 1; omega
    · have := hk y hy; omega
set_option maxHeartbeats 3200000 in
theorem flatLaw_any (A : Option Addr) (ops : List OpM) (cap : Nat) (a : Int) (up : Bool) (w : World) (hr : Hid (OpRow w A ops)) (hl : ops.length ≤ 9223372036854775807) (ha0 : 0 ≤ a) (ha1 : a ≤ 65535) :
    Calls Try.prog 4 #[.slice A ops.length cap, .int .u16 a, .bool up] w fun e w' => e = .returned (.bool true) ∧ Below w.heap.size w w' := by
  have HAW := Kit.hid (awake_any w)
  by_cases hbig : 100 < ops.length
  · have g1 : (100 : Int) < (ops.length : Int) := by omega
    clear hbig
    go_enter Try.func4, Try.ntmps4
    go_wp2_with fail
    (with_reducible refine HAW.out.mono ?_); rintro e w1 ⟨rfl, hd1⟩
    have H1 := Kit.hid hd1
    clear hd1
    go_wp2
    go_ret
    exact ⟨rfl, H1.out⟩
  have g1 : ¬ (100 : Int) < (ops.length : Int) := by omega
  have HWK : Hid (∀ w', Hid (OpRow w' A ops) → Calls Try.prog 11 #[.slice A ops.length cap] w' (WalkedPost w' (fun _ => False) w' (walkedL ops) (ops.length + 1))) := Kit.hid (fun w' h => walked_any A ops cap w' h (by omega))
  obtain ⟨l, hl'⟩ : ∃ l, l = walkedL ops := ⟨_, rfl⟩
  rw [← hl'] at HWK
  clear hl' hbig hl
  unfold WalkedPost at HWK
  have hops : ops.length ≤ 100 := by omega
  obtain ⟨n, hn⟩ := Int.eq_ofNat_of_zero_le (Int.emod_nonneg a (b := 301) (by omega))
  have hn3 : n ≤ 300 := by
    have := Int.emod_lt_of_pos a (b := 301) (by omega)
    omega
  have HDG : Hid (∀ (m : Nat) w', m ≤ 1099511627776 → Calls Try.prog 19 #[.int .i64 (m : Int)] w' fun e w'' => e = .returned (.int .i64 (digN m : Int)) ∧ w' = w'') := Kit.hid (fun m w' h => digits_any m w' h)
  go_enter Try.func4, Try.ntmps4
  go_wp2_with fail
  (with_reducible refine HAW.out.mono ?_); rintro e w1 ⟨rfl, hd1⟩
  have hr1 := oprow_below hr hd1
  have H1 := Kit.hid hd1
  clear hd1 hr
  go_wp2_with fail
  (with_reducible refine (HWK.out _ hr1).mono ?_); rintro e w2 ⟨gs, rfl, hgs, hi⟩
  have HS2 := Kit.hid hi
  have HLEN := Kit.hid hi.length
  have HN := Kit.hid (items_new (Kept.refl (fun _ => False) w2))
  clear hi
  go_wp2_with fail
  (with_reducible refine HN.out.mono ?_); rintro e w3 ⟨gt, rfl, hgt, hi, hb⟩
  have HT3 := Kit.hid hi
  clear hi hb HN
  have HPT : Hid (∀ (k : Int) lt m w', Items w2 (fun _ => False) w' gt lt m → m ≤ 1000 → (⟨k, 0⟩ : It) ∉ lt → Calls Try.prog 17 #[.pointer (some ⟨gt, 0, none⟩), .agg #[.int .i64 k, .int .i64 0]] w' fun e w'' => e = .returned (.bool true) ∧ Items w2 (fun _ => False) w'' gt (putL ⟨k, 0⟩ lt) (m + 1)) := Kit.hid (fun k lt m w' h hm hk => by
    have := items_put ⟨k, 0⟩ h (by omega)
    rw [decide_eq_true hk] at this
    exact this)
  have HDP : Hid (∀ lt m w' (q : Nat), Items w2 (fun _ => False) w' gt lt m → lt.length = q → Calls Try.prog 18 #[.pointer (some ⟨gt, 0, none⟩)] w' fun e w'' => ∃ d : Nat, e = .returned (.int .i64 (d : Int)) ∧ d ≤ 2 * digN q ∧ digN q ≤ d ∧ (0 < q → 0 < d) ∧ ∃ m, w'' = w'.drewN m) := Kit.hid (fun lt m w' q h hq => by
    refine (items_deep h).mono ?_
    rintro e w'' ⟨d, h1, h2, h3, h4⟩
    rw [hq] at h2 h3
    obtain ⟨b1, b2, b3⟩ := deep_digits h2 h3
    exact ⟨d, h1, b1, b2, fun h => by omega, h4⟩)
  have HLT : Hid (∀ lt m w' (q : Nat), Items w2 (fun _ => False) w' gt lt m → lt.length = q → Calls Try.prog 13 #[.pointer (some ⟨gt, 0, none⟩)] w' fun e w'' => e = .returned (.int .i64 (q : Int)) ∧ ∃ m, w'' = w'.drewN m) := Kit.hid (fun lt m w' q h hq => by rw [← hq]; exact items_len h)
  have HLS : Hid (∀ w', Below w2.heap.size w2 w' → Calls Try.prog 13 #[.pointer (some ⟨gs, 0, none⟩)] w' fun e w'' => e = .returned (.int .i64 (l.length : Int)) ∧ ∃ m, w'' = w'.drewN m) := Kit.hid (fun w' h => items_len (HS2.out.below h))
  have HDS : Hid (∀ w', Below w2.heap.size w2 w' → Calls Try.prog 18 #[.pointer (some ⟨gs, 0, none⟩)] w' fun e w'' => ∃ d : Nat, e = .returned (.int .i64 (d : Int)) ∧ d ≤ 2 * digN l.length ∧ digN l.length ≤ d ∧ (d = 0 ↔ l.length = 0) ∧ ∃ m, w'' = w'.drewN m) := Kit.hid (fun w' h => by
    refine (items_deep (HS2.out.below h)).mono ?_
    rintro e w'' ⟨d, h1, h2, h3, h4⟩
    obtain ⟨b1, b2, b3⟩ := deep_digits h2 h3
    exact ⟨d, h1, b1, b2, b3, h4⟩)
  have hll : l.length ≤ 101 := by have := HLEN.out; omega
  obtain ⟨ll, hlle⟩ : ∃ ll, ll = l.length := ⟨_, rfl⟩
  rw [← hlle] at HLS HDS hll
  have hdl := digN_le ll
  go_wp2_with fail
  rw [hn]
  clear hn hlle HLEN
  go_loopw [11] (fun v11 wr => ∃ (i : Nat) (lt : List It), i ≤ n ∧ v11 = .int .i64 i ∧ Hid (lt.length = i) ∧ Hid (∀ y ∈ lt, y.key.natAbs < i) ∧ Hid (Items w2 (fun _ => False) wr gt lt (i + 1))) (fun i _ => n - (intOf i).toNat)
  case atStart => exact ⟨0, [], by omega, rfl, Kit.hid rfl, Kit.hid (fun y hy => by cases hy), HT3⟩
  case round =>
    obtain ⟨i, lt, hi, rfl, HL, HK, hI⟩ := hrel
    by_cases hlt : i < n
    · have common : ∀ k : Int, k.natAbs = i → Hid ((⟨k, 0⟩ : It) ∉ lt ∧ (putL ⟨k, 0⟩ lt).length = i + 1 ∧ ∀ y ∈ putL ⟨k, 0⟩ lt, y.key.natAbs < i + 1) := fun k hk => Kit.hid (flat_step HL.out HK.out hk)
      have HDI := Kit.hid (HDG.out (i + 1))
      have hdi := digN_le (i + 1)
      obtain ⟨dg, hdg⟩ : ∃ dg, dg = digN (i + 1) := ⟨_, rfl⟩
      have HDPI : Hid (∀ lt m w', Items w2 (fun _ => False) w' gt lt m → lt.length = i + 1 → Calls Try.prog 18 #[.pointer (some ⟨gt, 0, none⟩)] w' fun e w'' => ∃ d : Nat, e = .returned (.int .i64 (d : Int)) ∧ d ≤ 2 * dg ∧ dg ≤ d ∧ 0 < d ∧ ∃ m, w'' = w'.drewN m) := Kit.hid (fun lt m w' h hq => by
        refine (HDP.out lt m w' (i + 1) h hq).mono ?_
        rintro e w'' ⟨d, h1, h2, h3, h4, h5⟩
        rw [← hdg] at h2 h3
        exact ⟨d, h1, h2, h3, h4 (by omega), h5⟩)
      have HDI2 : Hid (∀ w', Calls Try.prog 19 #[.int .i64 ((i : Int) + 1)] w' fun e w'' => e = .returned (.int .i64 (dg : Int)) ∧ w' = w'') := Kit.hid (fun w' => by
        have := HDG.out (i + 1) w' (by omega)
        rw [← hdg] at this
        exact this)
      rw [← hdg] at hdi
      clear hdg
      cases up
      · have HC := common (-(i : Int)) (by omega)
        clear common
        go_wp2_with fail
        (with_reducible refine (HPT.out _ lt _ _ hI.out (by omega) HC.out.1).mono ?_); rintro e w4 ⟨rfl, hi4⟩
        have HI4 := Kit.hid hi4
        clear hi4
        go_wp2_with fail
        (with_reducible refine (HDPI.out _ _ _ HI4.out HC.out.2.1).mono ?_); rintro e w5 ⟨d1, rfl, hd1, _, _, m5, rfl⟩
        have HI5 := Kit.hid (HI4.out.below (below_drewN (Below.refl _ _) m5))
        go_wp2_with fail
        (with_reducible refine (HDI2.out _).mono ?_); rintro e w6 ⟨rfl, rfl⟩
        have g5 : decide (2 * (dg : Int) < (d1 : Int)) = false := decide_eq_false (by omega)
        go_wp2_with fail
        (with_reducible refine (HDPI.out _ _ _ HI5.out HC.out.2.1).mono ?_); rintro e w7 ⟨d2, rfl, _, _, hd2, m7, rfl⟩
        have HI7 := Kit.hid (HI5.out.below (below_drewN (Below.refl _ _) m7))
        have g6 : decide ((d2 : Int) < 1) = false := decide_eq_false (by omega)
        have g7 : ¬ d2 = 0 := by omega
        go_wp2
        go_roundw
        case rel => exact ⟨i + 1, _, by omega, by go_num, Kit.hid HC.out.2.1, Kit.hid HC.out.2.2, Kit.hid (HI4.out.below (below_drewN (Below.refl _ _) _))⟩
        case measure => simp [intOf]; omega
      · have HC := common (i : Int) (by omega)
        clear common
        go_wp2_with fail
        (with_reducible refine (HPT.out _ lt _ _ hI.out (by omega) HC.out.1).mono ?_); rintro e w4 ⟨rfl, hi4⟩
        have HI4 := Kit.hid hi4
        clear hi4
        go_wp2_with fail
        (with_reducible refine (HDPI.out _ _ _ HI4.out HC.out.2.1).mono ?_); rintro e w5 ⟨d1, rfl, hd1, _, _, m5, rfl⟩
        have HI5 := Kit.hid (HI4.out.below (below_drewN (Below.refl _ _) m5))
        go_wp2_with fail
        (with_reducible refine (HDI2.out _).mono ?_); rintro e w6 ⟨rfl, rfl⟩
        have g5 : decide (2 * (dg : Int) < (d1 : Int)) = false := decide_eq_false (by omega)
        go_wp2_with fail
        (with_reducible refine (HDPI.out _ _ _ HI5.out HC.out.2.1).mono ?_); rintro e w7 ⟨d2, rfl, _, _, hd2, m7, rfl⟩
        have HI7 := Kit.hid (HI5.out.below (below_drewN (Below.refl _ _) m7))
        have g6 : decide ((d2 : Int) < 1) = false := decide_eq_false (by omega)
        have g7 : ¬ d2 = 0 := by omega
        go_wp2
        go_roundw
        case rel => exact ⟨i + 1, _, by omega, by go_num, Kit.hid HC.out.2.1, Kit.hid HC.out.2.2, Kit.hid (HI4.out.below (below_drewN (Below.refl _ _) _))⟩
        case measure => simp [intOf]; omega
    · obtain rfl : i = n := by omega
      have HB0 := Kit.hid (hI.out.kept.toBelow (fun k h => h.elim))
      have HDL : Hid (∀ w', Calls Try.prog 19 #[.int .i64 (ll : Int)] w' fun e w'' => e = .returned (.int .i64 (digN ll : Int)) ∧ w' = w'') := Kit.hid (fun w' => HDG.out ll w' (by omega))
      obtain ⟨dl, hdl2⟩ : ∃ dl, dl = digN ll := ⟨_, rfl⟩
      rw [← hdl2] at HDL HDS hdl
      clear hdl2
      go_wp2_with fail
      (with_reducible refine (HLS.out _ HB0.out).mono ?_); rintro e w4 ⟨rfl, m4, rfl⟩
      have HI4 := Kit.hid (hI.out.below (below_drewN (Below.refl _ _) m4))
      go_wp2_with fail
      (with_reducible refine (HLT.out lt _ _ _ HI4.out HL.out).mono ?_); rintro e w5 ⟨rfl, m5, rfl⟩
      go_wp2_with fail
      (with_reducible refine (HDS.out _ (below_drewN HB0.out _)).mono ?_); rintro e w6 ⟨d6, rfl, h6, _, _, m6, rfl⟩
      go_wp2_with fail
      (with_reducible refine (HDL.out _).mono ?_); rintro e w7 ⟨rfl, rfl⟩
      have g6 : decide ((d6 : Int) ≤ 2 * (dl : Int)) = true := decide_eq_true (by omega)
      go_wp2_with fail
      (with_reducible refine (HDS.out _ (below_drewN HB0.out _)).mono ?_); rintro e w8 ⟨d8, rfl, _, h8, _, m8, rfl⟩
      go_wp2_with fail
      (with_reducible refine (HDL.out _).mono ?_); rintro e w9 ⟨rfl, rfl⟩
      have g8 : decide (dl ≤ d8) = true := decide_eq_true h8
      go_wp2_with fail
      (with_reducible refine (HDS.out _ (below_drewN HB0.out _)).mono ?_); rintro e w10 ⟨d10, rfl, _, _, h10, m10, rfl⟩
      have H10 : Hid (((d10 : Int) == 0) = ((ll : Int) == 0)) := Kit.hid (by
        rw [Bool.eq_iff_iff, beq_iff_eq, beq_iff_eq]; omega)
      have HB1 : Hid (Below w.heap.size w _) := Kit.hid (H1.out.trans (((HS2.out.kept.toBelow (fun k h => h.elim)).mono (Nat.le_refl _)).trans (HB0.out.mono HS2.out.kept.size) |>.mono H1.out.size))
      clear h6 h8 h10
      go_wp2
      go_ret
      exact ⟨by show Ending.returned (.bool _) = _; rw [H10.out]; simp, below_drewN HB1.out _⟩
end Go.Proofs.Ytgcmblklalcpgaa.Sh

/- The law KinDeep. -/
import Derived.Test.YtkhoiiinifdhcaaKiO
namespace Go.Proofs.Ytkhoiiinifdhcaa.KiM
/-- Groups one below the other, and others below 100. -/
def chainK (n : Nat) : Tr := (List.range n).map fun (i : Nat) => (((i : Int) + 1), (i : Int))
def upK (i : Nat) : Int := if i = 0 then 0 else 100 + (i : Int) - 1
def othersK (i : Nat) : Tr := (List.range i).map fun (j : Nat) => ((100 + (j : Int)), upK j)
def codeK (i : Nat) : Int := if i ≤ 16 then 0 else if i = 17 then 10 else 8
set_option maxRecDepth 100000 in
theorem chain_add : ∀ i : Nat, i < 19 → addR (chainK (min i 16)) ((i : Int) + 1) (i : Int) = (codeK (i + 1), chainK (min (i + 1) 16)) := by decide +kernel
set_option maxRecDepth 100000 in
theorem others_add : ∀ m : Nat, m < 17 → ∀ i : Nat, i < 8 → addR (chainK m ++ othersK i) (100 + (i : Int)) (upK i) = (0, chainK m ++ othersK (i + 1)) := by decide +kernel
set_option maxRecDepth 100000 in
theorem deep_tall : ∀ m : Nat, m < 17 → ∀ h : Nat, h < 8 → tall (chainK m ++ othersK (h + 1)) 100 = (h : Int) := by decide +kernel
set_option maxRecDepth 100000 in
theorem deep_move : ∀ m : Nat, m < 17 → ∀ h : Nat, h < 8 → ∀ to : Nat, to < m + 1 → (moveR (chainK m ++ othersK (h + 1)) 100 (to : Int)).1 = if to + 1 + h ≤ 16 then 0 else 10 := by decide +kernel
end Go.Proofs.Ytkhoiiinifdhcaa.KiM
namespace Go.Proofs.Ytkhoiiinifdhcaa.KiM
theorem deep_wf : ∀ i m : Nat, m < 17 → i ≤ 8 → WF (chainK m ++ othersK i) := by
  have h0 : ∀ m : Nat, m < 17 → WF (chainK m) := by
    intro m
    induction m with
    | zero => exact fun _ => WF.nil
    | succ m ih =>
      intro hm
      have h := (ih (by omega)).addR ((m : Int) + 1) (m : Int)
      have e := chain_add m (by omega)
      rw [Nat.min_eq_left (by omega : m ≤ 16), Nat.min_eq_left (by omega : m + 1 ≤ 16)] at e
      rw [e] at h
      exact h
  intro i m hm
  induction i with
  | zero => intro _; simpa [othersK] using h0 m hm
  | succ i ih =>
    intro hi
    have h := (ih (by omega)).addR (100 + (i : Int)) (upK i)
    rw [others_add m hm i (by omega)] at h
    exact h
end Go.Proofs.Ytkhoiiinifdhcaa.KiM
namespace Go.Proofs.Ytkhoiiinifdhcaa.Ki
open Go.RowKit Go.Proofs.Ytkhoiiinifdhcaa.Kit Go.Proofs.Ytkhoiiinifdhcaa.KiM
set_option linter.unusedVariables false
set_option linter.unusedSimpArgs false
set_option maxRecDepth 8000 in
set_option maxHeartbeats 3200000 in
theorem deepLaw_any (many tl at_ : Int) (w : World) (h1 : 0 ≤ many) (h2 : many ≤ 255) (h3 : 0 ≤ tl) (h4 : tl ≤ 255) (h5 : 0 ≤ at_) (h6 : at_ ≤ 255) :
    Calls Try.prog 3 #[.int .u8 many, .int .u8 tl, .int .u8 at_] w fun e w' => e = .returned (.bool true) ∧ Below w.heap.size w w' := by
  have HAW := Kit.hid awake_any
  have HN := Kit.hid Kt.new
  have HA := Kit.hid (fun (w w' : World) (p mb n : Nat) (T : Tr) (h : Kt w w' p mb T n) (hn : n ≤ 4000) (id to : Int) (hi : -9223372036854775808 ≤ id ∧ id ≤ 9223372036854775807) (ht : -9223372036854775808 ≤ to ∧ to ≤ 9223372036854775807) => kt_add h hn id to hi ht)
  obtain ⟨n0, hn0⟩ : ∃ n0 : Nat, n0 = many.toNat % 20 := ⟨_, rfl⟩
  have hm20 : Int.tmod many 20 = (n0 : Int) := by rw [hn0, Int.tmod_eq_emod_of_nonneg h1]; omega
  have hn20 : n0 < 20 := by omega
  obtain ⟨t0, ht0⟩ : ∃ t0 : Nat, t0 = tl.toNat % 8 := ⟨_, rfl⟩
  have hm8 : Int.tmod tl 8 = (t0 : Int) := by rw [ht0, Int.tmod_eq_emod_of_nonneg h3]; omega
  have ht8 : t0 < 8 := by omega
  obtain ⟨m0, hm0⟩ : ∃ m0 : Nat, m0 = min n0 16 := ⟨_, rfl⟩
  have hmin : min (n0 : Int) 16 = (m0 : Int) := by omega
  have hm17 : m0 < 17 := by omega
  obtain ⟨a0, ha0⟩ : ∃ a0 : Nat, a0 = at_.toNat % (m0 + 1) := ⟨_, rfl⟩
  have hma : Int.tmod at_ ((m0 : Int) + 1) = (a0 : Int) := by
    rw [ha0, Int.tmod_eq_emod_of_nonneg h5]
    have : at_ = ((at_.toNat : Nat) : Int) := by omega
    rw [this]; rfl
  have ha1 : a0 < m0 + 1 := by rw [ha0]; exact Nat.mod_lt _ (by omega)
  have HM0 := Kit.hid hm0
  clear hn0 ht0 hm0 ha0
  go_enter Try.func3, Try.ntmps3
  go_wp2_with fail
  (with_reducible refine (HAW.out w).mono ?_); rintro e w1 ⟨rfl, hd1⟩
  have HB1 := Kit.hid hd1
  clear hd1 HAW
  go_wp2_with fail
  (with_reducible refine (HN.out w1).mono ?_); rintro e w2 ⟨p, mb, rfl, hk⟩
  have HK2 := Kit.hid hk
  clear hk HN
  go_wp2_with fail
  go_loopw [10] (fun v10 wr => ∃ i : Nat, i ≤ n0 ∧ v10 = .int .i64 ((i : Int) + 1) ∧ Hid (Kt w1 wr p mb (chainK (min i 16)) (2 * i + 1))) (fun v _ => n0 + 1 - (intOf v).toNat)
  case atStart => exact ⟨0, by omega, rfl, HK2⟩
  case round =>
    obtain ⟨i, hi, rfl, HK⟩ := hrel
    by_cases hlt : i < n0
    · have HAD := Kit.hid (HA.out _ _ _ _ _ _ HK.out (by omega) ((i : Int) + 1) (i : Int) (by omega) (by omega))
      rw [chain_add i (by omega)] at HAD
      have hle : (i : Int) + 1 ≤ (n0 : Int) := by omega
      go_wp2_with fail
      (with_reducible refine HAD.out.mono ?_); rintro e w3 ⟨rfl, hk3, _⟩
      have HK3 : Hid (Kt w1 w3 p mb (chainK (min (i + 1) 16)) (2 * (i + 1) + 1)) := Kit.hid hk3
      have HRL : Hid (∃ i2 : Nat, i2 ≤ n0 ∧ Value.int .i64 ((i : Int) + 1 + 1) = .int .i64 ((i2 : Int) + 1) ∧ Hid (Kt w1 w3 p mb (chainK (min i2 16)) (2 * i2 + 1))) := Kit.hid ⟨i + 1, by omega, by rw [show ((i + 1 : Nat) : Int) = (i : Int) + 1 from rfl], HK3⟩
      clear hk3 HAD
      by_cases c1 : i + 1 ≤ 16
      · have HC : Hid (codeK (i + 1) = 0) := Kit.hid (by unfold codeK; rw [if_pos c1])
        have g1 : (i : Int) + 1 ≤ 16 := by omega
        have g2 : ((i : Int) + 1 == 17) = false := beq_eq_false_iff_ne.2 (by omega)
        have g3 : decide (17 < (i : Int) + 1) = false := decide_eq_false (by omega)
        rw [HC.out]
        clear c1
        go_wp2
        go_roundw
        case rel => exact HRL.out
        case measure => simp [intOf]; omega
      by_cases c2 : i + 1 = 17
      · have HC : Hid (codeK (i + 1) = 10) := Kit.hid (by unfold codeK; rw [if_neg c1, if_pos c2])
        have g1 : decide ((i : Int) + 1 ≤ 16) = false := decide_eq_false (by omega)
        have g2 : ((i : Int) + 1 == 17) = true := beq_iff_eq.2 (by omega)
        have g3 : decide (17 < (i : Int) + 1) = false := decide_eq_false (by omega)
        rw [HC.out]
        clear c1 c2
        go_wp2
        go_roundw
        case rel => exact HRL.out
        case measure => simp [intOf]; omega
      · have HC : Hid (codeK (i + 1) = 8) := Kit.hid (by unfold codeK; rw [if_neg c1, if_neg c2])
        have g1 : decide ((i : Int) + 1 ≤ 16) = false := decide_eq_false (by omega)
        have g2 : ((i : Int) + 1 == 17) = false := beq_eq_false_iff_ne.2 (by omega)
        have g3 : decide (17 < (i : Int) + 1) = true := decide_eq_true (by omega)
        rw [HC.out]
        clear c1 c2
        go_wp2
        go_roundw
        case rel => exact HRL.out
        case measure => simp [intOf]; omega
    · obtain rfl : i = n0 := by omega
      have hni : ¬ (i : Int) + 1 ≤ (i : Int) := by omega
      have HKM : Hid (Kt w1 wr p mb (chainK m0 ++ othersK 0) (2 * i + 1)) := Kit.hid (by rw [HM0.out, show othersK 0 = [] from rfl, List.append_nil]; exact HK.out)
      clear hlt HK
      go_wp2_with fail
      go_loopw [13] (fun v13 wr => ∃ j : Nat, j ≤ t0 + 1 ∧ v13 = .int .i64 j ∧ Hid (Kt w1 wr p mb (chainK m0 ++ othersK j) (2 * i + 1 + 2 * j))) (fun v _ => t0 + 1 - (intOf v).toNat)
      case atStart => exact ⟨0, by omega, rfl, HKM⟩
      case round =>
        obtain ⟨j, hj, rfl, HK⟩ := hrel
        by_cases hltj : j < t0 + 1
        · have hle : (j : Int) ≤ (t0 : Int) := by omega
          have hup : upK j ≤ 1000 ∧ 0 ≤ upK j := by unfold upK; split <;> omega
          have HAD := Kit.hid (HA.out _ _ _ _ _ _ HK.out (by omega) (100 + (j : Int)) (upK j) (by omega) (by omega))
          rw [others_add m0 hm17 j (by omega)] at HAD
          clear hup
          by_cases hj0 : j = 0
          · have hu : upK j = 0 := by unfold upK; rw [if_pos hj0]
            have g0 : ((j : Int) == 0) = true := beq_iff_eq.2 (by omega)
            rw [hu] at HAD
            clear hj0 hu
            go_wp2_with fail
            (with_reducible refine HAD.out.mono ?_); rintro e w4 ⟨rfl, hk4, _⟩
            have HK4 : Hid (Kt w1 w4 p mb (chainK m0 ++ othersK (j + 1)) (2 * i + 1 + 2 * (j + 1))) := Kit.hid hk4
            clear hk4 HAD
            go_wp2
            go_roundw
            case rel => exact ⟨j + 1, by omega, by go_num, HK4⟩
            case measure => simp [intOf]; omega
          · have hu : upK j = 100 + (j : Int) - 1 := by unfold upK; rw [if_neg hj0]
            have g0 : ((j : Int) == 0) = false := beq_eq_false_iff_ne.2 (by omega)
            rw [hu] at HAD
            clear hj0 hu
            go_wp2_with fail
            (with_reducible refine HAD.out.mono ?_); rintro e w4 ⟨rfl, hk4, _⟩
            have HK4 : Hid (Kt w1 w4 p mb (chainK m0 ++ othersK (j + 1)) (2 * i + 1 + 2 * (j + 1))) := Kit.hid hk4
            clear hk4 HAD
            go_wp2
            go_roundw
            case rel => exact ⟨j + 1, by omega, by go_num, HK4⟩
            case measure => simp [intOf]; omega
        · obtain rfl : j = t0 + 1 := by omega
          have hni2 : ¬ ((t0 + 1 : Nat) : Int) ≤ (t0 : Int) := by omega
          have HMV := Kit.hid (kt_move HK.out (by omega) 100 (a0 : Int) (by omega) (by omega))
          have hmc := deep_move m0 hm17 t0 ht8 a0 ha1
          have hta := deep_tall m0 hm17 t0 ht8
          have hwf := deep_wf (t0 + 1) m0 hm17 (by omega)
          have htm : tall (moveR (chainK m0 ++ othersK (t0 + 1)) 100 (a0 : Int)).2 100 = (t0 : Int) := by
            rcases moveR_cases hwf 100 (a0 : Int) with ⟨_, h⟩ | ⟨⟨old, hm⟩, hr⟩
            · rw [h]; exact hta
            · rw [hr]; exact (hwf.move_tall hm).trans hta
          obtain ⟨mr, hmr⟩ : ∃ mr, mr = moveR (chainK m0 ++ othersK (t0 + 1)) 100 (a0 : Int) := ⟨_, rfl⟩
          rw [← hmr] at hmc htm HMV
          obtain ⟨ec, T9⟩ := mr
          dsimp only at hmc htm HMV
          have HMC := Kit.hid hmc
          have HTM := Kit.hid htm
          clear hltj hmc hta hwf htm hmr
          go_wp2_with fail
          (with_reducible refine HMV.out.mono ?_); rintro e w5 ⟨rfl, hk5, _⟩
          have HTA := Kit.hid (tall_any hk5.1 100 (by omega) (by omega))
          rw [HTM.out] at HTA
          have HK5 := Kit.hid hk5
          by_cases hf : a0 + 1 + t0 ≤ 16
          · have HEC : Hid (ec = 0) := Kit.hid (by rw [HMC.out, if_pos hf])
            have g9 : (a0 : Int) + 1 + (t0 : Int) ≤ 16 := by omega
            rw [HEC.out]
            clear hk5 hf HMV
            go_wp2_with fail
            (with_reducible refine HTA.out.mono ?_); rintro e w6 ⟨rfl, hb6⟩
            have HK6 := Kit.hid (HK5.out.below hb6)
            clear hb6 HTA
            go_wp2
            go_ret
            exact ⟨rfl, HB1.out.trans (HK6.out.2.2.2.mono HB1.out.size)⟩
          · have HEC : Hid (ec = 10) := Kit.hid (by rw [HMC.out, if_neg hf])
            have g9 : decide ((a0 : Int) + 1 + (t0 : Int) ≤ 16) = false := decide_eq_false (by omega)
            rw [HEC.out]
            clear hk5 hf HMV
            go_wp2_with fail
            (with_reducible refine HTA.out.mono ?_); rintro e w6 ⟨rfl, hb6⟩
            have HK6 := Kit.hid (HK5.out.below hb6)
            clear hb6 HTA
            go_wp2
            go_ret
            exact ⟨rfl, HB1.out.trans (HK6.out.2.2.2.mono HB1.out.size)⟩
end Go.Proofs.Ytkhoiiinifdhcaa.Ki

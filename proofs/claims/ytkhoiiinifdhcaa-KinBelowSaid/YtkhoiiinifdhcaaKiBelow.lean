/- The law KinBelow. -/
import Derived.Test.YtkhoiiinifdhcaaKiL
namespace Go.Proofs.Ytkhoiiinifdhcaa.KiM
/-- The deepest of some below a group. -/
def tallF (T : Tr) (x : Int) (l : List Int) : Int := maxI ((l.filter fun y => decide (y ∈ under T x)).map fun y => ((path T y).length : Int) - ((path T x).length : Int))
theorem tallF_snoc (T : Tr) (x : Int) (l : List Int) (y : Int) : tallF T x (l ++ [y]) = if y ∈ under T x then max (tallF T x l) (((path T y).length : Int) - ((path T x).length : Int)) else tallF T x l := by
  unfold tallF
  rw [List.filter_append, List.map_append]
  by_cases h : y ∈ under T x
  · rw [if_pos h, List.filter_cons_of_pos (by simpa using h)]
    exact maxI_snoc _ _ (maxI_nonneg _)
  · rw [if_neg h, List.filter_cons_of_neg (by simpa using h)]
    simp
theorem tallF_all {T : Tr} (h : WF T) {x : Int} (hx : has T x = true) : tallF T x (under T 0) = tall T x := by
  apply Int.le_antisymm
  · refine maxI_le (tall_nonneg hx) fun d hd => ?_
    obtain ⟨y, hy, rfl⟩ := List.mem_map.1 hd
    exact tall_ge hx (by simpa using (List.mem_filter.1 hy).2)
  · refine tall_le hx (maxI_nonneg _) fun y hy => ?_
    refine maxI_ge (List.mem_map.2 ⟨y, List.mem_filter.2 ⟨h.all_mem.2 ((h.mem_under hx).1 hy).1, by simpa using hy⟩, rfl⟩)
theorem tallF_le {T : Tr} (h : WF T) (x : Int) (l : List Int) (hl : ∀ y ∈ l, has T y = true) : 0 ≤ tallF T x l ∧ tallF T x l ≤ 16 :=
  ⟨maxI_nonneg _, maxI_le (by omega) fun d hd => by
    obtain ⟨y, hy, rfl⟩ := List.mem_map.1 hd
    have := h.dep_le (hl y (List.mem_filter.1 hy).1)
    unfold dep at this
    omega⟩
end Go.Proofs.Ytkhoiiinifdhcaa.KiM
namespace Go.Proofs.Ytkhoiiinifdhcaa.Ki
open Go.RowKit Go.Proofs.Ytkhoiiinifdhcaa.Kit Go.Proofs.Ytkhoiiinifdhcaa.KiM
set_option linter.unusedVariables false
set_option linter.unusedSimpArgs false
set_option maxRecDepth 8000 in
set_option maxHeartbeats 3200000 in
theorem belowLaw_any (A : Option Addr) (l : List KOp) (ca : Nat) (which : Int) (w : World) (hr : Hid (KRow w A l)) (hl : l.length ≤ 9223372036854775807) (hw1 : 0 ≤ which) (hw2 : which ≤ 255) :
    Calls Try.prog 6 #[.slice A l.length ca, .int .u8 which] w fun e w' => e = .returned (.bool true) ∧ Below w.heap.size w w' := by
  have HAW := Kit.hid awake_any
  have HR := hr
  clear hr
  go_enter Try.func6, Try.ntmps6
  go_wp2_with fail
  (with_reducible refine (HAW.out w).mono ?_); rintro e w1 ⟨rfl, hd1⟩
  have HB1 := Kit.hid hd1
  have hr1 := krow_below HR HB1.out
  clear hd1 HAW HR
  by_cases hbig : 60 < l.length
  · have g1 : (60 : Int) < (l.length : Int) := by omega
    clear hbig
    go_wp2
    go_ret
    exact ⟨rfl, HB1.out⟩
  have g1 : ¬ (60 : Int) < (l.length : Int) := by omega
  have hll : l.length ≤ 60 := by omega
  clear hbig hl
  have HWL := Kit.hid (walked_any A l ca w1 hr1 (by omega))
  have HWF := Kit.hid (walkedK_wf l)
  generalize walkedK l = T at HWL HWF
  clear hr1
  go_wp2_with fail
  (with_reducible refine HWL.out.mono ?_); rintro e w2 ⟨p, mb, rfl, hq⟩
  obtain ⟨n, hn⟩ : ∃ n, n = 3 * l.length + 1 := ⟨_, rfl⟩
  rw [← hn] at hq
  have HK2 := Kit.hid hq
  have HNL : Hid (n ≤ 181) := Kit.hid (by omega)
  have HUL : Hid (∀ x, (under T x).length ≤ 182) := Kit.hid (fun x => by have := under_len HWF.out x; have := hq.1.2.2.2; omega)
  have HU0 := Kit.hid (kt_under hq 0 (by omega))
  clear hq hn HWL
  go_wp2_with fail
  (with_reducible refine HU0.out.mono ?_); rintro e w3 ⟨Aa, cq, rfl, hra, hk3, _⟩
  have HK3 := Kit.hid hk3
  obtain ⟨U, hU⟩ : ∃ U, U = under T 0 := ⟨_, rfl⟩
  rw [← hU] at hra ⊢
  have HUE := Kit.hid hU
  have HRA3 := Kit.hid hra
  obtain ⟨r, hr⟩ := HWF.out.all_head
  have hul : U.length ≤ 182 := by rw [hU]; exact HUL.out 0
  have hu0 : 0 < U.length := by rw [hU, hr]; simp
  have hue : (((U.length : Nat) : Int) == 0) = false := beq_eq_false_iff_ne.2 (by omega)
  obtain ⟨k, hk⟩ : ∃ k : Nat, k = which.toNat % U.length := ⟨_, rfl⟩
  have hkl : k < U.length := by rw [hk]; exact Nat.mod_lt _ hu0
  have hkm : Int.tmod which ((U.length : Nat) : Int) = (k : Int) := by
    rw [hk, Int.tmod_eq_emod_of_nonneg hw1]
    have : which = ((which.toNat : Nat) : Int) := by omega
    rw [this]; rfl
  obtain ⟨x, hx⟩ : ∃ x, U[k]? = some x := ⟨_, List.getElem?_eq_getElem hkl⟩
  obtain ⟨ad, rfl, c0⟩ := row_at hra hx
  have HHX : Hid (has T x = true) := Kit.hid (HWF.out.all_mem.1 (by rw [← hU]; exact List.mem_of_getElem? hx))
  have HUX := Kit.hid (kt_under hk3 x (HWF.out.fits HHX.out))
  clear hra hk3 HU0 hU hr hk hx
  go_wp2_with fail
  (with_reducible refine HUX.out.mono ?_); rintro e w4 ⟨Ax, cx, rfl, hrx, hk4, hb4⟩
  have HK4 := Kit.hid hk4
  have HRX4 := Kit.hid hrx
  have HRA4 := Kit.hid (HRA3.out.below hb4)
  obtain ⟨d, hd⟩ : ∃ d, d = (path T x).length := ⟨_, rfl⟩
  have HDE := Kit.hid hd
  have hd16 : d ≤ 16 := by rw [hd]; exact path_len HWF.out x
  obtain ⟨V, hV⟩ : ∃ V, V = under T x := ⟨_, rfl⟩
  have HVE := Kit.hid hV
  rw [← hV] at HRX4 ⊢
  have HVL : Hid (V.length ≤ 182) := Kit.hid (by rw [hV]; exact HUL.out x)
  have HIS : Hid (∀ y, y ∈ U → has T y = true ∧ (y ∈ V ↔ (x = 0 ∨ x ∈ path T y))) := Kit.hid (fun y hy => by
    have h1 := HWF.out.all_mem.1 (by rw [← HUE.out]; exact hy)
    exact ⟨h1, by rw [HVE.out, HWF.out.mem_under HHX.out]; simp [h1]⟩)
  have HPD : Hid (∀ w', Kt w1 w' p mb T n → Calls Try.prog 28 #[.pointer (some ⟨p, 0, none⟩), .int .i64 x] w' (RowPost w1 p mb T n (path T x) w')) := Kit.hid (fun w' h => kt_path h x (HWF.out.fits HHX.out))
  have HPY : Hid (∀ y w', y ∈ U → Kt w1 w' p mb T n → Calls Try.prog 28 #[.pointer (some ⟨p, 0, none⟩), .int .i64 y] w' (RowPost w1 p mb T n (path T y) w')) := Kit.hid (fun y w' hy h => kt_path h y (HWF.out.fits (HIS.out y hy).1))
  have HIN : Hid (∀ (A : Option Addr) (c : Nat) (l : List Int) (y : Int) (w' : World), l.length ≤ 1000000 → Kt w1 w' p mb T n → Row 0 w' (.slice A l.length c) l → Calls Try.prog 31 #[.slice A l.length c, .int .i64 y] w' fun e w'' => e = .returned (.bool (decide (y ∈ l))) ∧ Kt w1 w'' p mb T n ∧ Below w'.heap.size w' w'') := Kit.hid (fun A c l y w' hl hk hr => (rin_any hr y hl).mono fun e w'' g => ⟨g.1, hk.below g.2, g.2⟩)
  have HTL : Hid (∀ w', Kt w1 w' p mb T n → Calls Try.prog 13 #[.pointer (some ⟨p, 0, none⟩), .int .i64 x] w' fun e w'' => e = .returned (.int .i64 (tall T x)) ∧ Kt w1 w'' p mb T n ∧ Below w'.heap.size w' w'') := Kit.hid (fun w' h => (tall_any h.1 x (HWF.out.fits HHX.out).1 (HWF.out.fits HHX.out).2).mono fun e w'' g => ⟨g.1, h.below g.2, g.2⟩)
  have HV0 : Hid (V[0]? = some x) := Kit.hid (by rw [HVE.out, HWF.out.under_eq HHX.out]; rfl)
  clear hrx hk4 hb4 hd hV HUX c0
  go_wp2_with fail
  go_loopw [10, 11] (fun v10 v11 wr => ∃ (i : Nat) (m : Int), i ≤ U.length ∧ v11 = .int .i64 i ∧ v10 = .int .i64 m ∧ Hid (m = tallF T x (U.take i)) ∧ 0 ≤ m ∧ m ≤ 16 ∧ Hid (Kt w1 wr p mb T n) ∧ Hid (Row 0 wr (.slice (some ad) U.length cq) U) ∧ Hid (Row 0 wr (.slice Ax V.length cx) V)) (fun _ i _ => U.length - (intOf i).toNat)
  case atStart => exact ⟨0, 0, by omega, rfl, rfl, Kit.hid rfl, by omega, by omega, HK4, HRA4, HRX4⟩
  case round =>
    obtain ⟨i, m, hi, rfl, rfl, HMX, hm0, hm16, HK, HRU, HRV⟩ := hrel
    by_cases hlt : i < U.length
    · obtain ⟨y, hy⟩ : ∃ y, U[i]? = some y := ⟨_, List.getElem?_eq_getElem hlt⟩
      obtain ⟨ad', hA, c0⟩ := row_at HRU.out hy
      cases hA
      have hym := List.mem_of_getElem? hy
      have HY := Kit.hid hy
      have HYM := Kit.hid hym
      have HP1 := Kit.hid (HPY.out y wr hym HK.out)
      have HTS : Hid (tallF T x (U.take (i + 1)) = if y ∈ V then max m (((path T y).length : Int) - (d : Int)) else m) := Kit.hid (by
        rw [List.take_add_one, HY.out, Option.toList_some, tallF_snoc, ← HVE.out, ← HDE.out, ← HMX.out])
      have hpl := path_len HWF.out y
      obtain ⟨k', hk'⟩ : ∃ k', k' = (path T y).length := ⟨_, rfl⟩
      obtain ⟨P, hP⟩ : ∃ P, P = path T y := ⟨_, rfl⟩
      have HPE := Kit.hid hP
      rw [← hP] at HP1 HTS hpl
      clear hy hym hk' hP
      go_wp2_with fail
      (with_reducible refine HP1.out.mono ?_); rintro e w5 ⟨Ap, cp, rfl, hrp, hk5, hb5⟩
      have HK5 := Kit.hid hk5
      have HRU5 := Kit.hid (HRU.out.below hb5)
      have HRV5 := Kit.hid (HRV.out.below hb5)
      have HRP5 := Kit.hid hrp
      clear hrp hk5 hb5 HP1 HK HRU HRV c0
      by_cases hx0 : x = 0
      · have g2 : (x == 0) = true := by simp [hx0]
        have HYV : Hid (y ∈ V) := Kit.hid ((HIS.out y HYM.out).2.2 (.inl hx0))
        have HKI := HK5
        have HRUI := HRU5
        have HRVI := HRV5
        obtain ⟨ad'', hA, c0⟩ := row_at HRU5.out HY.out
        cases hA
        clear hx0 HK5 HRU5 HRV5
        have HIV := Kit.hid (HIN.out Ax cx V y _ (by have := HVL.out; omega) HKI.out HRVI.out)
        have HVD : Hid (decide (y ∈ V) = true) := Kit.hid (decide_eq_true HYV.out)
        have HTS2 : Hid (tallF T x (U.take (i + 1)) = max m ((P.length : Int) - (d : Int))) := Kit.hid (by rw [HTS.out, if_pos HYV.out])
        go_wp2_with fail
        (with_reducible refine HIV.out.mono ?_); rintro e w7 ⟨rfl, hk7, hb7⟩
        rw [HVD.out]
        have HK7 := Kit.hid hk7
        have HRU7 := Kit.hid (HRUI.out.below hb7)
        have HRV7 := Kit.hid (HRVI.out.below hb7)
        have HP7 := Kit.hid (HPD.out _ hk7)
        clear hk7 hb7 HIV HKI HRUI HRVI
        go_wp2_with fail
        (with_reducible refine HP7.out.mono ?_); rintro e w8 ⟨A8, c8, rfl, hr8, hk8, hb8⟩
        rw [← HDE.out]
        have HK8 := Kit.hid hk8
        have HRU8 := Kit.hid (HRU7.out.below hb8)
        have HRV8 := Kit.hid (HRV7.out.below hb8)
        clear hr8 hk8 hb8 HP7 HK7 HRU7 HRV7
        go_wp2
        go_roundw
        case rel => exact ⟨i + 1, max m ((P.length : Int) - (d : Int)), by omega, by go_num, rfl, Kit.hid HTS2.out.symm, by omega, by omega, HK8, HRU8, HRV8⟩
        case measure => simp [intOf]; omega
      · have g2 : (x == 0) = false := beq_eq_false_iff_ne.2 hx0
        have HYP : Hid (y ∈ V ↔ x ∈ P) := Kit.hid (by
          rw [(HIS.out y HYM.out).2, HPE.out]
          simp [hx0])
        have HI6 := Kit.hid (HIN.out Ap cp P x _ (by omega) HK5.out HRP5.out)
        clear hx0
        go_wp2_with fail
        (with_reducible refine HI6.out.mono ?_); rintro e w6 ⟨rfl, hk6, hb6⟩
        have HKI := Kit.hid hk6
        have HRUI := Kit.hid (HRU5.out.below hb6)
        have HRVI := Kit.hid (HRV5.out.below hb6)
        obtain ⟨ad'', hA, c0⟩ := row_at HRUI.out HY.out
        cases hA
        clear hk6 hb6 HK5 HRU5 HRV5 HRP5 HI6
        by_cases hyv : y ∈ V
        · have HYV := Kit.hid hyv
          have HD6 : Hid (decide (x ∈ P) = true) := Kit.hid (decide_eq_true (HYP.out.1 hyv))
          rw [HD6.out]
          clear hyv
          have HIV := Kit.hid (HIN.out Ax cx V y _ (by have := HVL.out; omega) HKI.out HRVI.out)
          have HVD : Hid (decide (y ∈ V) = true) := Kit.hid (decide_eq_true HYV.out)
          have HTS2 : Hid (tallF T x (U.take (i + 1)) = max m ((P.length : Int) - (d : Int))) := Kit.hid (by rw [HTS.out, if_pos HYV.out])
          go_wp2_with fail
          (with_reducible refine HIV.out.mono ?_); rintro e w7 ⟨rfl, hk7, hb7⟩
          rw [HVD.out]
          have HK7 := Kit.hid hk7
          have HRU7 := Kit.hid (HRUI.out.below hb7)
          have HRV7 := Kit.hid (HRVI.out.below hb7)
          have HP7 := Kit.hid (HPD.out _ hk7)
          clear hk7 hb7 HIV HKI HRUI HRVI
          go_wp2_with fail
          (with_reducible refine HP7.out.mono ?_); rintro e w8 ⟨A8, c8, rfl, hr8, hk8, hb8⟩
          rw [← HDE.out]
          have HK8 := Kit.hid hk8
          have HRU8 := Kit.hid (HRU7.out.below hb8)
          have HRV8 := Kit.hid (HRV7.out.below hb8)
          clear hr8 hk8 hb8 HP7 HK7 HRU7 HRV7
          go_wp2
          go_roundw
          case rel => exact ⟨i + 1, max m ((P.length : Int) - (d : Int)), by omega, by go_num, rfl, Kit.hid HTS2.out.symm, by omega, by omega, HK8, HRU8, HRV8⟩
          case measure => simp [intOf]; omega
        · have HYV := Kit.hid hyv
          have HD6 : Hid (decide (x ∈ P) = false) := Kit.hid (decide_eq_false (fun h => hyv (HYP.out.2 h)))
          rw [HD6.out]
          clear hyv
          have HIV := Kit.hid (HIN.out Ax cx V y _ (by have := HVL.out; omega) HKI.out HRVI.out)
          have HVD : Hid (decide (y ∈ V) = false) := Kit.hid (decide_eq_false HYV.out)
          have HTS2 : Hid (tallF T x (U.take (i + 1)) = m) := Kit.hid (by rw [HTS.out, if_neg HYV.out])
          go_wp2_with fail
          (with_reducible refine HIV.out.mono ?_); rintro e w7 ⟨rfl, hk7, hb7⟩
          rw [HVD.out]
          have HK7 := Kit.hid hk7
          have HRU7 := Kit.hid (HRUI.out.below hb7)
          have HRV7 := Kit.hid (HRVI.out.below hb7)
          clear hk7 hb7 HIV HKI HRUI HRVI
          go_wp2
          go_roundw
          case rel => exact ⟨i + 1, m, by omega, by go_num, rfl, Kit.hid HTS2.out.symm, by omega, by omega, HK7, HRU7, HRV7⟩
          case measure => simp [intOf]; omega
    · obtain rfl : i = U.length := by omega
      have HTE : Hid (m = tall T x) := Kit.hid (by rw [HMX.out, List.take_length, HUE.out, tallF_all HWF.out HHX.out])
      have HT1 := Kit.hid (HTL.out _ HK.out)
      rw [← HTE.out] at HT1
      go_wp2_with fail
      (with_reducible refine HT1.out.mono ?_); rintro e w5 ⟨rfl, hk5, hb5⟩
      obtain ⟨ax, rfl, c1⟩ := row_at (HRV.out.below hb5) HV0.out
      have e0 : ax.add 0 = ax := by unfold Addr.add; simp
      rw [e0] at c1
      have HK5 := Kit.hid hk5
      have hvl : 0 < V.length := (List.getElem?_eq_some_iff.1 HV0.out).1
      clear hk5 hb5 HT1
      go_wp2
      go_ret
      exact ⟨rfl, HB1.out.trans (HK5.out.2.2.2.mono HB1.out.size)⟩
end Go.Proofs.Ytkhoiiinifdhcaa.Ki

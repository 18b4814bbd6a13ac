/- The walks of kin's Tall, and of link and unlink. -/
import Derived.Test.YtkhoiiinifdhcaaKiC
import Derived.Laws.ResultCell
namespace Go.Proofs.Ytkhoiiinifdhcaa.Ki
open Go.RowKit Go.Proofs.Ytkhoiiinifdhcaa.Kit Go.Proofs.Ytkhoiiinifdhcaa.KiM
set_option linter.unusedVariables false
set_option linter.unusedSimpArgs false
theorem cells_at {w : World} {A : Option Addr} {l : List Int} {i : Nat} {x : Int} (h : Cells w A (iv l)) (hi : l[i]? = some x) : ∃ ad, A = some ad ∧ w.cell? (ad.add i) = some (.int .i64 x) := by
  obtain ⟨hl, rfl⟩ := List.getElem?_eq_some_iff.1 hi
  obtain ⟨ad, h1, h2⟩ := h i (by rw [iv_len]; exact hl)
  exact ⟨ad, h1, by rw [h2]; simp [iv]⟩
theorem cells_over {w w' : World} {A : Option Addr} {l : List Value} (h : Cells w A l) (hb : Below w.heap.size w w') : Cells w' A l := fun i hi => by
  obtain ⟨ad, h1, h2⟩ := h i hi
  exact ⟨ad, h1, (hb.cell (cell_lt h2)).trans h2⟩
section
variable {w w' : World} {p mb n : Nat} {T : Tr}
set_option maxRecDepth 8000 in
set_option maxHeartbeats 1600000 in
theorem tall_any (h : KT w p mb T n) (id : Int) (hi1 : -9223372036854775808 ≤ id) (hi2 : id ≤ 9223372036854775807) :
    Calls Try.prog 13 #[.pointer (some ⟨p, 0, none⟩), .int .i64 id] w fun e w' => e = .returned (.int .i64 (tall T id)) ∧ Below w.heap.size w w' := by
  have HT := Kit.hid h
  have HW : Hid (WF T) := Kit.hid h.2.1
  have HC := Kit.hid (kt_has h id hi1 hi2)
  have HN : Hid ((under T id).length ≤ 100001) := Kit.hid (by have := under_len h.2.1 id; have := h.2.2.2; have := h.2.2.1; omega)
  have HPI : Hid (∀ w', Below w.heap.size w w' → Calls Try.prog 28 #[.pointer (some ⟨p, 0, none⟩), .int .i64 id] w' fun e w'' => ∃ v, e = .returned v ∧ Row w'.heap.size w'' v (path T id) ∧ Below w'.heap.size w' w'') := Kit.hid (fun w' hb => path_any (HT.out.below hb) id hi1 hi2)
  have HUI : Hid (∀ w', Below w.heap.size w w' → Calls Try.prog 19 #[.pointer (some ⟨p, 0, none⟩), .int .i64 id] w' fun e w'' => ∃ v, e = .returned v ∧ Row w'.heap.size w'' v (under T id) ∧ Below w'.heap.size w' w'') := Kit.hid (fun w' hb => under_any (HT.out.below hb) id hi1 hi2)
  have HPX : Hid (∀ x w', has T x = true → Below w.heap.size w w' → Calls Try.prog 28 #[.pointer (some ⟨p, 0, none⟩), .int .i64 x] w' fun e w'' => ∃ v, e = .returned v ∧ Row w'.heap.size w'' v (path T x) ∧ Below w'.heap.size w' w'') := Kit.hid (fun x w' hx hb => by
    have : -9223372036854775808 ≤ x ∧ x ≤ 9223372036854775807 := by
      rcases has_iff.1 hx with rfl | ⟨q, hq⟩
      · omega
      · have := HW.out.pos hq; omega
    exact path_any (HT.out.below hb) x this.1 this.2)
  clear h hi1 hi2
  go_enter Try.func13, Try.ntmps13
  go_wp2_with fail
  (with_reducible refine HC.out.mono ?_); rintro e w2 ⟨rfl, hb2⟩
  have HB2 := Kit.hid hb2
  clear hb2 HC
  cases hh : has T id with
  | false =>
    have HR : Hid (tall T id = -1) := Kit.hid (by unfold tall; rw [hh]; rfl)
    go_wp2
    go_ret
    rw [HR.out]
    exact ⟨rfl, HB2.out⟩
  | true =>
    have HP2 := Kit.hid (HPI.out _ HB2.out)
    have HH := Kit.hid hh
    clear hh
    go_wp2_with fail
    (with_reducible refine HP2.out.mono ?_); rintro e w3 ⟨va, rfl, hra, hb3⟩
    have HB3 := Kit.hid (HB2.out.trans (hb3.mono HB2.out.size))
    obtain ⟨Aa, ca, rfl, _, _, _⟩ := hra.reads
    obtain ⟨d, hd⟩ : ∃ d, d = (path T id).length := ⟨_, rfl⟩
    have hd16 : d ≤ 16 := by rw [hd]; exact path_len HW.out id
    rw [← hd]
    have HD := Kit.hid hd
    have HU3 := Kit.hid (HUI.out _ HB3.out)
    clear hra hb3 HP2 hd
    go_wp2_with fail
    (with_reducible refine HU3.out.mono ?_); rintro e w4 ⟨vu, rfl, hru, hb4⟩
    have HB4 := Kit.hid (HB3.out.trans (hb4.mono HB3.out.size))
    obtain ⟨Au, cu, rfl, hcu, _, _⟩ := hru.reads
    have HCU := Kit.hid hcu
    obtain ⟨U, hU⟩ : ∃ U, U = under T id := ⟨_, rfl⟩
    have HUE := Kit.hid hU
    rw [← hU] at HCU ⊢
    have hul : U.length ≤ 100001 := by rw [hU]; exact HN.out
    clear hru hb4 hcu HU3 hU
    go_wp2_with fail
    go_loopw [6, 21] (fun v6 v21 wr => ∃ (i : Nat) (m : Int), i ≤ U.length ∧ v21 = .int .i64 i ∧ v6 = .int .i64 m ∧ Hid (m = maxI ((U.take i).map fun x => ((path T x).length : Int) - (d : Int))) ∧ 0 ≤ m ∧ m ≤ 16 ∧ Hid (Below w4.heap.size w4 wr)) (fun _ i _ => U.length - (intOf i).toNat)
    case atStart => exact ⟨0, 0, by omega, rfl, rfl, Kit.hid rfl, by omega, by omega, Kit.hid (Below.refl _ _)⟩
    case round =>
      obtain ⟨i, m, hi, rfl, rfl, HMX, hm0, hm16, HB⟩ := hrel
      by_cases hlt : i < U.length
      · obtain ⟨x, hx⟩ : ∃ x, U[i]? = some x := ⟨_, List.getElem?_eq_getElem hlt⟩
        obtain ⟨ad, hA, c0⟩ := cells_at (cells_over HCU.out HB.out) hx
        subst hA
        have hhx : has T x = true := ((HW.out.mem_under HH.out).1 (by rw [← HUE.out]; exact List.mem_of_getElem? hx)).1
        have HPC := Kit.hid (HPX.out x wr hhx (HB4.out.trans (HB.out.mono HB4.out.size)))
        obtain ⟨k, hk⟩ : ∃ k, k = (path T x).length := ⟨_, rfl⟩
        have hk16 : k ≤ 16 := by rw [hk]; exact path_len HW.out x
        have HMN : Hid (max m ((k : Int) - (d : Int)) = maxI ((U.take (i + 1)).map fun x => ((path T x).length : Int) - (d : Int))) := Kit.hid (by
          obtain ⟨hl, he⟩ := List.getElem?_eq_some_iff.1 hx
          rw [List.take_succ_eq_append_getElem hl, List.map_append, he, List.map_singleton, maxI_snoc _ _ (maxI_nonneg _), ← HMX.out, hk])
        have HKE := Kit.hid hk
        have hil : (i : Int) < (U.length : Int) := by omega
        clear hx hhx hk
        go_wp2_with fail
        (with_reducible refine HPC.out.mono ?_); rintro e w5 ⟨vp, rfl, hrp, hb5⟩
        obtain ⟨Ap, cp, rfl, _, _, _⟩ := hrp.reads
        rw [← HKE.out]
        have HB5 := Kit.hid (HB.out.trans (hb5.mono HB.out.size))
        clear hrp hb5 HPC
        go_wp2
        go_roundw
        case rel => exact ⟨i + 1, max m ((k : Int) - (d : Int)), by omega, by go_num, rfl, HMN, by omega, by omega, HB5⟩
        case measure => simp [intOf]; omega
      · obtain rfl : i = U.length := by omega
        have HE := Kit.hid (HB4.out.trans (HB.out.mono HB4.out.size))
        have HR : Hid (tall T id = m) := Kit.hid (by
          rw [HMX.out, List.take_length]
          unfold tall
          rw [if_pos HH.out, HUE.out, HD.out])
        go_wp2
        go_ret
        rw [HR.out]
        exact ⟨rfl, HE.out⟩
end
end Go.Proofs.Ytkhoiiinifdhcaa.Ki

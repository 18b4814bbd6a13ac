/- The law LeSigned. -/
import Derived.Test.YtpgfjiglkmpnaaaLeUnlike
namespace Go.Proofs.Ytpgfjiglkmpnaaa.Le
open Go.RowKit Go.Proofs.Ytpgfjiglkmpnaaa.Kit Go.Proofs.Ytpgfjiglkmpnaaa.LeM
set_option linter.unusedVariables false
set_option linter.unusedSimpArgs false
theorem last_dig (n k : Nat) (hk : 1 ≤ k) : (dig n k)[k - 1]'(by rw [dig_length]; omega) = BitVec.ofNat 8 (n / 256 ^ (k - 1)) := by
  have e : dig n k = dig n (k - 1) ++ [BitVec.ofNat 8 (n / 256 ^ (k - 1))] := by
    rw [← dig_snoc, Nat.sub_add_cancel hk]
  simp only [e]
  rw [List.getElem_append_right (by rw [dig_length]; exact Nat.le_refl _)]
  simp [dig_length]
theorem sgn_mod (n k : Nat) : sgn (n % 256 ^ k) k = sgn n k := by
  unfold sgn
  rw [Nat.mod_mod]
theorem tdiv2 (x : Int) : (0 ≤ x ∧ x.tdiv 2 = x / 2) ∨ (x < 0 ∧ x.tdiv 2 = -((-x) / 2)) := by
  by_cases h : 0 ≤ x
  · exact .inl ⟨h, Int.tdiv_eq_ediv_of_nonneg h⟩
  · refine .inr ⟨by omega, ?_⟩
    have e : x.tdiv 2 = -((-x).tdiv 2) := by rw [Int.neg_tdiv]; omega
    rw [e, Int.tdiv_eq_ediv_of_nonneg (by omega)]
theorem tdiv_lt {x H : Int} (h : x < 2 * H) (h0 : 0 < H) : x.tdiv 2 < H := by
  rcases tdiv2 x with ⟨h1, h2⟩ | ⟨h1, h2⟩ <;> omega
theorem tdiv_ge {x H : Int} (h : -(2 * H) ≤ x) : -H ≤ x.tdiv 2 := by
  rcases tdiv2 x with ⟨h1, h2⟩ | ⟨h1, h2⟩ <;> omega
theorem sgn_law (n k : Nat) (h1 : 1 ≤ k) (h8 : k ≤ 8) :
    ∃ m H : Nat, IntKind.u64.wrap (sgn n k) = (m : Int) ∧ m < 18446744073709551616 ∧ m % 256 ^ k = n % 256 ^ k ∧ IntKind.i64.wrap ((2 : Int) ^ (8 * (k : Int) - 2).toNat) = (H : Int) ∧ IntKind.i64.wrap (-(H : Int)) = -(H : Int) ∧
      (sgn n k).tdiv 2 < (H : Int) ∧ -(H : Int) ≤ (sgn n k).tdiv 2 ∧ (sgn n k < 0 ↔ 128 ≤ n / 256 ^ (k - 1) % 256) ∧ (H : Int) ≤ 4611686018427387904 := by
  refine ⟨(sgn n k % 18446744073709551616).toNat, 2 ^ (8 * k - 2), ?_⟩
  have hc : k = 1 ∨ k = 2 ∨ k = 3 ∨ k = 4 ∨ k = 5 ∨ k = 6 ∨ k = 7 ∨ k = 8 := by omega
  have e0 : IntKind.u64.wrap (sgn n k) = sgn n k % 18446744073709551616 := wrap_u64 _
  rw [e0]
  unfold sgn
  rcases hc with rfl | rfl | rfl | rfl | rfl | rfl | rfl | rfl
  all_goals
    simp only [Nat.reducePow, Nat.reduceSub, Nat.reduceMul]
    refine ⟨by omega, by omega, by split <;> omega, by decide, by decide, ?_, ?_, ?_, by omega⟩
    · exact tdiv_lt (by split <;> omega) (by omega)
    · exact tdiv_ge (by split <;> omega)
    · split <;> omega
set_option maxHeartbeats 800000 in
theorem signedLaw_any (n : Nat) (width : Int) (w : World) (hn : n < 18446744073709551616) :
    Calls Try.prog 5 #[.int .u64 n, .int .i64 width] w fun e w' => e = .returned (.bool true) ∧ Below w.heap.size w w' := by
  have hk := hw_bd width
  obtain ⟨m, H, hm, hm2, hmod, hH, hHn, ht1, ht2, hneg, hHb⟩ := sgn_law n (hw width) hk.1 hk.2
  have hdm : dig m (hw width) = dig n (hw width) := (dig_eq _ _ _).2 hmod
  have hpl : n % 256 ^ hw width < 18446744073709551616 := Nat.lt_of_le_of_lt (Nat.mod_le _ _) hn
  have HS1 := Kit.hid (fun w => sign_any n width w hn)
  have HS2 := Kit.hid (fun w => sign_any (n % 256 ^ hw width) width w hpl)
  rw [sgn_mod] at HS2
  have HP1 := Kit.hid (fun w => putnil_any n n width w hn rfl)
  have HP2 := Kit.hid (fun w => putnil_any m m width w hm2 rfl)
  rw [hdm] at HP2
  have hnum := num_dig (hw width) n
  have hlen := dig_length (hw width) n
  obtain ⟨k, hkk⟩ : ∃ k, k = hw width := ⟨_, rfl⟩
  rw [← hkk] at hk HS1 HS2 HP1 HP2 hnum hlen hm hmod hH ht1 ht2 hneg
  clear hdm hmod hkk
  obtain ⟨D, hD⟩ : ∃ D, D = dig n k := ⟨_, rfl⟩
  have hlast : ∀ hp : k - 1 < D.length, D[k - 1]'hp = BitVec.ofNat 8 (n / 256 ^ (k - 1)) := by
    subst hD
    exact fun _ => last_dig n k hk.1
  rw [← hD] at HP1 HP2 hnum hlen
  obtain ⟨M, hM⟩ : ∃ M, M = n % 256 ^ k := ⟨_, rfl⟩
  rw [← hM] at HS2 hnum
  obtain ⟨s, hs⟩ : ∃ s, s = sgn n k := ⟨_, rfl⟩
  rw [← hs] at HS1 HS2 hm ht1 ht2 hneg
  have hD8 : D.length ≤ 8 := by omega
  have HN := Kit.hid (fun (A : Option Addr) (c : Nat) (w : World) (hb : Hid (Bytes w A D)) => number_any A D c w hb hD8)
  rw [hlen, hnum] at HN
  have HL := Kit.hid hlen
  have hkl : k - 1 < D.length := by omega
  obtain ⟨h, hh⟩ : ∃ h, h = D[k - 1]'hkl := ⟨_, rfl⟩
  have bh := h.isLt
  have hht : h.toNat = n / 256 ^ (k - 1) % 256 := by rw [hh, hlast, BitVec.toNat_ofNat]
  rw [← hht] at hneg
  have HH := Kit.hid hh
  have HB : ((decide (s < 0)) == (decide ((128 : Int) ≤ (h.toNat : Int)))) = true := by
    rw [beq_iff_eq]
    refine decide_eq_decide.2 (hneg.trans ?_)
    omega
  have f3 : wrap64 (s.tdiv 2) = s.tdiv 2 := by
    unfold wrap64
    generalize s.tdiv 2 = t at ht1 ht2
    omega
  have f1 : decide ((k : Int) < 1) = false := decide_eq_false (by omega)
  have f2 : decide ((8 : Int) < (k : Int)) = false := decide_eq_false (by omega)
  have hk1 : (1 : Int) ≤ (k : Int) := by omega
  have hk8 : (k : Int) ≤ 8 := by omega
  have hki : ((k : Int) - 1).toNat = k - 1 := by omega
  have hki1 : 0 ≤ (k : Int) - 1 := by omega
  have hki2 : k - 1 < k := by omega
  clear hD hM hs hlast hh hht hneg hHb hpl hnum hlen hD8
  go_enter Try.func5, Try.ntmps5
  go_wp2_with (first
      | (go_at_call 10; refine (awake_any _).mono ?_; rintro e w1 ⟨rfl, hd1⟩; have hsz1 := hd1.size)
      | (go_at_call 13; (with_reducible refine (HP1.out _).mono ?_); rintro e w2 ⟨A2, c2, rfl, hB2, hc2, hf2, _, hd2⟩
         have hd12 := hd1.trans (hd2.mono hsz1)
         have hsz2 := hd12.size
         obtain ⟨ad, rfl, hcell⟩ := hB2.out (k - 1) (by have := HL.out; omega)
         rw [← HH.out] at hcell
         rw [HL.out])
      | (go_at_call 14; (with_reducible refine (HS1.out _).mono ?_); rintro e w3 ⟨rfl, rfl⟩)
      | (go_at_call 14; (with_reducible refine (HS2.out _).mono ?_); rintro e w3 ⟨rfl, rfl⟩)
      | (go_at_call 16; refine (HN.out _ _ _ hB2).mono ?_; rintro e w3 ⟨rfl, rfl⟩)
      | (go_at_call 13; (with_reducible refine (HP2.out _).mono ?_); rintro e w4 ⟨A4, c4, rfl, hB4, hc4, hf4, _, hd4⟩
         have hd14 := hd12.trans (hd4.mono hsz2)
         have hB24 := bytes_below hB2 hd4
         have HSM := Kit.hid (same_any A4 D c4 (some ad) D c2 w4 hB4 hB24 (by have := HL.out; omega) (by have := HL.out; omega))
         rw [decide_eq_true (rfl : D = D), HL.out] at HSM
         rw [HL.out])
      | (go_at_call 12; refine HSM.out.mono ?_; rintro e w5 ⟨rfl, n5, rfl⟩
         have hd5 := below_drewN hd14 n5))
  go_ret
  exact ⟨rfl, hd5⟩
end Go.Proofs.Ytpgfjiglkmpnaaa.Le

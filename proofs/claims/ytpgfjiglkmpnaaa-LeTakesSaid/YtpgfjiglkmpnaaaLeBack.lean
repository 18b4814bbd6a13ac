/- The law LeBack. -/
import Derived.Test.YtpgfjiglkmpnaaaLeUnlike
namespace Go.Proofs.Ytpgfjiglkmpnaaa.Le
open Go.RowKit Go.Proofs.Ytpgfjiglkmpnaaa.Kit Go.Proofs.Ytpgfjiglkmpnaaa.LeM
set_option linter.unusedVariables false
set_option linter.unusedSimpArgs false
theorem rp_front (D m : List (BitVec 8)) (k : Nat) (hk : D.length = k) : rp (D ++ m) 0 k = (D, m, 0) := by
  unfold rp
  rw [if_neg (by simp), if_neg (by omega), if_neg (by simp; omega)]
  subst hk
  simp
theorem end_beq (m : List (BitVec 8)) : ((endOf m 0 == 0) == ((m.length : Int) == 0)) = true := by
  unfold endOf
  cases m with
  | nil => rfl
  | cons b m =>
    rw [if_pos ⟨rfl, by simp⟩]
    have h : ((((b :: m).length : Nat) : Int) == 0) = false := beq_eq_false_iff_ne.2 (by simp; omega)
    rw [h]
    rfl
set_option maxHeartbeats 800000 in
theorem backLaw_any (n : Nat) (width : Int) (A0 : Option Addr) (l0 : List (BitVec 8)) (cap0 : Nat) (w : World) (hb0 : Hid (Bytes w A0 l0)) (hn : n < 18446744073709551616) :
    Calls Try.prog 8 #[.int .u64 n, .int .i64 width, .slice A0 l0.length cap0] w fun e w' => e = .returned (.bool true) ∧ Below w.heap.size w w' := by
  by_cases hl : 200 < l0.length
  · have g1 : (200 : Int) < (l0.length : Int) := by omega
    go_enter Try.func8, Try.ntmps8
    go_wp2_with (go_at_call 10; refine (awake_any _).mono ?_; rintro e w1 ⟨rfl, hd1⟩)
    go_ret
    exact ⟨rfl, hd1⟩
  · have g1 : decide (200 < (l0.length : Int)) = false := decide_eq_false (by omega)
    have hk := hw_bd width
    have HP := Kit.hid (fun w => putnil_any n n width w hn rfl)
    have hnum := num_dig (hw width) n
    have hlen := dig_length (hw width) n
    have HT := Kit.hid (fun g A l cap e w => take_any g A l cap e width w)
    obtain ⟨k, hkk⟩ : ∃ k, k = hw width := ⟨_, rfl⟩
    rw [← hkk] at hk HP hnum hlen HT
    clear hkk
    obtain ⟨D, hD⟩ : ∃ D, D = dig n k := ⟨_, rfl⟩
    rw [← hD] at HP hnum hlen
    have hD8 : D.length ≤ 8 := by omega
    have HL := Kit.hid hlen
    have HRP := Kit.hid (rp_front D l0 k hlen)
    obtain ⟨L, hL⟩ : ∃ L, L = D ++ l0 := ⟨_, rfl⟩
    have hLl : L.length = k + l0.length := by rw [hL, List.length_append, hlen]
    rw [← hL] at HRP
    have HLL := Kit.hid hLl
    have HLA := Kit.hid hL
    have f1 : decide ((k : Int) < 1) = false := decide_eq_false (by omega)
    have f2 : decide ((8 : Int) < (k : Int)) = false := decide_eq_false (by omega)
    have f3 := end_beq l0
    obtain ⟨x, hx, hx2⟩ : ∃ x : Nat, num D = x ∧ (k < 8 → IntKind.u64.wrap ((2 : Int) ^ (8 * k)) = ((256 ^ k : Nat) : Int)) ∧ x = n % 256 ^ k := ⟨_, rfl, shl8 k, hnum⟩
    have HX := Kit.hid hx
    clear hL hLl hD hlen hnum hx
    go_enter Try.func8, Try.ntmps8
    by_cases h8 : k < 8
    · have hsh := hx2.1 h8
      have hx3 := hx2.2
      have hP0 : 0 < 256 ^ k := Nat.pow_pos (by decide)
      obtain ⟨P, hP⟩ : ∃ P, P = 256 ^ k := ⟨_, rfl⟩
      rw [← hP] at hsh hx3 hP0
      have hP1 : ((P : Int) == 0) = false := beq_eq_false_iff_ne.2 (by omega)
      have hnm : (n : Int) % (P : Int) = (x : Int) := by rw [hx3]; simp
      have h8i : decide ((k : Int) < 8) = true := decide_eq_true (by omega)
      clear hP hx3 hx2
      go_wp2_with (first
        | (go_at_call 10; refine (awake_any _).mono ?_; rintro e w1 ⟨rfl, hd1⟩; have hsz1 := hd1.size)
        | (go_at_call 13; (with_reducible refine (HP.out _).mono ?_); rintro e w2 ⟨A2, c2, rfl, hB2, hc2, hf2, _, hd2⟩
           have hd12 := hd1.trans (hd2.mono hsz1)
           have hsz2 := hd12.size
           have hB02 := bytes_below hb0 hd12
           have hown2 := World.ownsRow_lit (base := w2.heap.size) (e := 5) (size := 1) w2 #[] 0 (Nat.le_refl _) (by decide) rfl
           rw [HL.out])
        | (at_builtin; (refine wpList_append_src rfl _ _ 22 rfl w2.heap.size 5 (.int .u8 0) 1 Try.underlying22 infoB rfl _ 0 _ rfl hown2 A2 k c2 (D.map byteV) rfl (by have := HL.out; simp; omega) (cells_of_bytes (bytes_below hB2 ((Below.refl _ _).alloc (Nat.le_refl _) _))) (one_byteV _) (by unfold maxLen; omega) (by omega) (by simp) ?_)
           intro v3 w3 hown3 hg3 _
           have hd3 := below_own ((Below.refl _ _).alloc (Nat.le_refl _) _) hown2 hg3 (by simp)
           have hsz3 := hd3.size
           rw [Nat.zero_add] at hown3
           have hB03 := bytes_below hB02 hd3)
        | (at_builtin; (refine wpList_append_src rfl _ _ 22 rfl w2.heap.size 5 (.int .u8 0) 1 Try.underlying22 infoB rfl _ _ _ rfl hown3 A0 l0.length cap0 (l0.map byteV) rfl (by simp) (cells_of_bytes hB03) (one_byteV _) (by unfold maxLen; omega) (by omega) hsz3 ?_)
           intro v4 w4 hown4 hg4 _
           have hd4 := below_own hd3 hown3 hg4 hsz3
           have hd14 := hd12.trans (hd4.mono hsz2)
           have hsz4 := hd14.size
           obtain ⟨A4, cap4, rfl, hc4, _, _⟩ := own_reads hown4
           have hB4 := bytes_of_cells (l := L) (by rw [HLA.out, List.map_append]; simpa using hc4)
           have HN := Kit.hid (new_any A4 L cap4 w4 hB4 (by have := HLL.out; omega))
           rw [HLL.out] at HN)
        | (go_at_call 17; refine HN.out.mono ?_; rintro e w5 ⟨g, A5, cap5, rfl, hg5, hA5, hR5, hd5⟩
           have hd15 := hd14.trans (hd5.mono hsz4)
           have HTK := Kit.hid (HT.out g A5 L cap5 0 w5 hR5 (by have := HLL.out; omega))
           rw [HRP.out] at HTK)
        | (go_at_call 18; refine HTK.out.mono ?_; rintro e w6 ⟨A6, cap6, rfl, hR6, hg6⟩
           have hd6 := hd15.grown hg6 hd15.size (fun k hk => by cases hk; omega)
           have HR6 := Kit.hid hR6
           rw [HX.out])
        | (go_at_call 23; refine (left_any g A6 l0 cap6 0 _ HR6).mono ?_; rintro e w7 ⟨rfl, rfl⟩)
        | (go_at_call 24; refine (fail_any g A6 l0 cap6 0 _ HR6).mono ?_; rintro e w7 ⟨rfl, rfl⟩)
        | (go_at_call 19; refine (end_any g A6 l0 cap6 0 _ HR6).mono ?_; rintro e w7 ⟨rfl, rfl⟩))
      go_ret
      exact ⟨rfl, hd6⟩
    · have hxn : x = n := by
        rw [hx2.2]
        obtain rfl : k = 8 := by omega
        simp only [Nat.reducePow]
        omega
      subst hxn
      have h8i : decide ((k : Int) < 8) = false := decide_eq_false (by omega)
      clear hx2
      go_wp2_with (first
        | (go_at_call 10; refine (awake_any _).mono ?_; rintro e w1 ⟨rfl, hd1⟩; have hsz1 := hd1.size)
        | (go_at_call 13; (with_reducible refine (HP.out _).mono ?_); rintro e w2 ⟨A2, c2, rfl, hB2, hc2, hf2, _, hd2⟩
           have hd12 := hd1.trans (hd2.mono hsz1)
           have hsz2 := hd12.size
           have hB02 := bytes_below hb0 hd12
           have hown2 := World.ownsRow_lit (base := w2.heap.size) (e := 5) (size := 1) w2 #[] 0 (Nat.le_refl _) (by decide) rfl
           rw [HL.out])
        | (at_builtin; (refine wpList_append_src rfl _ _ 22 rfl w2.heap.size 5 (.int .u8 0) 1 Try.underlying22 infoB rfl _ 0 _ rfl hown2 A2 k c2 (D.map byteV) rfl (by have := HL.out; simp; omega) (cells_of_bytes (bytes_below hB2 ((Below.refl _ _).alloc (Nat.le_refl _) _))) (one_byteV _) (by unfold maxLen; omega) (by omega) (by simp) ?_)
           intro v3 w3 hown3 hg3 _
           have hd3 := below_own ((Below.refl _ _).alloc (Nat.le_refl _) _) hown2 hg3 (by simp)
           have hsz3 := hd3.size
           rw [Nat.zero_add] at hown3
           have hB03 := bytes_below hB02 hd3)
        | (at_builtin; (refine wpList_append_src rfl _ _ 22 rfl w2.heap.size 5 (.int .u8 0) 1 Try.underlying22 infoB rfl _ _ _ rfl hown3 A0 l0.length cap0 (l0.map byteV) rfl (by simp) (cells_of_bytes hB03) (one_byteV _) (by unfold maxLen; omega) (by omega) hsz3 ?_)
           intro v4 w4 hown4 hg4 _
           have hd4 := below_own hd3 hown3 hg4 hsz3
           have hd14 := hd12.trans (hd4.mono hsz2)
           have hsz4 := hd14.size
           obtain ⟨A4, cap4, rfl, hc4, _, _⟩ := own_reads hown4
           have hB4 := bytes_of_cells (l := L) (by rw [HLA.out, List.map_append]; simpa using hc4)
           have HN := Kit.hid (new_any A4 L cap4 w4 hB4 (by have := HLL.out; omega))
           rw [HLL.out] at HN)
        | (go_at_call 17; refine HN.out.mono ?_; rintro e w5 ⟨g, A5, cap5, rfl, hg5, hA5, hR5, hd5⟩
           have hd15 := hd14.trans (hd5.mono hsz4)
           have HTK := Kit.hid (HT.out g A5 L cap5 0 w5 hR5 (by have := HLL.out; omega))
           rw [HRP.out] at HTK)
        | (go_at_call 18; refine HTK.out.mono ?_; rintro e w6 ⟨A6, cap6, rfl, hR6, hg6⟩
           have hd6 := hd15.grown hg6 hd15.size (fun k hk => by cases hk; omega)
           have HR6 := Kit.hid hR6
           rw [HX.out])
        | (go_at_call 23; refine (left_any g A6 l0 cap6 0 _ HR6).mono ?_; rintro e w7 ⟨rfl, rfl⟩)
        | (go_at_call 24; refine (fail_any g A6 l0 cap6 0 _ HR6).mono ?_; rintro e w7 ⟨rfl, rfl⟩)
        | (go_at_call 19; refine (end_any g A6 l0 cap6 0 _ HR6).mono ?_; rintro e w7 ⟨rfl, rfl⟩))
      go_ret
      exact ⟨rfl, hd6⟩
end Go.Proofs.Ytpgfjiglkmpnaaa.Le

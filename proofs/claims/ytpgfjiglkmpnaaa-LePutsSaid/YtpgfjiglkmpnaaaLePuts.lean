/- The law LePuts. -/
import Derived.Test.YtpgfjiglkmpnaaaLeF
namespace Go.Proofs.Ytpgfjiglkmpnaaa.Le
open Go.RowKit Go.Proofs.Ytpgfjiglkmpnaaa.Kit Go.Proofs.Ytpgfjiglkmpnaaa.LeM
set_option linter.unusedVariables false
set_option linter.unusedSimpArgs false
set_option maxHeartbeats 800000 in
theorem putsLaw_any (A0 : Option Addr) (l0 : List (BitVec 8)) (cap0 : Nat) (n : Nat) (width : Int) (w : World) (hb0 : Hid (Bytes w A0 l0)) (hn : n < 18446744073709551616) :
    Calls Try.prog 3 #[.slice A0 l0.length cap0, .int .u64 n, .int .i64 width] w fun e w' => e = .returned (.bool true) ∧ Below w.heap.size w w' := by
  by_cases hl : 200 < l0.length
  · have g1 : (200 : Int) < (l0.length : Int) := by omega
    go_enter Try.func3, Try.ntmps3
    go_wp2_with (go_at_call 10; refine (awake_any _).mono ?_; rintro e w1 ⟨rfl, hd1⟩)
    go_ret
    exact ⟨rfl, hd1⟩
  · have g1 : ¬ (200 : Int) < (l0.length : Int) := by omega
    have hk := hw_bd width
    obtain ⟨D, hD⟩ : ∃ D, D = dig n (hw width) := ⟨_, rfl⟩
    have hDl : D.length ≤ 8 := by rw [hD, dig_length]; exact hk.2
    have HS := Kit.hid (sign_any n width)
    have HRS := Kit.hid (rsign_any n width)
    have HDG := Kit.hid (digits_any n width)
    have HPT := Kit.hid (fun (B : Nat) (v : Value) (w : World) => put_any B v l0 n width w)
    rw [← hD] at HDG HPT
    obtain ⟨sg, hsg⟩ : ∃ s, s = sgn n (hw width) := ⟨_, rfl⟩
    rw [← hsg] at HS HRS
    clear hD hsg
    go_enter Try.func3, Try.ntmps3
    go_wp2_with (first
      | (go_at_call 10; refine (awake_any _).mono ?_; rintro e w1 ⟨rfl, hd1⟩
         have hsz1 := hd1.size
         have hB01 := bytes_below hb0 hd1
         have hown1 := World.ownsRow_lit (base := w.heap.size) (e := 5) (size := 1) w1 #[] 0 hsz1 (by decide) rfl)
      | (at_builtin; (refine wpList_append_src rfl _ _ 22 rfl w.heap.size 5 (.int .u8 0) 1 Try.underlying22 infoB rfl _ 0 _ rfl hown1 A0 l0.length cap0 (l0.map byteV) rfl (by simp) (cells_of_bytes (bytes_below hB01 ((Below.refl _ _).alloc (Nat.le_refl _) _))) (one_byteV _) (by unfold maxLen; omega) (by omega) (by simp; omega) ?_)
         intro v2 w2 hown2 hg2 _
         have hd2 := below_own (hd1.alloc hsz1 _) hown1 hg2 (by simp; omega)
         have hsz2 := hd2.size
         rw [Nat.zero_add] at hown2)
      | (go_at_call 11; refine (HDG.out _ hn).mono ?_; rintro e w3 ⟨v3, rfl, hown3, hd3⟩
         have hd13 := hd2.trans (hd3.mono hsz2)
         have hsz3 := hd13.size
         have hown23 := own_below hown2 hd3
         obtain ⟨A3, cap3, rfl, hc3, _, _⟩ := own_reads hown3)
      | (at_builtin; (refine wpList_append_src rfl _ _ 22 rfl w.heap.size 5 (.int .u8 0) 1 Try.underlying22 infoB rfl _ _ _ rfl hown23 A3 D.length cap3 (D.map byteV) rfl (by simp) hc3 (one_byteV _) (by unfold maxLen; omega) (by omega) hsz3 ?_)
         intro v4 w4 hown4 hg4 _
         have hd4 := below_own hd13 hown23 hg4 hsz3
         have hsz4 := hd4.size
         obtain ⟨A4, cap4, rfl, hc4, _, _⟩ := own_reads hown4
         have hB4 := bytes_of_cells (l := l0 ++ D) (by simpa using hc4)
         have hB04 := bytes_below hb0 hd4
         have hown5 := World.ownsRow_lit (base := w4.heap.size) (e := 5) (size := 1) w4 #[] 0 (Nat.le_refl _) (by decide) rfl)
      | (at_builtin; (refine wpList_append_if rfl _ _ 22 rfl w4.heap.size 5 (.int .u8 0) 1 Try.underlying22 infoB rfl _ 0 _ rfl hown5 A0 l0.length cap0 (l0.map byteV) rfl (by simp) (cells_of_bytes (bytes_below hB04 ((Below.refl _ _).alloc (Nat.le_refl _) _))) (one_byteV _) (by unfold maxLen; omega) (by omega) (by simp) ?_)
         intro v6 w6 hown6 hg6 _
         have hd6 := below_own ((Below.refl _ _).alloc (Nat.le_refl _) _) hown5 hg6 (by simp)
         have hsz6 := hd6.size
         rw [Nat.zero_add] at hown6)
      | (go_at_call 13; refine (HPT.out w4.heap.size v6 _ hown6 hsz6 (by omega) hn).mono ?_; rintro e w7 ⟨v7, rfl, hown7, hg7, _⟩
         have hd7 := below_own hd6 hown6 hg7 hsz6
         obtain ⟨A7, cap7, rfl, hc7, _, _⟩ := own_reads hown7
         have hB7 := bytes_of_cells (l := l0 ++ D) hc7
         have hB47 := bytes_below hB4 hd7
         have hd17 := hd4.trans (hd7.mono hsz4)
         have HSM := Kit.hid (same_any A7 (l0 ++ D) cap7 A4 (l0 ++ D) cap4 w7 hB7 hB47 (by simp; omega) (by simp; omega))
         rw [decide_eq_true (rfl : l0 ++ D = l0 ++ D)] at HSM
         simp only [List.length_append] at HSM)
      | (go_at_call 12; refine HSM.out.mono ?_; rintro e w8 ⟨rfl, n8, rfl⟩
         have hd8 := below_drewN hd17 n8)
      | (go_at_call 14; refine (HS.out _ hn).mono ?_; rintro e w9 ⟨rfl, rfl⟩)
      | (go_at_call 15; refine (HRS.out _ hn).mono ?_; rintro e w9 ⟨rfl, hd9⟩
         have hd10 := hd8.trans (hd9.mono hd8.size)))
    go_ret
    exact ⟨by simp, hd10⟩
end Go.Proofs.Ytpgfjiglkmpnaaa.Le

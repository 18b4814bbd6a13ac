/- The law LeStays. -/
import Derived.Test.YtpgfjiglkmpnaaaLeBack
namespace Go.Proofs.Ytpgfjiglkmpnaaa.Le
open Go.RowKit Go.Proofs.Ytpgfjiglkmpnaaa.Kit Go.Proofs.Ytpgfjiglkmpnaaa.LeM
set_option linter.unusedVariables false
set_option linter.unusedSimpArgs false
theorem rp_failed (l : List (BitVec 8)) (e many : Int) (he : e ≠ 0) : rp l e many = ([], l, e) := by
  unfold rp
  rw [if_pos he]
theorem end_failed (l : List (BitVec 8)) (e : Int) (he : e ≠ 0) : endOf l e = e := by
  unfold endOf
  rw [if_neg (by omega)]
/-- A part of a reader that is not the first one. -/
theorem part_failed (g : Nat) (A : Option Addr) (l : List (BitVec 8)) (cap : Nat) (e many : Int) (w : World) (h : RdAt w g A l cap e) (hl : l.length ≤ 140737488351232) (he : e ≠ 0) :
    Calls Try.prog 20 #[.pointer (some ⟨g, 0, none⟩), .int .i64 many] w (PartPost w g ([], l, e)) := by
  have h1 := part_any g A l cap e many w h hl
  rw [rp_failed l e many he] at h1
  exact h1
theorem take_failed (g : Nat) (A : Option Addr) (l : List (BitVec 8)) (cap : Nat) (e width : Int) (w : World) (h : RdAt w g A l cap e) (hl : l.length ≤ 140737488351232) (he : e ≠ 0) :
    Calls Try.prog 18 #[.pointer (some ⟨g, 0, none⟩), .int .i64 width] w (TakePost w g ([], l, e)) := by
  have h1 := take_any g A l cap e width w h hl
  rw [rp_failed l e _ he] at h1
  exact h1
set_option maxHeartbeats 800000 in
theorem stays_good (A0 : Option Addr) (l0 : List (BitVec 8)) (cap0 : Nat) (m : Nat) (A2 : Option Addr) (l2 : List Int) (cap2 : Nat) (w : World) (hb0 : Hid (Bytes w A0 l0)) (hl0 : l0.length ≤ 200) (hl2 : l2.length ≤ 50) (hc0 : l0.length ≤ cap0) (hm : m ≤ l0.length) :
    Calls Try.prog 9 #[.slice A0 l0.length cap0, .int .i64 m, .slice A2 l2.length cap2] w fun e w' => e = .returned (.bool true) ∧ Below w.heap.size w w' := by
  have g1 : decide (200 < (l0.length : Int)) = false := decide_eq_false (by omega)
  have g2 : decide (50 < (l2.length : Int)) = false := decide_eq_false (by omega)
  have g3 : decide ((0 : Int) ≤ (m : Int)) = true := decide_eq_true (by omega)
  have g4 : decide ((m : Int) ≤ (l0.length : Int)) = true := decide_eq_true (by omega)
  have g5 : (0 : Int) ≤ (m : Int) := by omega
  have hrp : rp l0 0 m = (l0.take m, l0.drop m, 0) := by
    unfold rp
    rw [if_neg (by simp), if_neg (by omega), if_neg (by omega)]
    simp
  have HRP := Kit.hid hrp
  have ht : (l0.take m).length = m := by rw [List.length_take]; omega
  have hd : (l0.drop m).length = l0.length - m := List.length_drop
  have HTL := Kit.hid ht
  have HDL := Kit.hid hd
  have f1 : (((l0.length - m : Nat) : Int) == (l0.length : Int) - (m : Int)) = true := beq_iff_eq.2 (by omega)
  have g6 : m ≤ cap0 := by omega
  clear hrp ht hd
  go_enter Try.func9, Try.ntmps9
  go_wp2_with (first
    | (go_at_call 10; refine (awake_any _).mono ?_; rintro e w1 ⟨rfl, hd1⟩
       have hsz1 := hd1.size
       have hB01 := bytes_below hb0 hd1)
    | (go_at_call 17; refine (new_any A0 l0 cap0 _ hB01 (by omega)).mono ?_; rintro e w5 ⟨g, A5, cap5, rfl, hg5, hA5, hR5, hd5⟩
       have hd15 := hd1.trans (hd5.mono hsz1)
       have hB05 := bytes_below hB01 hd5
       have HTK := Kit.hid (part_any g A5 l0 cap5 0 m w5 hR5 (by omega))
       rw [HRP.out] at HTK)
    | (go_at_call 20; refine HTK.out.mono ?_; rintro e w6 ⟨B6, c6, A6, cap6, rfl, hB6, hc6, hf6, hR6, hg6⟩
       have hd6 := hd15.grown hg6 hd15.size (fun k hk => by cases hk; omega)
       have HR6 := Kit.hid hR6
       have hB06 := bytes_take (bytes_below hb0 hd6) m
       have HSM := Kit.hid (fun n : Nat => same_any B6 (l0.take m) c6 A0 (l0.take m) cap0 (w6.drewN n) (bytes_below hB6 (below_drewN (Below.refl _ _) n)) (bytes_below hB06 (below_drewN (Below.refl _ _) n)) (by have := HTL.out; omega) (by have := HTL.out; omega))
       rw [decide_eq_true (rfl : l0.take m = l0.take m), HTL.out] at HSM
       rw [HTL.out])
    | (go_at_call 12; refine (HSM.out 0).mono ?_; rintro e w7 ⟨rfl, n7, rfl⟩
       have hb7 : Below w6.heap.size w6 ((w6.drewN 0).drewN n7) := below_drewN (below_drewN (Below.refl _ _) 0) n7
       have hd7 := hd6.trans (hb7.mono hd6.size)
       have HR7 := Kit.hid (rd_below HR6.out hb7))
    | (go_at_call 23; refine (left_any g A6 (l0.drop m) cap6 0 _ HR7).mono ?_; rintro e w8 ⟨rfl, rfl⟩; rw [HDL.out])
    | (go_at_call 24; refine (fail_any g A6 (l0.drop m) cap6 0 _ HR7).mono ?_; rintro e w8 ⟨rfl, rfl⟩))
  go_ret
  exact ⟨rfl, by simpa using hd7⟩
set_option maxHeartbeats 800000 in
theorem stays_neg (A0 : Option Addr) (l0 : List (BitVec 8)) (cap0 : Nat) (m : Int) (A2 : Option Addr) (l2 : List Int) (cap2 : Nat) (w : World) (hb0 : Hid (Bytes w A0 l0)) (hi2 : Hid (Ints .i64 w A2 l2)) (hl0 : l0.length ≤ 200) (hl2 : l2.length ≤ 50) (hc0 : l0.length ≤ cap0)
    (hm : m < 0) :
    Calls Try.prog 9 #[.slice A0 l0.length cap0, .int .i64 m, .slice A2 l2.length cap2] w fun e w' => e = .returned (.bool true) ∧ Below w.heap.size w w' := by
  have g1 : decide (200 < (l0.length : Int)) = false := decide_eq_false (by omega)
  have g2 : decide (50 < (l2.length : Int)) = false := decide_eq_false (by omega)
  have hrp : rp l0 0 m = ([], l0, 1) := by
    unfold rp
    rw [if_neg (by simp), if_pos hm]
  have HRP := Kit.hid hrp
  have HEN := Kit.hid (end_failed l0 1 (by decide))
  have g3 : decide ((0 : Int) ≤ m) = false := decide_eq_false (by omega)
  have g4 : decide (m < 0) = true := decide_eq_true hm
  clear hrp hm
  go_enter Try.func9, Try.ntmps9
  go_wp2_with (first
    | (go_at_call 10; refine (awake_any _).mono ?_; rintro e w1 ⟨rfl, hd1⟩
       have hsz1 := hd1.size
       have hB01 := bytes_below hb0 hd1)
    | (go_at_call 17; refine (new_any A0 l0 cap0 _ hB01 (by omega)).mono ?_; rintro e w5 ⟨g, A5, cap5, rfl, hg5, hA5, hR5, hd5⟩
       have hd15 := hd1.trans (hd5.mono hsz1)
       have hB05 := bytes_below hB01 hd5
       have HTK := Kit.hid (part_any g A5 l0 cap5 0 m w5 hR5 (by omega))
       rw [HRP.out] at HTK)
    | (go_at_call 20; refine HTK.out.mono ?_; rintro e w6 ⟨B6, c6, A6, cap6, rfl, hB6, hc6, hf6, hR6, hg6⟩
       have hd6 := hd15.grown hg6 hd15.size (fun k hk => by cases hk; omega)
       have HR6 := Kit.hid hR6
       have HG := Kit.hid (Nat.le_trans hsz1 hg5))
    | (go_at_call 24; refine (fail_any g A6 l0 cap6 1 _ HR6).mono ?_; rintro e w8 ⟨rfl, rfl⟩))
  go_loopw [11] (fun v11 wr => ∃ (i : Nat), i ≤ l2.length ∧ v11 = .int .i64 i ∧ Hid (∃ A cap, RdAt wr g A l0 cap 1) ∧ Hid (Below w.heap.size w wr)) (fun i _ => l2.length - (intOf i).toNat)
  case atStart => exact ⟨0, by omega, rfl, Kit.hid ⟨A6, cap6, HR6.out⟩, Kit.hid hd6⟩
  case round =>
    obtain ⟨i, hi, rfl, hr, hb⟩ := hrel
    by_cases hlt : i < l2.length
    · have hI := ints_below hi2 hb.out
      obtain ⟨ad, rfl, hcell⟩ := hI.out i hlt
      obtain ⟨A, cap, hR⟩ := hr.out
      have HT := Kit.hid (take_failed g A l0 cap 1 l2[i] wr hR (by omega) (by decide))
      have HIA := Kit.hid (fun w' (h : Below w.heap.size w w') => (ints_below hi2 h).out i hlt)
      go_wp2_with (first
        | (go_at_call 18; refine HT.out.mono ?_; rintro e w8 ⟨A8, cap8, rfl, hR8, hg8⟩
           have hd8 := hb.out.grown hg8 hb.out.size (fun k hk => by cases hk; exact HG.out)
           obtain ⟨ad', had, hcell8⟩ := HIA.out w8 hd8
           cases had
           have HP := Kit.hid (part_failed g A8 l0 cap8 1 l2[i] w8 hR8 (by omega) (by decide)))
        | (go_at_call 20; refine HP.out.mono ?_; rintro e w9 ⟨B9, c9, A9, cap9, rfl, hB9, hc9, hf9, hR9, hg9⟩
           have hd9 := hd8.grown hg9 hd8.size (fun k hk => by cases hk; exact HG.out)))
      go_roundw
      case rel => exact ⟨i + 1, by omega, by go_num, Kit.hid ⟨A9, cap9, hR9⟩, Kit.hid hd9⟩
      case measure => simp [intOf]; omega
    · obtain ⟨A, cap, hR⟩ := hr.out
      have HR := Kit.hid hR
      clear hR
      go_wp2_with (first
        | (go_at_call 23; refine (left_any g A l0 cap 1 _ HR).mono ?_; rintro e w8 ⟨rfl, rfl⟩)
        | (go_at_call 24; refine (fail_any g A l0 cap 1 _ HR).mono ?_; rintro e w8 ⟨rfl, rfl⟩)
        | (go_at_call 19; refine (end_any g A l0 cap 1 _ HR).mono ?_; rintro e w8 ⟨rfl, rfl⟩; rw [HEN.out]))
      go_ret
      exact ⟨rfl, hb.out⟩
set_option maxHeartbeats 800000 in
theorem stays_big (A0 : Option Addr) (l0 : List (BitVec 8)) (cap0 : Nat) (m : Int) (A2 : Option Addr) (l2 : List Int) (cap2 : Nat) (w : World) (hb0 : Hid (Bytes w A0 l0)) (hi2 : Hid (Ints .i64 w A2 l2)) (hl0 : l0.length ≤ 200) (hl2 : l2.length ≤ 50) (hc0 : l0.length ≤ cap0)
    (hm : (l0.length : Int) < m) :
    Calls Try.prog 9 #[.slice A0 l0.length cap0, .int .i64 m, .slice A2 l2.length cap2] w fun e w' => e = .returned (.bool true) ∧ Below w.heap.size w w' := by
  have g1 : decide (200 < (l0.length : Int)) = false := decide_eq_false (by omega)
  have g2 : decide (50 < (l2.length : Int)) = false := decide_eq_false (by omega)
  have hrp : rp l0 0 m = ([], l0, 2) := by
    unfold rp
    rw [if_neg (by simp), if_neg (by omega), if_pos hm]
  have HRP := Kit.hid hrp
  have HEN := Kit.hid (end_failed l0 2 (by decide))
  have g3 : decide ((0 : Int) ≤ m) = true := decide_eq_true (by omega)
  have g4 : decide (m < 0) = false := decide_eq_false (by omega)
  have g5 : decide (m ≤ (l0.length : Int)) = false := decide_eq_false (by omega)
  clear hrp hm
  go_enter Try.func9, Try.ntmps9
  go_wp2_with (first
    | (go_at_call 10; refine (awake_any _).mono ?_; rintro e w1 ⟨rfl, hd1⟩
       have hsz1 := hd1.size
       have hB01 := bytes_below hb0 hd1)
    | (go_at_call 17; refine (new_any A0 l0 cap0 _ hB01 (by omega)).mono ?_; rintro e w5 ⟨g, A5, cap5, rfl, hg5, hA5, hR5, hd5⟩
       have hd15 := hd1.trans (hd5.mono hsz1)
       have hB05 := bytes_below hB01 hd5
       have HTK := Kit.hid (part_any g A5 l0 cap5 0 m w5 hR5 (by omega))
       rw [HRP.out] at HTK)
    | (go_at_call 20; refine HTK.out.mono ?_; rintro e w6 ⟨B6, c6, A6, cap6, rfl, hB6, hc6, hf6, hR6, hg6⟩
       have hd6 := hd15.grown hg6 hd15.size (fun k hk => by cases hk; omega)
       have HR6 := Kit.hid hR6
       have HG := Kit.hid (Nat.le_trans hsz1 hg5))
    | (go_at_call 24; refine (fail_any g A6 l0 cap6 2 _ HR6).mono ?_; rintro e w8 ⟨rfl, rfl⟩))
  go_loopw [11] (fun v11 wr => ∃ (i : Nat), i ≤ l2.length ∧ v11 = .int .i64 i ∧ Hid (∃ A cap, RdAt wr g A l0 cap 2) ∧ Hid (Below w.heap.size w wr)) (fun i _ => l2.length - (intOf i).toNat)
  case atStart => exact ⟨0, by omega, rfl, Kit.hid ⟨A6, cap6, HR6.out⟩, Kit.hid hd6⟩
  case round =>
    obtain ⟨i, hi, rfl, hr, hb⟩ := hrel
    by_cases hlt : i < l2.length
    · have hI := ints_below hi2 hb.out
      obtain ⟨ad, rfl, hcell⟩ := hI.out i hlt
      obtain ⟨A, cap, hR⟩ := hr.out
      have HT := Kit.hid (take_failed g A l0 cap 2 l2[i] wr hR (by omega) (by decide))
      have HIA := Kit.hid (fun w' (h : Below w.heap.size w w') => (ints_below hi2 h).out i hlt)
      go_wp2_with (first
        | (go_at_call 18; refine HT.out.mono ?_; rintro e w8 ⟨A8, cap8, rfl, hR8, hg8⟩
           have hd8 := hb.out.grown hg8 hb.out.size (fun k hk => by cases hk; exact HG.out)
           obtain ⟨ad', had, hcell8⟩ := HIA.out w8 hd8
           cases had
           have HP := Kit.hid (part_failed g A8 l0 cap8 2 l2[i] w8 hR8 (by omega) (by decide)))
        | (go_at_call 20; refine HP.out.mono ?_; rintro e w9 ⟨B9, c9, A9, cap9, rfl, hB9, hc9, hf9, hR9, hg9⟩
           have hd9 := hd8.grown hg9 hd8.size (fun k hk => by cases hk; exact HG.out)))
      go_roundw
      case rel => exact ⟨i + 1, by omega, by go_num, Kit.hid ⟨A9, cap9, hR9⟩, Kit.hid hd9⟩
      case measure => simp [intOf]; omega
    · obtain ⟨A, cap, hR⟩ := hr.out
      have HR := Kit.hid hR
      clear hR
      go_wp2_with (first
        | (go_at_call 23; refine (left_any g A l0 cap 2 _ HR).mono ?_; rintro e w8 ⟨rfl, rfl⟩)
        | (go_at_call 24; refine (fail_any g A l0 cap 2 _ HR).mono ?_; rintro e w8 ⟨rfl, rfl⟩)
        | (go_at_call 19; refine (end_any g A l0 cap 2 _ HR).mono ?_; rintro e w8 ⟨rfl, rfl⟩; rw [HEN.out]))
      go_ret
      exact ⟨rfl, hb.out⟩
theorem staysLaw_any (A0 : Option Addr) (l0 : List (BitVec 8)) (cap0 : Nat) (m : Int) (A2 : Option Addr) (l2 : List Int) (cap2 : Nat) (w : World) (hb0 : Hid (Bytes w A0 l0)) (hi2 : Hid (Ints .i64 w A2 l2)) (hc0 : l0.length ≤ cap0) :
    Calls Try.prog 9 #[.slice A0 l0.length cap0, .int .i64 m, .slice A2 l2.length cap2] w fun e w' => e = .returned (.bool true) ∧ Below w.heap.size w w' := by
  by_cases h0 : 200 < l0.length
  · have g1 : decide (200 < (l0.length : Int)) = true := decide_eq_true (by omega)
    go_enter Try.func9, Try.ntmps9
    go_wp2_with (go_at_call 10; refine (awake_any _).mono ?_; rintro e w1 ⟨rfl, hd1⟩)
    go_ret
    exact ⟨rfl, hd1⟩
  · by_cases h2 : 50 < l2.length
    · have g1 : decide (200 < (l0.length : Int)) = false := decide_eq_false (by omega)
      have g2 : decide (50 < (l2.length : Int)) = true := decide_eq_true (by omega)
      go_enter Try.func9, Try.ntmps9
      go_wp2_with (go_at_call 10; refine (awake_any _).mono ?_; rintro e w1 ⟨rfl, hd1⟩)
      go_ret
      exact ⟨rfl, hd1⟩
    · by_cases hm : m < 0
      · exact stays_neg A0 l0 cap0 m A2 l2 cap2 w hb0 hi2 (by omega) (by omega) hc0 hm
      · by_cases hm2 : (l0.length : Int) < m
        · exact stays_big A0 l0 cap0 m A2 l2 cap2 w hb0 hi2 (by omega) (by omega) hc0 hm2
        · obtain ⟨k, rfl⟩ := Int.eq_ofNat_of_zero_le (show 0 ≤ m by omega)
          exact stays_good A0 l0 cap0 k A2 l2 cap2 w hb0 (by omega) (by omega) hc0 (by omega)
end Go.Proofs.Ytpgfjiglkmpnaaa.Le

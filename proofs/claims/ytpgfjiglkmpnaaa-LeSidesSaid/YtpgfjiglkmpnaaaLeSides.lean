/- The law LeSides. -/
import Derived.Test.YtpgfjiglkmpnaaaLeBack
import Derived.Deep.CutRange
import Derived.IntWalk
import Derived.Deep.RegionWith
import Derived.Deep.DeepCutAuto
namespace Go.Proofs.Ytpgfjiglkmpnaaa.Le
open Go.RowKit Go.IntWalk Go.Proofs.Ytpgfjiglkmpnaaa.Kit Go.Proofs.Ytpgfjiglkmpnaaa.LeM
set_option linter.unusedVariables false
set_option linter.unusedSimpArgs false
theorem hw_id (k : Nat) (h1 : 1 ≤ k) (h8 : k ≤ 8) : hw (k : Int) = k := by
  unfold hw
  rw [if_neg (by omega), if_neg (by omega)]
  simp
theorem sides_or (a p q : Nat) (h1 : 1 ≤ a) (h4 : a ≤ 4) (hp : p < 256 ^ a) (hq : p + 256 ^ a * q < 18446744073709551616) :
    IntKind.u64.wrap ((q : Int) * 2 ^ (8 * (a : Int)).toNat) = ((256 ^ a * q : Nat) : Int) ∧ Go.bits .or .u64 (p : Int) ((256 ^ a * q : Nat) : Int) = ((p + 256 ^ a * q : Nat) : Int) := by
  have hc : a = 1 ∨ a = 2 ∨ a = 3 ∨ a = 4 := by omega
  rcases hc with rfl | rfl | rfl | rfl
  · simp only [Nat.reducePow] at hp hq ⊢
    refine ⟨?_, ?_⟩
    · rw [wrap_u64, show ((2 : Int) ^ (8 * ((1 : Nat) : Int)).toNat) = 256 from by decide]; omega
    · rw [u64_or8 _ _ (by omega) (by omega) (by omega) (by omega) (by omega)]; omega
  · simp only [Nat.reducePow] at hp hq ⊢
    refine ⟨?_, ?_⟩
    · rw [wrap_u64, show ((2 : Int) ^ (8 * ((2 : Nat) : Int)).toNat) = 65536 from by decide]; omega
    · rw [u64_or16 _ _ (by omega) (by omega) (by omega) (by omega) (by omega)]; omega
  · simp only [Nat.reducePow] at hp hq ⊢
    refine ⟨?_, ?_⟩
    · rw [wrap_u64, show ((2 : Int) ^ (8 * ((3 : Nat) : Int)).toNat) = 16777216 from by decide]; omega
    · rw [u64_or24 _ _ (by omega) (by omega) (by omega) (by omega) (by omega)]; omega
  · simp only [Nat.reducePow] at hp hq ⊢
    refine ⟨?_, ?_⟩
    · rw [wrap_u64, show ((2 : Int) ^ (8 * ((4 : Nat) : Int)).toNat) = 4294967296 from by decide]; omega
    · rw [u64_or32 _ _ (by omega) (by omega) (by omega) (by omega) (by omega)]; omega
set_option maxHeartbeats 800000 in
theorem sidesLaw_any (n low high : Nat) (w : World) (hn : n < 18446744073709551616) (hlow : low < 256) (hhigh : high < 256) :
    Calls Try.prog 6 #[.int .u64 n, .int .u8 low, .int .u8 high] w fun e w' => e = .returned (.bool true) ∧ Below w.heap.size w w' := by
  obtain ⟨a, ha, ha1, ha4⟩ : ∃ a : Nat, 1 + (low : Int) % 4 = (a : Int) ∧ 1 ≤ a ∧ a ≤ 4 := ⟨1 + low % 4, by omega, by omega, by omega⟩
  obtain ⟨b, hb, hb1, hb4⟩ : ∃ b : Nat, 1 + (high : Int) % 4 = (b : Int) ∧ 1 ≤ b ∧ b ≤ 4 := ⟨1 + high % 4, by omega, by omega, by omega⟩
  have HP1 : Hid (∀ w, Calls Try.prog 13 #[.slice none 0 0, .int .u64 n, .int .i64 ((a : Int) + (b : Int))] w (PutNil w (dig n (a + b)))) := by
    show ∀ w, _
    intro w
    have h := putnil_any n n ((a : Int) + (b : Int)) w hn rfl
    rw [show ((a : Int) + (b : Int)) = ((a + b : Nat) : Int) from by omega, hw_id (a + b) (by omega) (by omega)] at h
    exact h
  have HP2 : Hid (∀ w, Calls Try.prog 13 #[.slice none 0 0, .int .u64 n, .int .i64 a] w (PutNil w (dig n a))) := by
    show ∀ w, _
    intro w
    have h := putnil_any n n a w hn rfl
    rw [hw_id a (by omega) (by omega)] at h
    exact h
  have HP3 : Hid (∀ (B : Nat) (v : Value) (w : World), Hid (w.ownsRow B 5 1 v (dig n a).length ((dig n a).map byteV)) → B ≤ w.heap.size → Calls Try.prog 13 #[v, .int .u64 ((n : Int) / 2 ^ (8 * (a : Int)).toNat), .int .i64 b] w (PutPost B w v (dig n (a + b)))) := by
    show ∀ B v w, _
    intro B v w h1 h2
    have hlt : n / 256 ^ a < 18446744073709551616 := Nat.lt_of_le_of_lt (Nat.div_le_self _ _) hn
    have h := put_any B v (dig n a) (n / 256 ^ a) b w h1 h2 (by rw [dig_length]; omega) hlt
    rw [hw_id b (by omega) (by omega), ← dig_add] at h
    have e : ((n / 256 ^ a : Nat) : Int) = (n : Int) / 2 ^ (8 * (a : Int)).toNat := by
      rw [show (8 * (a : Int)).toNat = 8 * a from by omega]
      have e2 : (256 : Nat) ^ a = 2 ^ (8 * a) := by rw [Nat.pow_mul]
      rw [e2]
      simp
    rw [e] at h
    exact h
  clear hlow hhigh
  go_enter Try.func6, Try.ntmps6
  go_upto_region 5 with (first
    | (go_at_call 10; refine (awake_any _).mono ?_; rintro e w1 ⟨rfl, hd1⟩; have hsz1 := hd1.size)
    | (go_at_call 13; (with_reducible refine (HP1.out _).mono ?_); rintro e w2 ⟨A2, c2, rfl, hB2, hc2, hf2, _, hd2⟩
       have hd12 := hd1.trans (hd2.mono hsz1)
       have hsz2 := hd12.size))
  go_cut [11] (fun s11 wx => ∃ (B : Option Addr) (c : Nat), s11 = .slice B (dig n (a + b)).length c ∧ Hid (Bytes wx B (dig n (a + b))) ∧ Below w2.heap.size w2 wx)
  case first =>
    have hw8 : IntKind.i64.wrap (8 * (a : Int)) = 8 * (a : Int) := i64_in _ (by omega)
    go_region_with (first
      | (go_at_call 13; (with_reducible refine (HP2.out _).mono ?_); rintro e w3 ⟨A3, c3, rfl, hB3, hc3, hf3, hown3, hd3⟩)
      | (go_at_call 13; (refine (HP3.out w2.heap.size _ _ hown3 hd3.size).mono ?_); rintro e w4 ⟨v4, rfl, hown4, hg4, _⟩
         have hd3' : Below w2.heap.size w2 w3 := ⟨hd3.os, hd3.tape, hd3.output, hd3.size, hd3.block⟩
         have hd4 := below_own (B := w2.heap.size) (w0 := w2) hd3' hown3 hg4 hd3.size
         obtain ⟨A4, c4, rfl, hc4, _, _⟩ := own_reads hown4))
    all_goals
      go_wp2_with fail
      go_meet
      exact ⟨A4, c4, rfl, bytes_of_cells hc4, hd4⟩
  case rest =>
    obtain ⟨B, c, rfl, hB, hdc⟩ := hcut
    have hszc := hdc.size
    have hB2c := bytes_below hB2 hdc
    obtain ⟨X, hX⟩ : ∃ X, X = dig n (a + b) := ⟨_, rfl⟩
    have hXl : X.length = a + b := by rw [hX, dig_length]
    have hX2 : X = dig n a ++ dig (n / 256 ^ a) b := by rw [hX, dig_add]
    obtain ⟨D1, hD1⟩ : ∃ D, D = dig n a := ⟨_, rfl⟩
    obtain ⟨D2, hD2⟩ : ∃ D, D = dig (n / 256 ^ a) b := ⟨_, rfl⟩
    rw [← hD1, ← hD2] at hX2
    have hl1 : D1.length = a := by rw [hD1, dig_length]
    have hl2 : D2.length = b := by rw [hD2, dig_length]
    have hr1 : rp X 0 (hw (a : Int)) = (D1, D2, 0) := by rw [hw_id a (by omega) (by omega), hX2]; exact rp_front D1 D2 a hl1
    have hr2 : rp D2 0 (hw (b : Int)) = (D2, [], 0) := by
      rw [hw_id b (by omega) (by omega)]
      have h := rp_front D2 [] b hl2
      rw [List.append_nil] at h
      exact h
    have hN : num X = num D1 + 256 ^ a * num D2 := by rw [hX2, num_append, hl1]
    have hp : num D1 < 256 ^ a := by rw [← hl1]; exact num_lt _
    have hNl : num X < 18446744073709551616 := by
      have h := num_lt X
      rw [hXl] at h
      have h2 := Nat.pow_le_pow_right (n := 256) (by decide) (show a + b ≤ 8 by omega)
      omega
    have hor := sides_or a (num D1) (num D2) ha1 ha4 hp (by omega)
    rw [← hN] at hor
    rw [← hX] at hB2 hB2c hB hc2
    have HXL := Kit.hid hXl
    have HR1 := Kit.hid hr1
    have HR2 := Kit.hid hr2
    have HL2 := Kit.hid hl2
    obtain ⟨p, hpp⟩ : ∃ p, p = num D1 := ⟨_, rfl⟩
    obtain ⟨q, hqq⟩ : ∃ q, q = num D2 := ⟨_, rfl⟩
    obtain ⟨Q, hQQ⟩ : ∃ Q, Q = 256 ^ a * num D2 := ⟨_, rfl⟩
    obtain ⟨N, hNN⟩ : ∃ N, N = num X := ⟨_, rfl⟩
    rw [← hQQ, ← hpp, ← hNN, ← hqq] at hor
    have HPP := Kit.hid hpp
    have HQQ := Kit.hid hqq
    have HNN := Kit.hid hNN
    obtain ⟨hshl, hor⟩ := hor
    have hw8 : IntKind.i64.wrap (8 * (a : Int)) = 8 * (a : Int) := i64_in _ (by omega)
    have HN8 := Kit.hid (new_any A2 X c2 wc hB2c (by omega))
    rw [← hX, HXL.out]
    rw [HXL.out] at HN8
    clear hN hNl hp hpp hqq hQQ hNN hl1 hl2 hr1 hr2 hX2 hD1 hD2 hX hXl
    go_upto_region 11 with (first
      | (go_at_call 17; refine HN8.out.mono ?_; rintro e w5 ⟨g, A5, cap5, rfl, hg5, hA5, hR5, hd5⟩
         have hd25 := hdc.trans (hd5.mono hszc)
         have HT5 := Kit.hid (take_any g A5 X cap5 0 (a : Int) w5 hR5 (by have := HXL.out; omega))
         rw [HR1.out] at HT5)
      | (go_at_call 18; (with_reducible refine HT5.out.mono ?_); rintro e w6 ⟨A6, cap6, rfl, hR6, hg6⟩
         have hd6 := hd5.grown hg6 hd5.size (fun k hk => by cases hk; exact hg5)
         have hd26 := hd25.grown hg6 hd25.size (fun k hk => by cases hk; omega)
         have HT6 := Kit.hid (take_any g A6 D2 cap6 0 (b : Int) w6 hR6 (by have := HL2.out; omega))
         rw [HR2.out] at HT6
         rw [← HPP.out])
      | (go_at_call 18; (with_reducible refine HT6.out.mono ?_); rintro e w7 ⟨A7, cap7, rfl, hR7, hg7⟩
         have hd7 := hd6.grown hg7 hd6.size (fun k hk => by cases hk; exact hg5)
         have hd27 := hd26.grown hg7 hd26.size (fun k hk => by cases hk; omega)
         rw [← HQQ.out]))
    have hB7 := bytes_below hB hd7
    have hA7 := bytes_below hB2 hd27
    have CS : Hid (∀ n : Nat, Calls Try.prog 12 #[.slice A2 (a + b) c2, .slice B (a + b) c] (w7.drewN n) fun e w'' => e = .returned (.bool true) ∧ ∃ m, w'' = w7.drewN m) := by
      show ∀ n, _
      intro n
      have h := same_any A2 X c2 B X c (w7.drewN n) (bytes_below hA7 (below_drewN (Below.refl _ _) n)) (bytes_below hB7 (below_drewN (Below.refl _ _) n)) (by have := HXL.out; omega) (by have := HXL.out; omega)
      rw [HXL.out, decide_eq_true (rfl : X = X)] at h
      refine h.mono ?_
      rintro e w' ⟨rfl, k, rfl⟩
      exact ⟨rfl, n + k, by simp⟩
    have CE : Hid (∀ n : Nat, Calls Try.prog 19 #[.pointer (some ⟨g, 0, none⟩)] (w7.drewN n) fun e w' => e = .returned (.int .i64 0) ∧ w7.drewN n = w') := by
      show ∀ n, _
      intro n
      exact end_any g A7 [] cap7 0 (w7.drewN n) (rd_below hR7 (below_drewN (Below.refl _ _) n))
    have CN : Hid (∀ n : Nat, Calls Try.prog 16 #[.slice A2 (a + b) c2] (w7.drewN n) fun e w' => e = .returned (.int .u64 N) ∧ w7.drewN n = w') := by
      show ∀ n, _
      intro n
      have h := number_any A2 X c2 (w7.drewN n) (bytes_below hA7 (below_drewN (Below.refl _ _) n)) (by have := HXL.out; omega)
      rw [HXL.out, ← HNN.out] at h
      exact h
    have hfin := Kit.hid (hd12.trans (hd27.mono hsz2))
    go_quiet (first
      | (go_at_call 12; exact CS.out _)
      | (go_at_call 19; exact quiet_left (CE.out _))
      | (go_at_call 16; exact quiet_left (CN.out _)))
    go_wp2_with fail
    go_ret
    exact ⟨rfl, below_drewN hfin.out _⟩
end Go.Proofs.Ytpgfjiglkmpnaaa.Le

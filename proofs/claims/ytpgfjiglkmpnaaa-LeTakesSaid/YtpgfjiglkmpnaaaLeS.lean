/- The walks of le.Sign and of the document's answer for le: digits, what bytes tell, whether they are the same. -/
import Derived.Test.YtpgfjiglkmpnaaaLe
namespace Go.Proofs.Ytpgfjiglkmpnaaa.Le
open Go.RowKit Go.Proofs.Ytpgfjiglkmpnaaa.Kit Go.Proofs.Ytpgfjiglkmpnaaa.LeM
set_option linter.unusedVariables false
set_option linter.unusedSimpArgs false
theorem ret_int {k : IntKind} {a b : Int} (h : a = b) : Ending.returned (.int k a) = .returned (.int k b) := by rw [h]
theorem take_snoc {α : Type} {l : List α} {i : Nat} (h : i < l.length) : l.take (i + 1) = l.take i ++ [l[i]] := by
  rw [List.take_succ_eq_append_getElem h]
theorem wrap_u64 (n : Int) : IntKind.u64.wrap n = n % 18446744073709551616 := by simp [IntKind.wrap, IntKind.bits, IntKind.signed]
/-- The length in a slot: for a measure. -/
def lenV : Value → Nat | .slice _ n _ => n | _ => 0
theorem hw_cases (w : Int) : hw w = 1 ∨ hw w = 2 ∨ hw w = 3 ∨ hw w = 4 ∨ hw w = 5 ∨ hw w = 6 ∨ hw w = 7 ∨ hw w = 8 := by
  have := hw_bd w
  omega
set_option maxHeartbeats 400000 in
theorem sign_any (n : Nat) (width : Int) (w : World) (hn : n < 18446744073709551616) :
    Calls Try.prog 14 #[.int .u64 n, .int .i64 width] w fun e w' => e = .returned (.int .i64 (sgn n (hw width))) ∧ w = w' := by
  rcases hw_cases width with h | h | h | h | h | h | h | h
  all_goals
    have HC := Kit.hid (held_any width w)
    rw [h] at HC ⊢
    clear h
    go_enter Try.func14, Try.ntmps14
    go_wp2_with (go_at_call 27; refine HC.out.mono ?_; rintro e w' ⟨rfl, rfl⟩)
    go_ret
    refine ⟨ret_int ?_, rfl⟩
    unfold sgn
    simp only [Nat.reducePow]
    (try rw [wrap_u64])
    (try unfold wrap64)
    split <;> omega
set_option maxHeartbeats 400000 in
theorem rwidth_any (width : Int) (w : World) :
    Calls Try.prog 26 #[.int .i64 width] w fun e w' => e = .returned (.int .i64 (hw width)) ∧ w = w' := by
  obtain ⟨a, ha⟩ : ∃ a, (if 8 < width then 8 else width) = a := ⟨_, rfl⟩
  have hb : (if 1 < a then a else 1) = (hw width : Int) := by
    rw [← ha]
    unfold hw
    repeat' split
    all_goals omega
  go_enter Try.func26, Try.ntmps26
  go_wp2
  go_ret
  exact ⟨rfl, rfl⟩
theorem dig_snoc : ∀ (w n : Nat), dig n (w + 1) = dig n w ++ [BitVec.ofNat 8 (n / 256 ^ w)] := by
  intro w n
  rw [dig_add w 1 n]
  rfl
/-- What digits leave: a row of the call's own. -/
def DigPost (w : World) (l : List (BitVec 8)) (e : Ending) (w' : World) : Prop :=
  ∃ v', e = .returned v' ∧ w'.ownsRow w.heap.size 5 1 v' l.length (l.map byteV) ∧ Below w.heap.size w w'
set_option maxHeartbeats 400000 in
theorem digits_any (n : Nat) (width : Int) (w : World) (hn : n < 18446744073709551616) :
    Calls Try.prog 11 #[.int .u64 n, .int .i64 width] w (DigPost w (dig n (hw width))) := by
  have hk := hw_bd width
  have HC := Kit.hid (rwidth_any width)
  obtain ⟨k, hkk⟩ : ∃ k, k = hw width := ⟨_, rfl⟩
  rw [← hkk] at hk HC ⊢
  clear hkk
  have HP : Hid (∀ (e : Ending) (w' : World) (l' : List (BitVec 8)) (v' : Value), l' = dig n k → e = .returned v' → w'.ownsRow w.heap.size 5 1 v' l'.length (l'.map byteV) → Below w.heap.size w w' → DigPost w (dig n k) e w') := by
    show ∀ _ _ _ _, _
    intro e w' l' v' h1 h2 h3 h4
    rw [← h1]
    exact ⟨v', h2, h3, h4⟩
  go_enter Try.func11, Try.ntmps11
  go_wp2
  go_loopw [0, 5, 6] (fun v0 v5 v6 wr => ∃ (i m : Nat) (v' : Value), i ≤ k ∧ v6 = .int .i64 i ∧ v0 = .int .u64 m ∧ v5 = v' ∧ m < 18446744073709551616 ∧ Hid (m = n / 256 ^ i) ∧ Hid (wr.ownsRow w.heap.size 5 1 v' i ((dig n i).map byteV)) ∧ Hid (Below w.heap.size w wr)) (fun _ _ i _ => k - (intOf i).toNat)
  case atStart => exact ⟨0, n, .slice none 0 0, by omega, rfl, rfl, rfl, hn, Kit.hid (by simp), Kit.hid (World.ownsRow_nil _ _ _ _), Kit.hid (Below.refl _ _)⟩
  case round =>
    obtain ⟨i, m, v', hi, rfl, rfl, rfl, hm, hmm, ho, hb⟩ := hrel
    by_cases hlt : i < k
    · obtain ⟨b, hbb⟩ : ∃ b, b = BitVec.ofNat 8 m := ⟨_, rfl⟩
      have e1 : (m : Int) % 256 = (b.toNat : Int) := by
        rw [hbb, BitVec.toNat_ofNat]
        omega
      obtain ⟨q, hq⟩ : ∃ q, q = m / 256 := ⟨_, rfl⟩
      have e2 : (m : Int) / 256 = (q : Int) := by omega
      have hq2 : q < 18446744073709551616 := by omega
      have bb := b.isLt
      have HD : Hid (dig n (i + 1) = dig n i ++ [b]) := by
        show _ = _
        rw [dig_snoc, hbb, hmm.out]
      have HQ : Hid (q = n / 256 ^ (i + 1)) := by
        show _ = _
        rw [hq, hmm.out, Nat.div_div_eq_div_mul, Nat.pow_succ]
      clear hbb hq hmm
      have hown0 := ho.out.alloc (.cells #[.int .u8 (b.toNat : Int)] 5)
      have hnew : Cells (wr.alloc (.cells #[.int .u8 (b.toNat : Int)] 5)) (some ⟨wr.heap.size, 0, none⟩) [byteV b] := by
        intro i hi
        obtain rfl : i = 0 := by simpa using hi
        exact ⟨_, rfl, (blk_cell (blk_new wr (.cells #[.int .u8 (b.toNat : Int)] 5)) 0).trans rfl⟩
      have hBw : w.heap.size ≤ wr.heap.size := hb.out.size
      go_wp2_with (first
        | (go_at_call 26; refine (HC.out _).mono ?_; rintro e w' ⟨rfl, rfl⟩)
        | (at_builtin; refine wpList_append_src rfl _ _ 22 rfl w.heap.size 5 (.int .u8 0) 1 Try.underlying22 infoB rfl _ _ _ rfl hown0 (some ⟨wr.heap.size, 0, none⟩) 1 1 [byteV b] rfl rfl hnew (fun u hu => by simp at hu; subst hu; rfl) (by unfold maxLen; omega) (by omega) (by simp; omega) ?_
           intro v2 w2 hown2 hg2 hv2))
      go_roundw
      case rel =>
        refine ⟨i + 1, q, v2, by omega, by go_num, rfl, rfl, hq2, HQ, ?_, ?_⟩
        · rw [HD.out, List.map_append]
          exact Kit.hid hown2
        · exact Kit.hid (below_own (hb.out.alloc hBw _) hown0 hg2 (by simp; omega))
      case measure => simp [intOf]; omega
    · go_wp2_with (go_at_call 26; refine (HC.out _).mono ?_; rintro e w' ⟨rfl, rfl⟩)
      go_ret
      obtain rfl : i = k := by omega
      exact HP.out _ _ (dig n i) _ rfl rfl (by rw [dig_length]; exact ho.out) hb.out
set_option maxHeartbeats 400000 in
theorem number_any (A : Option Addr) (l : List (BitVec 8)) (cap : Nat) (w : World) (hb : Hid (Bytes w A l)) (hl : l.length ≤ 8) :
    Calls Try.prog 16 #[.slice A l.length cap] w fun e w' => e = .returned (.int .u64 (num l)) ∧ w = w' := by
  go_enter Try.func16, Try.ntmps16
  go_wp2
  go_loop [3, 4, 5] (fun v3 v4 v5 => ∃ (i m : Nat) (sc : Int), i ≤ l.length ∧ v5 = .int .i64 i ∧ v3 = .int .u64 m ∧ v4 = .int .u64 sc ∧ Hid (m = num (l.take i)) ∧ Hid (i < 8 → sc = ((256 ^ i : Nat) : Int))) (fun _ _ i => l.length - (intOf i).toNat)
  case atStart => exact ⟨0, 0, 1, by omega, rfl, rfl, rfl, Kit.hid rfl, Kit.hid (fun _ => rfl)⟩
  case round =>
    obtain ⟨i, m, sc, hi, rfl, rfl, rfl, hm, hsc⟩ := hrel
    by_cases hlt : i < l.length
    · obtain ⟨ad, rfl, hc⟩ := hb.out i hlt
      obtain ⟨b, hbb⟩ : ∃ b, b = l[i] := ⟨_, rfl⟩
      rw [← hbb] at hc
      have bb := b.isLt
      obtain ⟨s, hs⟩ : ∃ s, s = 256 ^ i := ⟨_, rfl⟩
      have h1 : sc = (s : Int) := by rw [hs]; exact hsc.out (by omega)
      subst h1
      have hmlt : m < s := by
        have h := num_lt (l.take i)
        rw [List.length_take, Nat.min_eq_left hi, ← hs, ← hm.out] at h
        exact h
      have hs2 : s ≤ 72057594037927936 := by
        rw [hs]
        have : i ≤ 7 := by omega
        have h := Nat.pow_le_pow_right (n := 256) (by decide) this
        exact h
      obtain ⟨p, hp⟩ : ∃ p, p = s * b.toNat := ⟨_, rfl⟩
      have hpp : (s : Int) * (b.toNat : Int) = (p : Int) := by rw [hp]; simp
      have hple : p ≤ s * 255 := by
        rw [hp]
        exact Nat.mul_le_mul_left _ (by omega)
      have hM : Hid (m + p = num (l.take (i + 1))) := by
        show _ = _
        rw [take_snoc hlt, num_append, List.length_take, Nat.min_eq_left hi, ← hm.out, hp, hs, ← hbb]
        simp [num]
      have hS : Hid (s * 256 = 256 ^ (i + 1)) := by
        show _ = _
        rw [hs, Nat.pow_succ]
      clear hbb hs hp hm hsc
      by_cases h7 : i < 7
      · have hs3 : s ≤ 281474976710656 := by
          have h := hS.out
          have h2 := Nat.pow_le_pow_right (n := 256) (by decide) (show i + 1 ≤ 7 by omega)
          omega
        go_wp2
        go_round
        case rel => exact ⟨i + 1, m + p, ((s * 256 : Nat) : Int), by omega, by go_num, by go_num, by go_num, hM, Kit.hid (fun _ => by rw [hS.out])⟩
        case measure => simp [intOf]; omega
      · go_wp2
        go_round
        case rel => exact ⟨i + 1, m + p, _, by omega, by go_num, by go_num, rfl, hM, Kit.hid (fun h => by omega)⟩
        case measure => simp [intOf]; omega
    · go_wp2
      go_ret
      refine ⟨?_, rfl⟩
      rw [hm.out, List.take_of_length_le (by omega)]
      rfl
set_option maxHeartbeats 800000 in
theorem rsign_any (n : Nat) (width : Int) (w : World) (hn : n < 18446744073709551616) :
    Calls Try.prog 15 #[.int .u64 n, .int .i64 width] w fun e w' => e = .returned (.int .i64 (sgn n (hw width))) ∧ Below w.heap.size w w' := by
  have hk := hw_bd width
  have HC := Kit.hid (digits_any n width w hn)
  obtain ⟨k, hkk⟩ : ∃ k, k = hw width := ⟨_, rfl⟩
  rw [← hkk] at hk HC ⊢
  clear hkk
  go_enter Try.func15, Try.ntmps15
  go_wp2_with fail
  refine HC.out.mono ?_
  rintro e w1 ⟨v1, rfl, hown, hb1⟩
  obtain ⟨A, cap, rfl, hc, hcap, hf⟩ := own_reads hown
  rw [dig_length] at hown hcap hf
  have hB := bytes_of_cells hc
  obtain ⟨ad, rfl, hlast⟩ := hB.out (k - 1) (by rw [dig_length]; omega)
  obtain ⟨h, hh⟩ : ∃ h, h = (dig n k)[k - 1]'(by rw [dig_length]; omega) := ⟨_, rfl⟩
  rw [← hh] at hlast
  have hh2 : h = BitVec.ofNat 8 (n / 256 ^ (k - 1)) := by
    rw [hh]
    have e : dig n k = dig n (k - 1) ++ [BitVec.ofNat 8 (n / 256 ^ (k - 1))] := by
      rw [← dig_snoc, Nat.sub_add_cancel hk.1]
    simp only [e]
    rw [List.getElem_append_right (by rw [dig_length]; exact Nat.le_refl _)]
    simp [dig_length]
  have HS := Kit.hid (sgn_pad n k hk.1 hk.2 h hh2)
  have hki : ((k : Int) - 1).toNat = k - 1 := by omega
  have hki1 : 0 ≤ (k : Int) - 1 := by omega
  have bh := h.isLt
  clear hh hh2 hB hc hf
  simp only [dig_length]
  have HO := Kit.hid hown
  clear hown
  go_wp2
  go_loopw [5] (fun v5 wr => ∃ (m : Nat) (A : Option Addr) (c : Nat), k ≤ m ∧ m ≤ 8 ∧ v5 = .slice A m c ∧ Hid (wr.ownsRow w.heap.size 5 1 (.slice A m c) m ((dig n k ++ List.replicate (m - k) (fill h)).map byteV)) ∧ Hid (Below w.heap.size w wr)) (fun v5 _ => 8 - lenV v5)
  case atStart => exact ⟨k, some ad, cap, Nat.le_refl _, hk.2, rfl, Kit.hid (by simpa using HO.out), Kit.hid hb1⟩
  case round =>
    obtain ⟨m, A, c, hm1, hm2, rfl, ho, hb⟩ := hrel
    by_cases hlt : m < 8
    · have hBw : w.heap.size ≤ wr.heap.size := hb.out.size
      have HR : Hid ((dig n k ++ List.replicate (m + 1 - k) (fill h)) = (dig n k ++ List.replicate (m - k) (fill h)) ++ [fill h]) := by
        show _ = _
        rw [show m + 1 - k = (m - k) + 1 from by omega, List.replicate_succ', List.append_assoc]
      by_cases hx : 128 ≤ h.toNat
      · have hfv : fill h = 255#8 := by unfold fill; rw [if_pos hx]
        have hx2 : (128 : Int) ≤ (h.toNat : Int) := by omega
        rw [hfv] at HR
        rw [hfv] at ho
        clear hfv hx
        have hown0 := ho.out.alloc (.cells #[.int .u8 255] 5)
        have hnew : Cells (wr.alloc (.cells #[.int .u8 255] 5)) (some ⟨wr.heap.size, 0, none⟩) [byteV 255#8] := by
          intro i hi
          obtain rfl : i = 0 := by simpa using hi
          exact ⟨_, rfl, (blk_cell (blk_new wr (.cells #[.int .u8 255] 5)) 0).trans rfl⟩
        go_wp2_with (at_builtin; refine wpList_append_src rfl _ _ 22 rfl w.heap.size 5 (.int .u8 0) 1 Try.underlying22 infoB rfl _ _ _ rfl hown0 (some ⟨wr.heap.size, 0, none⟩) 1 1 [byteV 255#8] rfl rfl hnew (fun u hu => by simp at hu; subst hu; rfl) (by unfold maxLen; omega) (by omega) (by simp; omega) ?_; intro v2 w2 hown2 hg2 hv2; obtain ⟨A2, c2, rfl, _, _, _⟩ := own_reads hown2)
        go_roundw
        case rel =>
          refine ⟨m + 1, A2, c2, by omega, by omega, rfl, ?_, Kit.hid (below_own (hb.out.alloc hBw _) hown0 hg2 (by simp; omega))⟩
          show World.ownsRow _ _ _ _ _ _ _
          have e : fill h = 255#8 := by unfold fill; rw [if_pos (by omega)]
          rw [e, HR.out, List.map_append]
          exact hown2
        case measure => simp [lenV]; omega
      · have hfv : fill h = 0#8 := by unfold fill; rw [if_neg hx]
        have hx2 : ¬ (128 : Int) ≤ (h.toNat : Int) := by omega
        rw [hfv] at HR
        rw [hfv] at ho
        clear hfv hx
        have hown0 := ho.out.alloc (.cells #[.int .u8 0] 5)
        have hnew : Cells (wr.alloc (.cells #[.int .u8 0] 5)) (some ⟨wr.heap.size, 0, none⟩) [byteV 0#8] := by
          intro i hi
          obtain rfl : i = 0 := by simpa using hi
          exact ⟨_, rfl, (blk_cell (blk_new wr (.cells #[.int .u8 0] 5)) 0).trans rfl⟩
        go_wp2_with (at_builtin; refine wpList_append_src rfl _ _ 22 rfl w.heap.size 5 (.int .u8 0) 1 Try.underlying22 infoB rfl _ _ _ rfl hown0 (some ⟨wr.heap.size, 0, none⟩) 1 1 [byteV 0#8] rfl rfl hnew (fun u hu => by simp at hu; subst hu; rfl) (by unfold maxLen; omega) (by omega) (by simp; omega) ?_; intro v2 w2 hown2 hg2 hv2; obtain ⟨A2, c2, rfl, _, _, _⟩ := own_reads hown2)
        go_roundw
        case rel =>
          refine ⟨m + 1, A2, c2, by omega, by omega, rfl, ?_, Kit.hid (below_own (hb.out.alloc hBw _) hown0 hg2 (by simp; omega))⟩
          show World.ownsRow _ _ _ _ _ _ _
          have e : fill h = 0#8 := by unfold fill; rw [if_neg (by omega)]
          rw [e, HR.out, List.map_append]
          exact hown2
        case measure => simp [lenV]; omega
    · obtain rfl : m = 8 := by omega
      obtain ⟨A', c', hv, hc, _⟩ := own_reads ho.out
      cases hv
      have hB := bytes_of_cells hc
      obtain ⟨L, hL⟩ : ∃ L, L = dig n k ++ List.replicate (8 - k) (fill h) := ⟨_, rfl⟩
      have hLl : L.length = 8 := by
        rw [hL, List.length_append, dig_length, List.length_replicate]
        omega
      rw [← hL] at hB HS
      have HN := Kit.hid (number_any A L c wr hB (by omega))
      rw [hLl] at HN
      obtain ⟨N, hN⟩ : ∃ N, N = num L := ⟨_, rfl⟩
      rw [← hN] at HN HS
      have hNlt := num_lt L
      rw [hLl, ← hN] at hNlt
      have HNl := Kit.hid hNlt
      clear hL hLl hN hNlt hB hc ho
      go_wp2_with (go_at_call 16; refine HN.out.mono ?_; rintro e w' ⟨rfl, rfl⟩)
      go_ret
      refine ⟨ret_int ?_, hb.out⟩
      have h1 := HS.out
      have h2 := HNl.out
      have h3 : n % 256 ^ k < 256 ^ k := Nat.mod_lt _ (Nat.pow_pos (by decide))
      have h4 : 256 ^ k ≤ 256 ^ 8 := Nat.pow_le_pow_right (by decide) hk.2
      unfold sgn
      (try unfold wrap64)
      simp only [Nat.reducePow] at h2 h4
      generalize 256 ^ k = P at *
      generalize n % P = M at *
      split at h1
      · rename_i hc
        rw [if_pos hc]
        omega
      · rename_i hc
        rw [if_neg hc]
        omega
end Go.Proofs.Ytpgfjiglkmpnaaa.Le

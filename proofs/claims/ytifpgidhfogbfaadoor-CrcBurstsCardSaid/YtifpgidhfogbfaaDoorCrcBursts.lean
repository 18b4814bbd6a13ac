/- The walk of CrcBursts: what differs within 32 bits in a row. -/
import Derived.Test.YtifpgidhfogbfaaDoorCrcThree
namespace Go.Proofs.YtifpgidhfogbfaaDoor.Crc
open Go.RowKit Go.Proofs.YtifpgidhfogbfaaDoor.Kit Go.Proofs.YtifpgidhfogbfaaDoor.CrcM
set_option linter.unusedVariables false
set_option linter.unusedSimpArgs false
theorem shl_nat (p : Nat) : ((1#8 <<< p).toNat : Int) = 2 ^ p % 256 := by
  rw [BitVec.toNat_shiftLeft, Nat.shiftLeft_eq]
  simp
theorem i64_in {n : Int} (h0 : -9223372036854775808 ≤ n) (h1 : n ≤ 9223372036854775807) : IntKind.i64.wrap n = n := by
  rw [IntKind.wrap_i64]; omega
/-- What holds of the text and of the bits that are others, behind i bits. -/
structure Burst (l : List (BitVec 8)) (k i : Nat) (X : List (BitVec 8)) (c : Bool) : Prop where
  len : X.length = l.length
  bits : ∃ v : BitVec 32, more 0#32 X = more 0#32 l ^^^ stepN (8 * l.length - k) v ∧ (∀ j, i ≤ j → v.getLsbD j = false) ∧ c = !decide (v = 0#32)
theorem Burst.start (l : List (BitVec 8)) (k : Nat) : Burst l k 0 l false :=
  ⟨rfl, 0#32, by rw [stepN_zero, BitVec.xor_zero], fun j _ => by simp, by simp⟩
theorem Burst.none {l : List (BitVec 8)} {k i : Nat} {X : List (BitVec 8)} {c : Bool} (h : Burst l k i X c) : Burst l k (i + 1) X c := by
  obtain ⟨h1, v, h2, h3, h4⟩ := h
  exact ⟨h1, v, h2, fun j hj => h3 j (by omega), h4⟩
theorem Burst.one {l : List (BitVec 8)} {k i : Nat} {X : List (BitVec 8)} {c : Bool} (h : Burst l k i X c) (hi : i < 32) (hk : k + i < 8 * l.length) {q p : Nat} (hq : q = (k + i) / 8) (hp : p = (k + i) % 8) (hX : q < X.length) :
    Burst l k (i + 1) (X.set q (X[q] ^^^ (1#8 <<< p))) true := by
  subst hq hp
  obtain ⟨h1, v, h2, h3, h4⟩ := h
  refine ⟨by simp [h1], v ^^^ (1#32 <<< i), ?_, ?_, ?_⟩
  · have hb := more_burst 0#32 X k i hi (by rw [h1]; exact hk)
    rw [hb, h2, h1, stepN_xor, BitVec.xor_assoc]
  · intro j hj
    rw [BitVec.getLsbD_xor, h3 j (by omega), BitVec.getLsbD_shiftLeft]
    have : ¬ j - i = 0 := by omega
    simp [this]
  · have hb : (v ^^^ (1#32 <<< i)).getLsbD i = true := by
      rw [BitVec.getLsbD_xor, h3 i (Nat.le_refl _), BitVec.getLsbD_shiftLeft]
      simp [hi]
    have hne : v ^^^ (1#32 <<< i) ≠ 0#32 := by
      intro h
      rw [h] at hb
      simp at hb
    simp [hne]
theorem Burst.fin {l : List (BitVec 8)} {k i : Nat} {X : List (BitVec 8)} {c : Bool} (h : Burst l k i X c) : (!decide (more 0#32 X = more 0#32 l)) = c := by
  obtain ⟨h1, v, h2, h3, h4⟩ := h
  rw [h4, h2]
  congr 1
  apply decide_eq_decide.2
  rw [xor_eq_self]
  exact ⟨fun h => stepN_eq_zero h, fun h => by rw [h, stepN_zero]⟩
set_option maxHeartbeats 800000 in
set_option maxRecDepth 100000 in
theorem bursts_any (A0 : Option Addr) (l0 : List (BitVec 8)) (cap0 : Nat) (a b0 : Int) (w : World) (hT : Hid (Tab w)) (hb0 : Hid (Bytes w A0 l0))
    (hl0 : 0 < l0.length) (hl1 : l0.length ≤ 300) (ha0 : 0 ≤ a) (ha1 : a ≤ 65535) (hb1 : 0 ≤ b0) (hb2 : b0 ≤ 4294967295) :
    Calls Tryd.prog 5 #[.slice A0 l0.length cap0, .int .u16 a, .int .u32 b0] w fun e w' => e = .returned (.bool true) ∧ Below w.heap.size w w' := by
  obtain ⟨k, hk⟩ := Int.eq_ofNat_of_zero_le (Int.emod_nonneg a (b := 8 * (l0.length : Int)) (by omega))
  have hkl : k < 8 * l0.length := by
    have := Int.emod_lt_of_pos a (b := 8 * (l0.length : Int)) (by omega)
    rw [hk] at this
    omega
  have g1 : ((l0.length : Int) == 0) = false := beq_eq_false_iff_ne.2 (by omega)
  go_enter Tryd.func5, Tryd.ntmps5
  go_wp2_with (first
    | (go_at_call 10; refine (awake_any _ hT).mono ?_; rintro e w1 ⟨rfl, hd1⟩
       have hT1 := tab_below hT hd1
       have hB0 := bytes_below hb0 hd1
       have hsz := hd1.size
       have hown0 := World.ownsRow_lit (base := w1.heap.size) (e := 5) (size := 1) w1 #[] 0 (Nat.le_refl _) (by decide) rfl)
    | (at_builtin; refine wpList_append_src rfl _ _ 22 rfl w1.heap.size 5 (.int .u8 0) 1 Tryd.underlying22 infoB rfl _ 0 _ rfl hown0 A0 l0.length cap0 (l0.map byteV) rfl (by simp) (cells_of_bytes (bytes_below hB0 ((Below.refl _ _).alloc (Nat.le_refl _) _))) (one_byteV _) (by unfold maxLen; omega) (by omega) (by simp) ?_
       intro v2 w2 hown2 hg2 _
       have hd2 := below_own ((Below.refl _ _).alloc (Nat.le_refl _) _) hown0 hg2 (by simp)
       rw [Nat.zero_add, List.nil_append] at hown2
       obtain ⟨g, cap2, rfl, hg, hgl, hcap⟩ := own_form hown2 hl0))
  clear hown0 hg2
  have HO := Kit.hid hown2
  have HD := Kit.hid hd2
  clear hown2 hd2 g1
  rw [hk]
  clear hk
  go_loopw [2, 10, 11] (fun v2 v10 v11 wr => ∃ (i : Nat) (b : Int) (c : Bool) (X : List (BitVec 8)), i ≤ 32 ∧ v11 = .int .i64 i ∧ v2 = .int .u32 b ∧ 0 ≤ b ∧ b ≤ 4294967295 ∧ v10 = .bool c ∧ Hid (Burst l0 k i X c) ∧
      Hid (wr.ownsRow w1.heap.size 5 1 (.slice (some ⟨g, 0, none⟩) l0.length cap2) l0.length (X.map byteV)) ∧ Hid (Below w1.heap.size w1 wr)) (fun _ _ i _ => 32 - (intOf i).toNat)
  case atStart => exact ⟨0, b0, false, l0, by omega, rfl, rfl, hb1, hb2, rfl, Burst.start l0 k, HO, HD⟩
  case round =>
    obtain ⟨i, b, c, X, hi, rfl, rfl, hb3, hb4, rfl, hX, ho, hb⟩ := hrel
    by_cases hlt : i < 32 ∧ k + i < 8 * l0.length
    · obtain ⟨hl1, hl2⟩ := hlt
      have hcond : (k : Int) + (i : Int) < 8 * (l0.length : Int) := by omega
      by_cases hodd : b % 2 = 1
      · have g2 : (b % 2 == 1) = true := by simp [hodd]
        have g5 : b / 2 ≤ 4294967295 := by omega
        have g6 : 0 ≤ b / 2 := by omega
        clear hodd
        obtain ⟨s, hs⟩ : ∃ s : Nat, s = k + i := ⟨_, rfl⟩
        have hs1 : (k : Int) + (i : Int) = (s : Int) := by omega
        rw [← hs] at hl2
        obtain ⟨q, hq⟩ : ∃ q : Nat, q = s / 8 := ⟨_, rfl⟩
        obtain ⟨p, hp⟩ : ∃ p : Nat, p = s % 8 := ⟨_, rfl⟩
        have hq1 : (s : Int) / 8 = (q : Int) := by omega
        have hp1 : (s : Int) % 8 = (p : Int) := by omega
        have hq2 : q < l0.length := by omega
        have hp2 : p < 8 := by omega
        have HS := Kit.hid hs
        have HQ := Kit.hid hq
        have HP := Kit.hid hp
        clear hs hq hp
        go_wp2
        have r1 : IntKind.i64.wrap (s : Int) = (s : Int) := i64_in (by omega) (by omega)
        have r2 : IntKind.i64.wrap (q : Int) = (q : Int) := i64_in (by omega) (by omega)
        have r3 : IntKind.i64.wrap (p : Int) = (p : Int) := i64_in (by omega) (by omega)
        have r4 : (s : Int).tdiv 8 = (q : Int) := by rw [Int.tdiv_eq_ediv_of_nonneg (by omega)]; exact hq1
        have r5 : (s : Int).tmod 8 = (p : Int) := by rw [Int.tmod_eq_emod_of_nonneg (by omega)]; exact hp1
        have i1 : 0 ≤ (q : Int) := by omega
        have i2 : (q : Int) < (l0.length : Int) := by omega
        have hxl : q < X.length := by rw [hX.out.len]; exact hq2
        have hcx := World.ownsRow.cellAt ho.out q (by omega)
        have hfx := World.ownsRow.frozenAt ho.out q
        have e1 := bits_xor_u8 X[q] (1#8 <<< p)
        rw [shl_nat p] at e1
        obtain ⟨x, hx⟩ : ∃ x, x = X[q] := ⟨_, rfl⟩
        obtain ⟨y, hy⟩ : ∃ y, y = x ^^^ (1#8 <<< p) := ⟨_, rfl⟩
        rw [← hx, ← hy] at e1
        have hcx2 : wr.cell? ⟨g, q, none⟩ = some (.int .u8 (x.toNat : Int)) := by
          rw [hcx]
          simp [byteV, hxl, hx]
        have hst := Kit.hid (World.ownsRow.stored ho.out q (byteV y)).1
        have HXX := Kit.hid hx
        have HY := Kit.hid hy
        clear hcx hx hy
        go_region
        go_wp2
        go_roundw
        case rel =>
          refine ⟨i + 1, b / 2, true, X.set q y, by omega, by go_num, rfl, g6, g5, rfl, ?_, ?_, ?_⟩
          · have h := hX.out.one hl1 (by rw [← HS.out]; exact hl2) (q := q) (p := p) (by rw [← HS.out]; exact HQ.out) (by rw [← HS.out]; exact HP.out) hxl
            rw [← HXX.out, ← HY.out] at h
            exact h
          · show World.ownsRow _ _ _ _ _ _ _
            have h := hst.out
            rw [← List.map_set] at h
            exact h
          · exact Kit.hid (hb.out.setCell (p := ⟨g, q, none⟩) hg (byteV y)).drew
        case measure => simp [intOf]; omega
      · have g2 : (b % 2 == 1) = false := by simpa using hodd
        have g5 : b / 2 ≤ 4294967295 := by omega
        have g6 : 0 ≤ b / 2 := by omega
        clear hodd
        go_wp2
        go_roundw
        case rel => exact ⟨i + 1, b / 2, c, X, by omega, by go_num, rfl, g6, g5, rfl, hX.out.none, ho, hb⟩
        case measure => simp [intOf]; omega
    · have hcond : (i : Int) < 32 ∧ (k : Int) + (i : Int) < 8 * (l0.length : Int) ↔ i < 32 ∧ k + i < 8 * l0.length := by omega
      have hT3 := tab_below hT1 hb.out
      have hB3 := bytes_below hB0 hb.out
      have hXl := hX.out.len
      have hX3 : Hid (Bytes wr (some ⟨g, 0, none⟩) X) := by
        have h := ho.out
        obtain ⟨A, cap, hv, hc, _⟩ := own_reads h
        cases hv
        exact bytes_of_cells hc
      have hfin := hX.out.fin
      have hlX : l0.length = X.length := hXl.symm
      have HLX := Kit.hid hlX
      have hq : (!((more 0#32 X).toNat : Int) == ((more 0#32 l0).toNat : Int)) = c := by rw [toNat_beq]; exact hfin
      have hq2 : (((more 0#32 X).toNat : Int) != ((more 0#32 l0).toNat : Int)) = c := by rw [← hq]; rfl
      have hXle : X.length ≤ 140737488351232 := by omega
      have HX := Kit.hid hX
      clear hXl hfin hlX hX hq hcond
      by_cases h32 : i < 32
      · have h2 : ¬ (k : Int) + (i : Int) < 8 * (l0.length : Int) := by omega
        clear hlt
        go_wp2_with (first
          | (go_at_call 11; with_reducible (refine (of_any (some ⟨g, 0, none⟩) X l0.length cap2 _ hT3 hX3 hXle HLX.out).mono ?_); rintro e w' ⟨rfl, rfl⟩)
          | (go_at_call 11; with_reducible (refine (of_any A0 l0 l0.length cap0 _ hT3 hB3 (by omega) rfl).mono ?_); rintro e w' ⟨rfl, rfl⟩))
        go_ret
        exact ⟨by simp, hd1.trans (hb.out.mono hsz)⟩
      · clear hlt
        go_wp2_with (first
          | (go_at_call 11; with_reducible (refine (of_any (some ⟨g, 0, none⟩) X l0.length cap2 _ hT3 hX3 hXle HLX.out).mono ?_); rintro e w' ⟨rfl, rfl⟩)
          | (go_at_call 11; with_reducible (refine (of_any A0 l0 l0.length cap0 _ hT3 hB3 (by omega) rfl).mono ?_); rintro e w' ⟨rfl, rfl⟩))
        go_ret
        exact ⟨by simp, hd1.trans (hb.out.mono hsz)⟩
theorem bursts_short (A0 : Option Addr) (l0 : List (BitVec 8)) (cap0 : Nat) (a b : Int) (w : World) (hT : Hid (Tab w)) (h : l0.length = 0 ∨ 300 < l0.length) :
    Calls Tryd.prog 5 #[.slice A0 l0.length cap0, .int .u16 a, .int .u32 b] w fun e w' => e = .returned (.bool true) ∧ Below w.heap.size w w' := by
  rcases h with h | h
  · have g1 : ((l0.length : Int) == 0) = true := by rw [h]; rfl
    clear h
    go_enter Tryd.func5, Tryd.ntmps5
    go_wp2_with (go_at_call 10; refine (awake_any _ hT).mono ?_; rintro e w1 ⟨rfl, hd1⟩)
    go_ret
    exact ⟨rfl, hd1⟩
  · have g1 : ((l0.length : Int) == 0) = false := beq_eq_false_iff_ne.2 (by omega)
    have g2 : decide (300 < (l0.length : Int)) = true := decide_eq_true (by omega)
    go_enter Tryd.func5, Tryd.ntmps5
    go_wp2_with (go_at_call 10; refine (awake_any _ hT).mono ?_; rintro e w1 ⟨rfl, hd1⟩)
    go_ret
    exact ⟨rfl, hd1⟩
theorem burstsLaw_any (A0 : Option Addr) (l0 : List (BitVec 8)) (cap0 : Nat) (a b : Int) (w : World) (hT : Hid (Tab w)) (hb0 : Hid (Bytes w A0 l0)) (ha0 : 0 ≤ a) (ha1 : a ≤ 65535) (hb1 : 0 ≤ b) (hb2 : b ≤ 4294967295) :
    Calls Tryd.prog 5 #[.slice A0 l0.length cap0, .int .u16 a, .int .u32 b] w fun e w' => e = .returned (.bool true) ∧ Below w.heap.size w w' := by
  by_cases h : l0.length = 0 ∨ 300 < l0.length
  · exact bursts_short A0 l0 cap0 a b w hT h
  · exact bursts_any A0 l0 cap0 a b w hT hb0 (by omega) (by omega) ha0 ha1 hb1 hb2
end Go.Proofs.YtifpgidhfogbfaaDoor.Crc

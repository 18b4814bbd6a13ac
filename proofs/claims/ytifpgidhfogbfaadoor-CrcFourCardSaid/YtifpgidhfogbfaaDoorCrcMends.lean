/- The walk of CrcMends: a check that is mended. -/
import Derived.Test.YtifpgidhfogbfaaDoorCrcParts
import Derived.Test.YtifpgidhfogbfaaDoorCrcN
namespace Go.Proofs.YtifpgidhfogbfaaDoor.Crc
open Go.RowKit Go.Proofs.YtifpgidhfogbfaaDoor.Kit Go.Proofs.YtifpgidhfogbfaaDoor.CrcM
set_option linter.unusedVariables false
set_option linter.unusedSimpArgs false
theorem wrap_u8 {n : Int} (h0 : 0 ≤ n) (h1 : n < 256) : IntKind.u8.wrap n = n := by
  rw [IntKind.wrap_u8]; omega
theorem bits_xor_u8 (a b : BitVec 8) : bits .xor .u8 (a.toNat : Int) (b.toNat : Int) = ((a ^^^ b).toNat : Int) := by
  unfold bits
  simp only [IntKind.bits, ofInt_nat, BitVec.ofNat_toNat, BitVec.setWidth_eq]
  have := (a ^^^ b).isLt
  exact wrap_u8 (by omega) (by omega)
theorem toNat_beq {n : Nat} (a b : BitVec n) : ((a.toNat : Int) == (b.toNat : Int)) = decide (a = b) := by
  by_cases h : a = b
  · subst h
    simp
  · rw [decide_eq_false h, beq_eq_false_iff_ne]
    intro h2
    exact h (BitVec.eq_of_toNat_eq (by omega))
set_option maxHeartbeats 400000 in
theorem mends_any (A0 : Option Addr) (l0 : List (BitVec 8)) (cap0 : Nat) (a : Int) (d : BitVec 8) (w : World) (hT : Hid (Tab w)) (hb0 : Hid (Bytes w A0 l0))
    (hl0 : 0 < l0.length) (hl1 : l0.length ≤ 300) (ha0 : 0 ≤ a) (ha1 : a ≤ 65535) :
    Calls Tryd.prog 9 #[.slice A0 l0.length cap0, .int .u16 a, .int .u8 d.toNat] w fun e w' => e = .returned (.bool true) ∧ Below w.heap.size w w' := by
  obtain ⟨k, hk⟩ := Int.eq_ofNat_of_zero_le (Int.emod_nonneg a (b := (l0.length : Int)) (by omega))
  have hkl : k < l0.length := by
    have := Int.emod_lt_of_pos a (b := (l0.length : Int)) (by omega)
    rw [hk] at this
    omega
  have g1 : ((l0.length : Int) == 0) = false := beq_eq_false_iff_ne.2 (by omega)
  have e1 := bits_xor_u8 l0[k] d
  obtain ⟨y, hy⟩ : ∃ y, y = l0[k] ^^^ d := ⟨_, rfl⟩
  obtain ⟨z, hz⟩ : ∃ z, z = l0[k] := ⟨_, rfl⟩
  rw [← hy, ← hz] at e1
  have HM : Hid (mend (more 0#32 l0) d ((l0.length : Int) - 1 - (k : Int)) = more 0#32 (l0.set k y)) := by
    show _ = _
    rw [hy]
    exact mend_set l0 k hkl (by omega) d _ rfl
  have HI : Hid (more 0#32 (l0.set k y) = more 0#32 l0 ↔ d = 0#8) := by
    show _ ↔ _
    rw [hy]
    exact more_set_iff 0#32 l0 k hkl d
  have HZ : Hid (l0[k] = z) := hz.symm
  have HL : Hid ((l0.map byteV).set k (byteV y) = (l0.set k y).map byteV) := (List.map_set (f := byteV) (l := l0) (i := k) (a := y)).symm
  clear hy hz
  have bd := d.isLt
  have by_ := y.isLt
  have bz := z.isLt
  go_enter Tryd.func9, Tryd.ntmps9
  go_wp2_with (first
    | (go_at_call 10; refine (awake_any _ hT).mono ?_; rintro e w1 ⟨rfl, hd1⟩
       have hT1 := tab_below hT hd1
       have hB0 := bytes_below hb0 hd1
       have hsz := hd1.size
       have hown0 := World.ownsRow_lit (base := w1.heap.size) (e := 5) (size := 1) w1 #[] 0 (Nat.le_refl _) (by decide) rfl)
    | (at_builtin; (refine wpList_append_src rfl _ _ 22 rfl w1.heap.size 5 (.int .u8 0) 1 Tryd.underlying22 infoB rfl _ 0 _ rfl hown0 A0 l0.length cap0 (l0.map byteV) rfl (by simp) (cells_of_bytes (bytes_below hB0 ((Below.refl _ _).alloc (Nat.le_refl _) _))) (one_byteV _) (by unfold maxLen; omega) (by omega) (by simp) ?_)
       intro v2 w2 hown2 hg2 _
       have hd2 := below_own ((Below.refl _ _).alloc (Nat.le_refl _) _) hown0 hg2 (by simp)
       have hsz2 := hd2.size
       rw [Nat.zero_add] at hown2
       obtain ⟨g, cap2, rfl, hg, hgl, hcap⟩ := own_form hown2 hl0
       have hc := World.ownsRow.cellAt hown2 k (by omega)
       have hf := World.ownsRow.frozenAt hown2 k
       have hst := (World.ownsRow.stored hown2 k (byteV y)).1
       have hc2 : w2.cell? ⟨g, k, none⟩ = some (.int .u8 z.toNat) := by
         rw [hc]
         simp [byteV, hkl, HZ.out]
       clear hc))
  have hd3 := hd2.setCell (p := ⟨g, k, none⟩) hg (byteV y)
  have hT3 := tab_below hT1 hd3
  have hB3 := bytes_below hB0 hd3
  have hC3 : Hid (Bytes (w2.setCell ⟨g, k, none⟩ (byteV y)) (some ⟨g, 0, none⟩) (l0.set k y)) := by
    rw [List.nil_append, HL.out] at hst
    obtain ⟨A, cap, hv, hc, _⟩ := own_reads hst
    cases hv
    exact bytes_of_cells hc
  have hl0' : l0.length ≤ 140737488351232 := by omega
  have hl3' : (l0.set k y).length ≤ 140737488351232 := by simp; omega
  have hlen : l0.length = (l0.set k y).length := by simp
  have HLen := Kit.hid hlen
  have Hst := Kit.hid hst
  clear hlen hst hown2 hown0
  refine (of_any _ l0 _ cap0 _ hT3 hB3 hl0' rfl).mono ?_
  rintro e w' ⟨rfl, rfl⟩
  go_wp2_with fail
  refine (mend_any (more 0#32 l0) d _ _ hT3 (by omega) (by omega)).mono ?_
  rw [HM.out]
  rintro e w' ⟨rfl, rfl⟩
  go_wp2_with fail
  refine (of_any _ (l0.set k y) _ cap2 _ hT3 hC3 hl3' HLen.out).mono ?_
  rintro e w' ⟨rfl, rfl⟩
  by_cases hd : d = 0#8
  · have g3 : (((more 0#32 (l0.set k y)).toNat : Int) == ((more 0#32 l0).toNat : Int)) = true := by rw [toNat_beq, HI.out.2 hd]; simp
    have g4 : ((d.toNat : Int) == 0) = true := by rw [hd]; rfl
    clear hd
    go_wp2_with fail
    refine (of_any _ (l0.set k y) _ cap2 _ hT3 hC3 hl3' HLen.out).mono ?_
    rintro e w' ⟨rfl, rfl⟩
    go_wp2_with fail
    refine (of_any _ l0 _ cap0 _ hT3 hB3 hl0' rfl).mono ?_
    rintro e w' ⟨rfl, rfl⟩
    go_wp2_with fail
    go_ret
    exact ⟨rfl, hd1.trans (hd3.mono hsz)⟩
  · have g3 : (((more 0#32 (l0.set k y)).toNat : Int) == ((more 0#32 l0).toNat : Int)) = false := by rw [toNat_beq]; exact decide_eq_false (fun h => hd (HI.out.1 h))
    have g4 : ((d.toNat : Int) == 0) = false := by
      rw [beq_eq_false_iff_ne]
      intro h
      exact hd (BitVec.eq_of_toNat_eq (by simpa using h))
    clear hd
    go_wp2_with fail
    refine (of_any _ (l0.set k y) _ cap2 _ hT3 hC3 hl3' HLen.out).mono ?_
    rintro e w' ⟨rfl, rfl⟩
    go_wp2_with fail
    refine (of_any _ l0 _ cap0 _ hT3 hB3 hl0' rfl).mono ?_
    rintro e w' ⟨rfl, rfl⟩
    go_wp2_with fail
    go_ret
    exact ⟨rfl, hd1.trans (hd3.mono hsz)⟩
theorem mends_short (A0 : Option Addr) (l0 : List (BitVec 8)) (cap0 : Nat) (a : Int) (d : BitVec 8) (w : World) (hT : Hid (Tab w)) (h : l0.length = 0 ∨ 300 < l0.length) :
    Calls Tryd.prog 9 #[.slice A0 l0.length cap0, .int .u16 a, .int .u8 d.toNat] w fun e w' => e = .returned (.bool true) ∧ Below w.heap.size w w' := by
  rcases h with h | h
  · have g1 : ((l0.length : Int) == 0) = true := by rw [h]; rfl
    clear h
    go_enter Tryd.func9, Tryd.ntmps9
    go_wp2_with (go_at_call 10; refine (awake_any _ hT).mono ?_; rintro e w1 ⟨rfl, hd1⟩)
    go_ret
    exact ⟨rfl, hd1⟩
  · have g1 : ((l0.length : Int) == 0) = false := beq_eq_false_iff_ne.2 (by omega)
    have g2 : decide (300 < (l0.length : Int)) = true := decide_eq_true (by omega)
    go_enter Tryd.func9, Tryd.ntmps9
    go_wp2_with (go_at_call 10; refine (awake_any _ hT).mono ?_; rintro e w1 ⟨rfl, hd1⟩)
    go_ret
    exact ⟨rfl, hd1⟩
theorem mendsLaw_any (A0 : Option Addr) (l0 : List (BitVec 8)) (cap0 : Nat) (a : Int) (d : BitVec 8) (w : World) (hT : Hid (Tab w)) (hb0 : Hid (Bytes w A0 l0)) (ha0 : 0 ≤ a) (ha1 : a ≤ 65535) :
    Calls Tryd.prog 9 #[.slice A0 l0.length cap0, .int .u16 a, .int .u8 d.toNat] w fun e w' => e = .returned (.bool true) ∧ Below w.heap.size w w' := by
  by_cases h : l0.length = 0 ∨ 300 < l0.length
  · exact mends_short A0 l0 cap0 a d w hT h
  · exact mends_any A0 l0 cap0 a d w hT hb0 (by omega) (by omega) ha0 ha1
end Go.Proofs.YtifpgidhfogbfaaDoor.Crc

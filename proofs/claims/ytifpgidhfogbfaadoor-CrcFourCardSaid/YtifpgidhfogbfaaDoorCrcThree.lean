/- The walk of CrcThree: three texts of one length. -/
import Derived.Test.YtifpgidhfogbfaaDoorCrcMends
import Derived.RegionTactic
import Derived.BigRegion
import Derived.StillTailTactics
namespace Go.Proofs.YtifpgidhfogbfaaDoor.Crc
open Go.RowKit Go.Proofs.YtifpgidhfogbfaaDoor.Kit Go.Proofs.YtifpgidhfogbfaaDoor.CrcM
set_option linter.unusedVariables false
set_option linter.unusedSimpArgs false
/-- What the text is like when its first k bytes are done. -/
def mixed (a b c : List (BitVec 8)) (k : Nat) : List (BitVec 8) := (xor3 a b c).take k ++ a.drop k
theorem xor3_get (a b c : List (BitVec 8)) (i : Nat) (h : i < (List.zipWith (· ^^^ ·) (List.zipWith (· ^^^ ·) a b) c).length) :
    (List.zipWith (· ^^^ ·) (List.zipWith (· ^^^ ·) a b) c)[i] = a[i]'(by simp at h; omega) ^^^ b[i]'(by simp at h; omega) ^^^ c[i]'(by simp at h; omega) := by
  rw [List.getElem_zipWith, List.getElem_zipWith]
theorem xor3_length {a b c : List (BitVec 8)} (hb : a.length ≤ b.length) (hc : a.length ≤ c.length) : (xor3 a b c).length = a.length := by
  unfold xor3
  simp
  omega
theorem mixed_length {a b c : List (BitVec 8)} (hb : a.length ≤ b.length) (hc : a.length ≤ c.length) {k : Nat} (hk : k ≤ a.length) : (mixed a b c k).length = a.length := by
  unfold mixed
  rw [List.length_append, List.length_take, xor3_length hb hc, List.length_drop]
  omega
theorem mixed_set {a b c : List (BitVec 8)} (hb : a.length ≤ b.length) (hc : a.length ≤ c.length) {k : Nat} (hk : k < a.length) :
    (mixed a b c k).set k (a[k] ^^^ b[k] ^^^ c[k]) = mixed a b c (k + 1) := by
  have hx : k < (xor3 a b c).length := by rw [xor3_length hb hc]; exact hk
  have e : (xor3 a b c)[k] = a[k] ^^^ b[k] ^^^ c[k] := by
    exact xor3_get a b c k hx
  unfold mixed
  have e2 : a.drop k = a[k] :: a.drop (k + 1) := List.drop_eq_getElem_cons hk
  have hl : ((xor3 a b c).take k).length = k := by rw [List.length_take]; omega
  rw [List.set_append_right _ _ (by rw [hl]; exact Nat.le_refl _), hl, Nat.sub_self, e2, List.set_cons_zero, take_snoc hx, e, List.append_assoc]
  rfl
theorem take_self_bytes {a b c : List (BitVec 8)} (hb : a.length ≤ b.length) (hc : a.length ≤ c.length) : xor3 a (b.take a.length) (c.take a.length) = xor3 a b c := by
  apply List.ext_getElem
  · rw [xor3_length hb hc, xor3_length (by simp; omega) (by simp; omega)]
  · intro i h1 h2
    have r1 := xor3_get a (b.take a.length) (c.take a.length) i h1
    have r2 := xor3_get a b c i h2
    rw [List.getElem_take, List.getElem_take] at r1
    exact r1.trans r2.symm
theorem bytes_take {w : World} {A : Option Addr} {l : List (BitVec 8)} (h : Hid (Bytes w A l)) (n : Nat) : Hid (Bytes w A (l.take n)) := by
  intro i hi
  have hi' : i < l.length := by rw [List.length_take] at hi; omega
  obtain ⟨ad, rfl, hc⟩ := h.out i hi'
  exact ⟨ad, rfl, by rw [hc, List.getElem_take]⟩
set_option maxHeartbeats 800000 in
set_option maxRecDepth 100000 in
theorem three_any (A0 : Option Addr) (l0 : List (BitVec 8)) (cap0 : Nat) (A1 : Option Addr) (l1 : List (BitVec 8)) (cap1 : Nat) (A2 : Option Addr) (l2 : List (BitVec 8)) (cap2 : Nat) (w : World)
    (hT : Hid (Tab w)) (hb0 : Hid (Bytes w A0 l0)) (hb1 : Hid (Bytes w A1 l1)) (hb2 : Hid (Bytes w A2 l2))
    (hl0 : l0.length ≤ 200) (hl1 : l0.length ≤ l1.length) (hl2 : l0.length ≤ l2.length) (hc1 : l1.length ≤ cap1) (hc2 : l2.length ≤ cap2) :
    Calls Tryd.prog 7 #[.slice A0 l0.length cap0, .slice A1 l1.length cap1, .slice A2 l2.length cap2] w fun e w' => e = .returned (.bool true) ∧ Below w.heap.size w w' := by
  have g1 : decide (200 < (l0.length : Int)) = false := decide_eq_false (by omega)
  have g2 : decide (l1.length < l0.length) = false := decide_eq_false (by omega)
  have g3 : decide (l2.length < l0.length) = false := decide_eq_false (by omega)
  go_enter Tryd.func7, Tryd.ntmps7
  go_wp2_with (first
    | (go_at_call 10; refine (awake_any _ hT).mono ?_; rintro e w1 ⟨rfl, hd1⟩
       have hT1 := tab_below hT hd1
       have hB0 := bytes_below hb0 hd1
       have hB1 := bytes_below hb1 hd1
       have hB2 := bytes_below hb2 hd1
       have hsz := hd1.size
       have hown0 := World.ownsRow_lit (base := w1.heap.size) (e := 5) (size := 1) w1 #[] 0 (Nat.le_refl _) (by decide) rfl)
    | (at_builtin; refine wpList_append_src rfl _ _ 22 rfl w1.heap.size 5 (.int .u8 0) 1 Tryd.underlying22 infoB rfl _ 0 _ rfl hown0 A0 l0.length cap0 (l0.map byteV) rfl (by simp) (cells_of_bytes (bytes_below hB0 ((Below.refl _ _).alloc (Nat.le_refl _) _))) (one_byteV _) (by unfold maxLen; omega) (by omega) (by simp) ?_
       intro v2 w2 hown2 hg2 _
       have hd2 := below_own ((Below.refl _ _).alloc (Nat.le_refl _) _) hown0 hg2 (by simp)
       rw [Nat.zero_add, List.nil_append] at hown2
       obtain ⟨A3, cap3, rfl, hc3, hcap, hform⟩ := own_reads hown2
       clear hc3))
  clear hown0 hg2 g1 g2 g3
  have HO := Kit.hid hown2
  have HD := Kit.hid hd2
  have HS : Hid (w2.heap.size = w2.heap.size) := rfl
  have HF := Kit.hid hform
  clear hown2 hd2 hform
  go_loopw [10] (fun v10 wr => ∃ k : Nat, k ≤ l0.length ∧ v10 = .int .i64 k ∧ Hid (wr.ownsRow w1.heap.size 5 1 (.slice A3 l0.length cap3) l0.length ((mixed l0 l1 l2 k).map byteV)) ∧ Hid (Below w1.heap.size w1 wr)) (fun i _ => l0.length - (intOf i).toNat)
  case atStart => exact ⟨0, Nat.zero_le _, rfl, by show World.ownsRow _ _ _ _ _ _ _; simpa [mixed] using HO.out, HD⟩
  case round =>
    obtain ⟨k, hk, rfl, ho, hb⟩ := hrel
    by_cases hlt : k < l0.length
    · obtain ⟨g, rfl, hg, hgl⟩ : ∃ g, A3 = some ⟨g, 0, none⟩ ∧ w1.heap.size ≤ g ∧ g < w2.heap.size := by
        rcases HF.out with ⟨_, h, _⟩ | h
        · omega
        · exact h
      clear HF
      obtain ⟨ad0, rfl, ca⟩ := (bytes_below hB0 hb.out).out k hlt
      obtain ⟨ad1, rfl, cb⟩ := (bytes_below hB1 hb.out).out k (by omega)
      obtain ⟨ad2, rfl, cc⟩ := (bytes_below hB2 hb.out).out k (by omega)
      have HN := Kit.hid (mixed_set hl1 hl2 hlt)
      have e1 := bits_xor_u8 l0[k] l1[k]
      obtain ⟨t, ht⟩ : ∃ t, t = l0[k] ^^^ l1[k] := ⟨_, rfl⟩
      rw [← ht] at e1
      have e2 := bits_xor_u8 t l2[k]
      obtain ⟨y, hy⟩ : ∃ t, t = l0[k] ^^^ l1[k] ^^^ l2[k] := ⟨_, rfl⟩
      rw [ht, ← hy, ← ht] at e2
      have HN' : Hid ((mixed l0 l1 l2 k).set k y = mixed l0 l1 l2 (k + 1)) := by rw [hy]; exact HN
      obtain ⟨x0, hx0⟩ : ∃ x, x = l0[k] := ⟨_, rfl⟩
      obtain ⟨x1, hx1⟩ : ∃ x, x = l1[k] := ⟨_, rfl⟩
      obtain ⟨x2, hx2⟩ : ∃ x, x = l2[k] := ⟨_, rfl⟩
      rw [← hx0] at ca e1
      rw [← hx1] at cb e1
      rw [← hx2] at cc e2
      have bx0 := x0.isLt
      have bx1 := x1.isLt
      have bx2 := x2.isLt
      have by_ := y.isLt
      have bt := t.isLt
      have hxl : k < ((mixed l0 l1 l2 k).map byteV).length := by rw [List.length_map, mixed_length hl1 hl2 hk]; exact hlt
      have hcx := World.ownsRow.cellAt ho.out k (by omega)
      rw [List.getElem?_eq_getElem hxl] at hcx
      obtain ⟨u, hu⟩ : ∃ u, u = ((mixed l0 l1 l2 k).map byteV)[k] := ⟨_, rfl⟩
      rw [← hu] at hcx
      have hfx := World.ownsRow.frozenAt ho.out k
      have hst := Kit.hid (World.ownsRow.stored ho.out k (byteV y)).1
      clear HN ht hy hx0 hx1 hx2 hu hxl
      go_wp2
      go_region
      go_wp2
      go_roundw
      case rel =>
        refine ⟨k + 1, by omega, by go_num, ?_, ?_⟩
        · show World.ownsRow _ _ _ _ _ _ _
          have h := hst.out
          have e : ((mixed l0 l1 l2 k).map byteV).set k (byteV y) = (mixed l0 l1 l2 (k + 1)).map byteV := by rw [← HN'.out, List.map_set]
          rw [e] at h
          exact h
        · exact Kit.hid (hb.out.setCell (p := ⟨g, k, none⟩) hg (byteV y)).drew
      case measure => simp [intOf]; omega
    · have hk' : k = l0.length := by omega
      have hm : mixed l0 l1 l2 k = xor3 l0 l1 l2 := by
        unfold mixed
        rw [hk', List.drop_length, List.append_nil, List.take_of_length_le (by rw [xor3_length hl1 hl2]; exact Nat.le_refl _)]
      have hX : Hid (Bytes wr A3 (xor3 l0 l1 l2)) := by
        have h := ho.out
        rw [hm] at h
        obtain ⟨A, cap, hv, hc, _⟩ := own_reads h
        cases hv
        exact bytes_of_cells hc
      have hT3 := tab_below hT1 hb.out
      have hB03 := bytes_below hB0 hb.out
      have hB13 := bytes_take (bytes_below hB1 hb.out) l0.length
      have hB23 := bytes_take (bytes_below hB2 hb.out) l0.length
      obtain ⟨m0, hm0⟩ : ∃ m, more 0#32 l0 = m := ⟨_, rfl⟩
      obtain ⟨m1, hm1⟩ : ∃ m, more 0#32 (l1.take l0.length) = m := ⟨_, rfl⟩
      obtain ⟨m2, hm2⟩ : ∃ m, more 0#32 (l2.take l0.length) = m := ⟨_, rfl⟩
      have hm3 : more 0#32 (xor3 l0 l1 l2) = m0 ^^^ m1 ^^^ m2 := by
        rw [← take_self_bytes hl1 hl2, more_three l0 (l1.take l0.length) (l2.take l0.length) (by simp; omega) (by simp; omega), hm0, hm1, hm2]
      obtain ⟨p, hp⟩ : ∃ p, p = m0 ^^^ m1 := ⟨_, rfl⟩
      obtain ⟨q, hq⟩ : ∃ p, p = m0 ^^^ m1 ^^^ m2 := ⟨_, rfl⟩
      have e1 := bits_xor m0 m1
      rw [← hp] at e1
      have e2 := bits_xor p m2
      rw [hp, ← hq, ← hp] at e2
      rw [← hq] at hm3
      have C0 := Kit.hid (fun n : Nat => of_any A0 l0 l0.length cap0 (wr.drewN n) (tab_below hT3 (below_drewN (Below.refl _ _) n)) (bytes_below hB03 (below_drewN (Below.refl _ _) n)) (by omega) rfl)
      have C1 := Kit.hid (fun n : Nat => of_any A1 (l1.take l0.length) l0.length cap1 (wr.drewN n) (tab_below hT3 (below_drewN (Below.refl _ _) n)) (bytes_below hB13 (below_drewN (Below.refl _ _) n)) (by simp; omega) (by simp; omega))
      have C2 := Kit.hid (fun n : Nat => of_any A2 (l2.take l0.length) l0.length cap2 (wr.drewN n) (tab_below hT3 (below_drewN (Below.refl _ _) n)) (bytes_below hB23 (below_drewN (Below.refl _ _) n)) (by simp; omega) (by simp; omega))
      have C3 := Kit.hid (fun n : Nat => of_any A3 (xor3 l0 l1 l2) l0.length cap3 (wr.drewN n) (tab_below hT3 (below_drewN (Below.refl _ _) n)) (bytes_below hX (below_drewN (Below.refl _ _) n)) (by rw [xor3_length hl1 hl2]; omega) (by rw [xor3_length hl1 hl2]))
      rw [hm0] at C0
      rw [hm1] at C1
      rw [hm2] at C2
      rw [hm3] at C3
      clear hm0 hm1 hm2 hm3 hp hq hm hk'
      have i1 : (0 : Int) ≤ (l0.length : Int) := by omega
      have i2 : l0.length ≤ cap1 := by omega
      have i3 : l0.length ≤ cap2 := by omega
      go_wp2
      go_quiet (first | (go_at_call 11; with_reducible exact quiet_left (C0.out _)) | (go_at_call 11; with_reducible exact quiet_left (C1.out _)) | (go_at_call 11; with_reducible exact quiet_left (C2.out _)) | (go_at_call 11; with_reducible exact quiet_left (C3.out _)))
      go_wp2
      go_ret
      exact ⟨by simp, below_drewN (hd1.trans (hb.out.mono hsz)) _⟩
theorem three_odd (A0 : Option Addr) (l0 : List (BitVec 8)) (cap0 : Nat) (A1 : Option Addr) (l1 : List (BitVec 8)) (cap1 : Nat) (A2 : Option Addr) (l2 : List (BitVec 8)) (cap2 : Nat) (w : World)
    (hT : Hid (Tab w)) (h : ¬ (l0.length ≤ 200 ∧ l0.length ≤ l1.length ∧ l0.length ≤ l2.length)) :
    Calls Tryd.prog 7 #[.slice A0 l0.length cap0, .slice A1 l1.length cap1, .slice A2 l2.length cap2] w fun e w' => e = .returned (.bool true) ∧ Below w.heap.size w w' := by
  by_cases h0 : 200 < l0.length
  · have g1 : decide (200 < (l0.length : Int)) = true := decide_eq_true (by omega)
    clear h
    go_enter Tryd.func7, Tryd.ntmps7
    go_wp2_with (go_at_call 10; refine (awake_any _ hT).mono ?_; rintro e w1 ⟨rfl, hd1⟩)
    go_ret
    exact ⟨rfl, hd1⟩
  · by_cases h1 : l1.length < l0.length
    · have g1 : decide (200 < (l0.length : Int)) = false := decide_eq_false (by omega)
      have g2 : decide (l1.length < l0.length) = true := decide_eq_true (by omega)
      clear h
      go_enter Tryd.func7, Tryd.ntmps7
      go_wp2_with (go_at_call 10; refine (awake_any _ hT).mono ?_; rintro e w1 ⟨rfl, hd1⟩)
      go_ret
      exact ⟨rfl, hd1⟩
    · have g1 : decide (200 < (l0.length : Int)) = false := decide_eq_false (by omega)
      have g2 : decide (l1.length < l0.length) = false := decide_eq_false (by omega)
      have g3 : decide (l2.length < l0.length) = true := decide_eq_true (by omega)
      clear h
      go_enter Tryd.func7, Tryd.ntmps7
      go_wp2_with (go_at_call 10; refine (awake_any _ hT).mono ?_; rintro e w1 ⟨rfl, hd1⟩)
      go_ret
      exact ⟨rfl, hd1⟩
theorem threeLaw_any (A0 : Option Addr) (l0 : List (BitVec 8)) (cap0 : Nat) (A1 : Option Addr) (l1 : List (BitVec 8)) (cap1 : Nat) (A2 : Option Addr) (l2 : List (BitVec 8)) (cap2 : Nat) (w : World)
    (hT : Hid (Tab w)) (hb0 : Hid (Bytes w A0 l0)) (hb1 : Hid (Bytes w A1 l1)) (hb2 : Hid (Bytes w A2 l2)) (hc1 : l1.length ≤ cap1) (hc2 : l2.length ≤ cap2) :
    Calls Tryd.prog 7 #[.slice A0 l0.length cap0, .slice A1 l1.length cap1, .slice A2 l2.length cap2] w fun e w' => e = .returned (.bool true) ∧ Below w.heap.size w w' := by
  by_cases h : l0.length ≤ 200 ∧ l0.length ≤ l1.length ∧ l0.length ≤ l2.length
  · exact three_any A0 l0 cap0 A1 l1 cap1 A2 l2 cap2 w hT hb0 hb1 hb2 h.1 h.2.1 h.2.2 hc1 hc2
  · exact three_odd A0 l0 cap0 A1 l1 cap1 A2 l2 cap2 w hT h
end Go.Proofs.YtifpgidhfogbfaaDoor.Crc

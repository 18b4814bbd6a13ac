/- The law LeTakes. -/
import Derived.Test.YtpgfjiglkmpnaaaLeStays
import Derived.Deep.Grids
namespace Go.Proofs.Ytpgfjiglkmpnaaa.Le
open Go.RowKit Go.Proofs.Ytpgfjiglkmpnaaa.Kit Go.Proofs.Ytpgfjiglkmpnaaa.LeM
set_option linter.unusedVariables false
set_option linter.unusedSimpArgs false
theorem rp_part (l : List (BitVec 8)) (e m : Int) : (rp l e m).1.length ≤ l.length := by
  unfold rp
  repeat' split
  all_goals simp
  all_goals omega
/-- Bytes lie in no block that holds none. -/
theorem bytes_typed {w w' : World} {A : Option Addr} {l : List (BitVec 8)} {h : Nat} {cs : Array Value} {t : TypeId} {r : Nat × Nat} (hb : Hid (Bytes w A l)) (hblk : w.heap[h]? = some (.cells cs t r)) (hty : ∀ (i : Nat) (n : Int), cs[i]? ≠ some (Value.int .u8 n))
    (hg : w.grownBy w' (some h)) : Hid (Bytes w' A l) := by
  intro i hi
  obtain ⟨ad, rfl, hc⟩ := hb.out i hi
  refine ⟨ad, rfl, ?_⟩
  have hne : (ad.add i).block ≠ h := by
    intro e
    unfold World.cell? at hc
    rw [e, hblk] at hc
    simp only at hc
    split at hc
    · cases hc
    · exact hty _ _ hc
  rw [← hc]
  exact World.cell?_of_block (hg.block _ (cell_lt hc) (fun e => hne (by cases e; rfl)))
theorem three_types (A : Option Addr) (n c : Nat) (k e : Int) : ∀ (i : Nat) (x : Int), (#[Value.slice A n c, .int .i64 k, .int .i64 e] : Array Value)[i]? ≠ some (Value.int .u8 x) := by
  intro i x h
  match i with
  | 0 => cases h
  | 1 => cases h
  | 2 => cases h
  | i + 3 => simp at h
theorem rd_other {w w' : World} {g h : Nat} {A A0 : Option Addr} {l b : List (BitVec 8)} {cap cap0 k : Nat} {e e0 : Int} (hR : RdAt w g A l cap e) (hF : RfAt w h A0 b cap0 k e0) (hg : w.grownBy w' (some h)) (hne : g ≠ h) : RdAt w' g A l cap e :=
  ⟨(hg.block g (blk_lt hR.blk) (fun e => hne (by cases e; rfl))).trans hR.blk, bytes_typed hR.bytes hF.blk (three_types _ _ _ _ _) hg, hR.room, hR.far⟩
theorem rf_other {w w' : World} {g h : Nat} {A0 : Option Addr} {b : List (BitVec 8)} {cap0 k : Nat} {e0 : Int} (hF : RfAt w h A0 b cap0 k e0) (hg : w.grownBy w' (some g)) (hne : g ≠ h) (hb : Hid (Bytes w' A0 b)) : RfAt w' h A0 b cap0 k e0 :=
  ⟨(hg.block h (blk_lt hF.blk) (fun e => hne (by cases e; rfl))).trans hF.blk, hb, hF.room, hF.far, hF.at_⟩
/-- A row of truth values. -/
def Bools (w : World) (A : Option Addr) (l : List Bool) : Prop := ∀ i (h : i < l.length), ∃ ad : Addr, A = some ad ∧ w.cell? (ad.add i) = some (.bool l[i])
theorem bools_below {w w1 : World} {A : Option Addr} {l : List Bool} (h : Hid (Bools w A l)) (hb : Below w.heap.size w w1) : Hid (Bools w1 A l) := by
  intro i hi
  obtain ⟨ad, rfl, hc⟩ := h.out i hi
  exact ⟨ad, rfl, (hb.cell (cell_lt hc)).trans hc⟩
open Go.ChangeShapes Go.WideShapes Go.ChangeAt Go.Joins Go.Deep in
theorem open_bools_row {H : Type} {enc : TypeId × Value → H} {P : Program} {W : World} {r : Reach} {b0 base : Nat} {held : Bool} {t e : TypeId} {v : Value} {d : DataW H} {ps : List MemPlace}
    (ht : P.underlying t = some (.slice e)) (he : P.underlying e = some .bool) (hc : P.cellsOf e = 1)
    (hv : Value.okWide P W r b0 t v) (h : DataW.Trod enc P W base (fun _ => true) held t v d ps) :
    ∃ (A : Option Addr) (l : List Bool) (cap : Nat), v = .slice A l.length cap ∧ Hid (Bools W A l) ∧ l.length ≤ cap ∧ cap ≤ maxLen := by
  obtain ⟨A, len, cap, rfl⟩ := okWide_slice ht hv
  obtain ⟨fuel, hf⟩ := h
  rcases open_bools ht he hc hf with ⟨hcs, _⟩ | ⟨x, l, c, B, hcs, _, hl, hm, hx, hcell⟩
  · simp [Value.cells] at hcs
    obtain ⟨rfl, rfl, rfl⟩ := hcs
    exact ⟨none, [], 0, rfl, (fun i hi => by cases hi), Nat.le_refl _, Nat.zero_le _⟩
  · simp [Value.cells] at hcs
    obtain ⟨rfl, rfl, rfl⟩ := hcs
    refine ⟨some x, (List.range len).map B, cap, by simp, ?_, by simpa using hl, hm⟩
    intro i hi
    refine ⟨x, rfl, ?_⟩
    rw [hcell i (by simp at hi; omega)]
    simp
open Go.ChangeShapes Go.WideShapes Go.ChangeAt Go.Joins Go.Deep in
theorem slice_in {P : Program} {W : World} {r : Reach} {b0 : Nat} {t e : TypeId} {ad : Addr} {n c : Nat} (ht : P.underlying t = some (.slice e)) (hv : Value.okWide P W r b0 t (.slice (some ad) n c)) : ad.block < W.heap.size := by
  simp only [Value.okWide, ht, Cell.okWide, Cell.ok] at hv
  obtain ⟨_, _, h⟩ := hv
  obtain ⟨_, _, row, cells, hs, _⟩ := h
  unfold World.shape? at hs
  split at hs
  · rename_i h
    exact (Array.getElem?_eq_some_iff.1 h).1
  · cases hs
set_option maxRecDepth 4000 in
set_option maxHeartbeats 1600000 in
theorem takes_any (A0 : Option Addr) (b : List (BitVec 8)) (cap0 : Nat) (A2 : Option Addr) (l2 : List Int) (cap2 : Nat) (A3 : Option Addr) (l3 : List Bool) (cap3 : Nat) (w : World) (hb0 : Hid (Bytes w A0 b)) (hi2 : Hid (Ints .i64 w A2 l2)) (hi3 : Hid (Bools w A3 l3))
    (hl0 : b.length ≤ 200) (hl2 : l2.length ≤ 50) (hc0 : b.length ≤ cap0) (hl3 : l3.length ≤ maxLen) (hA0 : ∀ ad, A0 = some ad → ad.block < w.heap.size) :
    Calls Try.prog 7 #[.slice A0 b.length cap0, .slice A2 l2.length cap2, .slice A3 l3.length cap3] w fun e w' => e = .returned (.bool true) ∧ Below w.heap.size w w' := by
  have g1 : decide (200 < (b.length : Int)) = false := decide_eq_false (by omega)
  have g2 : decide (50 < (l2.length : Int)) = false := decide_eq_false (by omega)
  have hm3 : l3.length ≤ 9223372036854775807 := by unfold maxLen at hl3; omega
  clear hl3
  go_enter Try.func7, Try.ntmps7
  go_wp2_with (first
    | (go_at_call 10; refine (awake_any _).mono ?_; rintro e w1 ⟨rfl, hd1⟩
       have hsz1 := hd1.size
       have hB01 := bytes_below hb0 hd1)
    | (go_at_call 17; refine (new_any A0 b cap0 _ hB01 (by omega)).mono ?_; rintro e w5 ⟨g, A5, cap5, rfl, hg5, hA5, hR5, hd5⟩
       have hd15 := hd1.trans (hd5.mono hsz1)))
  obtain ⟨h, hh⟩ : ∃ h, h = w5.heap.size := ⟨_, rfl⟩
  have hgh : g < h := by rw [hh]; exact blk_lt hR5.blk
  have HGH : Hid (g ≠ h) := Kit.hid (by omega)
  have HG : Hid (w.heap.size ≤ g) := Kit.hid (Nat.le_trans hsz1 hg5)
  have HH : Hid (w.heap.size ≤ h) := Kit.hid (by rw [hh]; exact hd15.size)
  have hd6 := hd15.alloc hd15.size (.cells #[.slice A0 b.length cap0, .int .i64 0, .int .i64 0] 43)
  have hR6 := rd_below hR5 ((Below.refl _ _).alloc (Nat.le_refl _) (.cells #[.slice A0 b.length cap0, .int .i64 0, .int .i64 0] 43))
  have hF6 : RfAt (w5.alloc (.cells #[.slice A0 b.length cap0, .int .i64 0, .int .i64 0] 43)) h A0 b cap0 0 0 :=
    ⟨by rw [hh]; exact blk_new _ _, bytes_below hb0 hd6, hc0, (fun ad ha => by have h1 := hA0 ad ha; have h2 := HH.out; omega), Nat.zero_le _⟩
  rw [← hh]
  clear hh
  go_loopw [10] (fun v10 wr => ∃ (i : Nat), i ≤ l2.length ∧ v10 = .int .i64 i ∧ Hid (∃ A l cap k e, RdAt wr g A l cap e ∧ RfAt wr h A0 b cap0 k e ∧ b.drop k = l) ∧ Hid (Below w.heap.size w wr)) (fun i _ => l2.length - (intOf i).toNat)
  case atStart => exact ⟨0, by omega, rfl, Kit.hid ⟨A5, b, cap5, 0, 0, hR6, hF6, rfl⟩, Kit.hid hd6⟩
  case round =>
    obtain ⟨i, hi, rfl, hr, hb⟩ := hrel
    obtain ⟨A, l, cap, k, e, hR, hF, hkl0⟩ := hr.out
    have hkl := Kit.hid hkl0
    have HR := Kit.hid hR
    have HF := Kit.hid hF
    have hll : l.length ≤ 200 := by rw [← hkl0, List.length_drop]; omega
    clear hkl0 hR hF
    by_cases hlt : i < l2.length
    · have hI := ints_below hi2 hb.out
      obtain ⟨ad, rfl, hcell⟩ := hI.out i hlt
      have HIA := Kit.hid (fun w' (h : Below w.heap.size w w') => (ints_below hi2 h).out i hlt)
      by_cases hp : i < l3.length
      · obtain ⟨ad3, rfl, hcell3⟩ := (bools_below hi3 hb.out).out i hp
        cases hv : l3[i]
        · rw [hv] at hcell3
          have HL := Kit.hid (take_any g A l cap e l2[i] wr HR.out (by omega))
          obtain ⟨r, hr⟩ : ∃ r, r = rp l e (hw l2[i]) := ⟨_, rfl⟩
          have hrl := rp_left l e (hw l2[i])
          have hrp := rp_part l e (hw l2[i])
          rw [← hr] at hrl hrp
          obtain ⟨p, l', e'⟩ := r
          have HRR := Kit.hid hr.symm
          have HPL := Kit.hid (show p.length ≤ l.length from hrp)
          have HLL := Kit.hid (show l'.length ≤ l.length from hrl)
          clear hr hrl hrp
          go_wp2_with (first
            | (go_at_call 18; refine HL.out.mono ?_; rintro e1 w1 ⟨A1, cap1, rfl, hR1, hg1⟩
               have hd1 := hb.out.grown hg1 hb.out.size (fun k hk => by cases hk; exact HG.out)
               have HF1 := rf_other HF.out hg1 HGH.out (bytes_below hb0 hd1)
               have HRF := Kit.hid (rtake_any h A0 b cap0 k e l2[i] w1 HF1 (by omega))
               obtain ⟨_, had, hcell1⟩ := HIA.out w1 hd1
               cases had)
            | (go_at_call 22; refine HRF.out.mono ?_; rintro e2 w2 ⟨k', rfl, hF2, hdr, hg2⟩
               rw [hkl.out] at hF2 hdr
               rw [HRR.out] at hF2 hdr hR1
               have hd3 := hd1.grown hg2 hd1.size (fun k hk => by cases hk; exact HH.out)
               have HR3 := rd_other hR1 HF1 hg2 HGH.out
               have HF3 := hF2
               rw [hkl.out]))
          have f1 : ((l'.length : Int) != (b.length : Int) - (k' : Int)) = false := by
            have h1 : (b.drop k').length = l'.length := by rw [hdr]
            rw [List.length_drop] at h1
            have h2 := HF3.at_
            simp only [bne_eq_false_iff_eq]
            omega
          have f2 : (e' != e') = false := by simp
          have hkl' := HF3.at_
          have f3 : IntKind.i64.wrap ((b.length : Int) - (k' : Int)) = (b.length : Int) - (k' : Int) := Go.IntWalk.i64_in _ (by omega)
          have f4 : (endOf l' e' != endOf l' e') = false := by simp
          have CL : Hid (∀ n : Nat, Calls Try.prog 23 #[.pointer (some ⟨g, 0, none⟩)] ((w2).drewN n) fun e w' => e = .returned (.int .i64 l'.length) ∧ (w2).drewN n = w') := by
            show ∀ n, _
            intro n
            exact left_any g A1 l' cap1 e' _ (rd_below HR3 (below_drewN (Below.refl _ _) n))
          have CF : Hid (∀ n : Nat, Calls Try.prog 24 #[.pointer (some ⟨g, 0, none⟩)] ((w2).drewN n) fun e w' => e = .returned (.int .i64 e') ∧ (w2).drewN n = w') := by
            show ∀ n, _
            intro n
            exact fail_any g A1 l' cap1 e' _ (rd_below HR3 (below_drewN (Below.refl _ _) n))
          have CE : Hid (∀ n : Nat, Calls Try.prog 19 #[.pointer (some ⟨g, 0, none⟩)] ((w2).drewN n) fun e w' => e = .returned (.int .i64 (endOf l' e')) ∧ (w2).drewN n = w') := by
            show ∀ n, _
            intro n
            exact end_any g A1 l' cap1 e' _ (rd_below HR3 (below_drewN (Below.refl _ _) n))
          have CR : Hid (∀ n : Nat, Calls Try.prog 25 #[.pointer (some ⟨h, 0, none⟩)] ((w2).drewN n) fun e w'' => e = .returned (.int .i64 (endOf l' e')) ∧ ∃ m, w'' = (w2).drewN m) := by
            show ∀ n, _
            intro n
            have h1 := rend_any h A0 b cap0 k' e' ((w2).drewN n) (rf_below HF3 (below_drewN (Below.refl _ _) n))
            rw [hdr] at h1
            refine h1.mono ?_
            rintro e w' ⟨rfl, m, rfl⟩
            exact ⟨rfl, n + m, by simp⟩
          have c1 : (w2).cell? ⟨h, 1, none⟩ = some (.int .i64 k') := (blk_cell HF3.blk 1).trans rfl
          have c2 : (w2).cell? ⟨h, 2, none⟩ = some (.int .i64 e') := (blk_cell HF3.blk 2).trans rfl
          have HD3 := Kit.hid hd3
          have HR3' := Kit.hid (show RdAt (w2) g A1 l' cap1 e' from HR3)
          have HF3' := Kit.hid HF3
          have HDR := Kit.hid (show b.drop k' = l' from hdr)
          clear hdr hkl' HF3 HR3 hd3
          go_quiet (first
            | (go_at_call 23; exact quiet_left (CL.out _))
            | (go_at_call 24; exact quiet_left (CF.out _))
            | (go_at_call 19; exact quiet_left (CE.out _))
            | (go_at_call 25; exact CR.out _))
          clear f1 f2 f3 f4 c1 c2
          go_wp2_with fail
          go_roundw
          case rel => exact ⟨i + 1, by omega, by go_num, Kit.hid ⟨A1, l', cap1, k', e', rd_below HR3'.out (below_drewN (Below.refl _ _) _), rf_below HF3'.out (below_drewN (Below.refl _ _) _), HDR.out⟩, Kit.hid (below_drewN HD3.out _)⟩
          case measure => simp [intOf]; omega
        · rw [hv] at hcell3
          have HL := Kit.hid (part_any g A l cap e l2[i] wr HR.out (by omega))
          obtain ⟨r, hr⟩ : ∃ r, r = rp l e l2[i] := ⟨_, rfl⟩
          have hrl := rp_left l e l2[i]
          have hrp := rp_part l e l2[i]
          rw [← hr] at hrl hrp
          obtain ⟨p, l', e'⟩ := r
          have HRR := Kit.hid hr.symm
          have HPL := Kit.hid (show p.length ≤ l.length from hrp)
          have HLL := Kit.hid (show l'.length ≤ l.length from hrl)
          clear hr hrl hrp
          go_wp2_with (first
            | (go_at_call 20; refine HL.out.mono ?_; rintro e1 w1 ⟨B1, c1, A1, cap1, rfl, hB1, hcc1, hf1, hR1, hg1⟩
               have hd1 := hb.out.grown hg1 hb.out.size (fun k hk => by cases hk; exact HG.out)
               have HF1 := rf_other HF.out hg1 HGH.out (bytes_below hb0 hd1)
               have HRF := Kit.hid (rpart_any h A0 b cap0 k e l2[i] w1 HF1 (by omega))
               obtain ⟨_, had, hcell1⟩ := HIA.out w1 hd1
               cases had)
            | (go_at_call 21; refine HRF.out.mono ?_; rintro e2 w2 ⟨B2, c2, k', rfl, hB2, hcc2, hF2, hdr, hg2⟩
               rw [hkl.out] at hB2 hcc2 hF2 hdr
               rw [HRR.out] at hB2 hcc2 hF2 hdr hR1 hB1 hcc1
               have hd2 := hd1.grown hg2 hd1.size (fun k hk => by cases hk; exact HH.out)
               have hB12 := bytes_typed hB1 HF1.blk (three_types _ _ _ _ _) hg2
               have HR2 := Kit.hid (rd_other hR1 HF1 hg2 HGH.out)
               have HSM := Kit.hid (same_any B1 p c1 B2 p c2 w2 hB12 hB2 (by have := HPL.out; omega) (by have := HPL.out; omega))
               rw [decide_eq_true (rfl : p = p)] at HSM
               rw [hkl.out, HRR.out])
            | (go_at_call 12; refine HSM.out.mono ?_; rintro e3 w3 ⟨rfl, n3, hw3⟩
               have hb3 : Below w2.heap.size w2 w3 := by rw [hw3]; exact below_drewN (Below.refl _ _) n3
               have hd3 := hd2.trans (hb3.mono hd2.size)
               have HR3 := rd_below HR2.out hb3
               have HF3 := rf_below hF2 hb3
               clear hw3))
          have f1 : ((l'.length : Int) != (b.length : Int) - (k' : Int)) = false := by
            have h1 : (b.drop k').length = l'.length := by rw [hdr]
            rw [List.length_drop] at h1
            have h2 := HF3.at_
            simp only [bne_eq_false_iff_eq]
            omega
          have f2 : (e' != e') = false := by simp
          have hkl' := HF3.at_
          have f3 : IntKind.i64.wrap ((b.length : Int) - (k' : Int)) = (b.length : Int) - (k' : Int) := Go.IntWalk.i64_in _ (by omega)
          have f4 : (endOf l' e' != endOf l' e') = false := by simp
          have CL : Hid (∀ n : Nat, Calls Try.prog 23 #[.pointer (some ⟨g, 0, none⟩)] (w3.drewN n) fun e w' => e = .returned (.int .i64 l'.length) ∧ w3.drewN n = w') := by
            show ∀ n, _
            intro n
            exact left_any g A1 l' cap1 e' _ (rd_below HR3 (below_drewN (Below.refl _ _) n))
          have CF : Hid (∀ n : Nat, Calls Try.prog 24 #[.pointer (some ⟨g, 0, none⟩)] (w3.drewN n) fun e w' => e = .returned (.int .i64 e') ∧ w3.drewN n = w') := by
            show ∀ n, _
            intro n
            exact fail_any g A1 l' cap1 e' _ (rd_below HR3 (below_drewN (Below.refl _ _) n))
          have CE : Hid (∀ n : Nat, Calls Try.prog 19 #[.pointer (some ⟨g, 0, none⟩)] (w3.drewN n) fun e w' => e = .returned (.int .i64 (endOf l' e')) ∧ w3.drewN n = w') := by
            show ∀ n, _
            intro n
            exact end_any g A1 l' cap1 e' _ (rd_below HR3 (below_drewN (Below.refl _ _) n))
          have CR : Hid (∀ n : Nat, Calls Try.prog 25 #[.pointer (some ⟨h, 0, none⟩)] (w3.drewN n) fun e w'' => e = .returned (.int .i64 (endOf l' e')) ∧ ∃ m, w'' = w3.drewN m) := by
            show ∀ n, _
            intro n
            have h1 := rend_any h A0 b cap0 k' e' (w3.drewN n) (rf_below HF3 (below_drewN (Below.refl _ _) n))
            rw [hdr] at h1
            refine h1.mono ?_
            rintro e w' ⟨rfl, m, rfl⟩
            exact ⟨rfl, n + m, by simp⟩
          have c1 : w3.cell? ⟨h, 1, none⟩ = some (.int .i64 k') := (blk_cell HF3.blk 1).trans rfl
          have c2 : w3.cell? ⟨h, 2, none⟩ = some (.int .i64 e') := (blk_cell HF3.blk 2).trans rfl
          have HD3 := Kit.hid hd3
          have HR3' := Kit.hid (show RdAt w3 g A1 l' cap1 e' from HR3)
          have HF3' := Kit.hid HF3
          have HDR := Kit.hid (show b.drop k' = l' from hdr)
          clear hdr hkl' HF3 HR3 hd3
          go_quiet (first
            | (go_at_call 23; exact quiet_left (CL.out _))
            | (go_at_call 24; exact quiet_left (CF.out _))
            | (go_at_call 19; exact quiet_left (CE.out _))
            | (go_at_call 25; exact CR.out _))
          clear f1 f2 f3 f4 c1 c2
          go_wp2_with fail
          go_roundw
          case rel => exact ⟨i + 1, by omega, by go_num, Kit.hid ⟨A1, l', cap1, k', e', rd_below HR3'.out (below_drewN (Below.refl _ _) _), rf_below HF3'.out (below_drewN (Below.refl _ _) _), HDR.out⟩, Kit.hid (below_drewN HD3.out _)⟩
          case measure => simp [intOf]; omega
      · have g3 : decide ((i : Int) < (l3.length : Int)) = false := decide_eq_false (by omega)
        have HL := Kit.hid (take_any g A l cap e l2[i] wr HR.out (by omega))
        obtain ⟨r, hr⟩ : ∃ r, r = rp l e (hw l2[i]) := ⟨_, rfl⟩
        have hrl := rp_left l e (hw l2[i])
        have hrp := rp_part l e (hw l2[i])
        rw [← hr] at hrl hrp
        obtain ⟨p, l', e'⟩ := r
        have HRR := Kit.hid hr.symm
        have HPL := Kit.hid (show p.length ≤ l.length from hrp)
        have HLL := Kit.hid (show l'.length ≤ l.length from hrl)
        clear hr hrl hrp
        go_wp2_with (first
          | (go_at_call 18; refine HL.out.mono ?_; rintro e1 w1 ⟨A1, cap1, rfl, hR1, hg1⟩
             have hd1 := hb.out.grown hg1 hb.out.size (fun k hk => by cases hk; exact HG.out)
             have HF1 := rf_other HF.out hg1 HGH.out (bytes_below hb0 hd1)
             have HRF := Kit.hid (rtake_any h A0 b cap0 k e l2[i] w1 HF1 (by omega))
             obtain ⟨_, had, hcell1⟩ := HIA.out w1 hd1
             cases had)
          | (go_at_call 22; refine HRF.out.mono ?_; rintro e2 w2 ⟨k', rfl, hF2, hdr, hg2⟩
             rw [hkl.out] at hF2 hdr
             rw [HRR.out] at hF2 hdr hR1
             have hd3 := hd1.grown hg2 hd1.size (fun k hk => by cases hk; exact HH.out)
             have HR3 := rd_other hR1 HF1 hg2 HGH.out
             have HF3 := hF2
             rw [hkl.out]))
        have f1 : ((l'.length : Int) != (b.length : Int) - (k' : Int)) = false := by
          have h1 : (b.drop k').length = l'.length := by rw [hdr]
          rw [List.length_drop] at h1
          have h2 := HF3.at_
          simp only [bne_eq_false_iff_eq]
          omega
        have f2 : (e' != e') = false := by simp
        have hkl' := HF3.at_
        have f3 : IntKind.i64.wrap ((b.length : Int) - (k' : Int)) = (b.length : Int) - (k' : Int) := Go.IntWalk.i64_in _ (by omega)
        have f4 : (endOf l' e' != endOf l' e') = false := by simp
        have CL : Hid (∀ n : Nat, Calls Try.prog 23 #[.pointer (some ⟨g, 0, none⟩)] ((w2).drewN n) fun e w' => e = .returned (.int .i64 l'.length) ∧ (w2).drewN n = w') := by
          show ∀ n, _
          intro n
          exact left_any g A1 l' cap1 e' _ (rd_below HR3 (below_drewN (Below.refl _ _) n))
        have CF : Hid (∀ n : Nat, Calls Try.prog 24 #[.pointer (some ⟨g, 0, none⟩)] ((w2).drewN n) fun e w' => e = .returned (.int .i64 e') ∧ (w2).drewN n = w') := by
          show ∀ n, _
          intro n
          exact fail_any g A1 l' cap1 e' _ (rd_below HR3 (below_drewN (Below.refl _ _) n))
        have CE : Hid (∀ n : Nat, Calls Try.prog 19 #[.pointer (some ⟨g, 0, none⟩)] ((w2).drewN n) fun e w' => e = .returned (.int .i64 (endOf l' e')) ∧ (w2).drewN n = w') := by
          show ∀ n, _
          intro n
          exact end_any g A1 l' cap1 e' _ (rd_below HR3 (below_drewN (Below.refl _ _) n))
        have CR : Hid (∀ n : Nat, Calls Try.prog 25 #[.pointer (some ⟨h, 0, none⟩)] ((w2).drewN n) fun e w'' => e = .returned (.int .i64 (endOf l' e')) ∧ ∃ m, w'' = (w2).drewN m) := by
          show ∀ n, _
          intro n
          have h1 := rend_any h A0 b cap0 k' e' ((w2).drewN n) (rf_below HF3 (below_drewN (Below.refl _ _) n))
          rw [hdr] at h1
          refine h1.mono ?_
          rintro e w' ⟨rfl, m, rfl⟩
          exact ⟨rfl, n + m, by simp⟩
        have c1 : (w2).cell? ⟨h, 1, none⟩ = some (.int .i64 k') := (blk_cell HF3.blk 1).trans rfl
        have c2 : (w2).cell? ⟨h, 2, none⟩ = some (.int .i64 e') := (blk_cell HF3.blk 2).trans rfl
        have HD3 := Kit.hid hd3
        have HR3' := Kit.hid (show RdAt (w2) g A1 l' cap1 e' from HR3)
        have HF3' := Kit.hid HF3
        have HDR := Kit.hid (show b.drop k' = l' from hdr)
        clear hdr hkl' HF3 HR3 hd3
        go_quiet (first
          | (go_at_call 23; exact quiet_left (CL.out _))
          | (go_at_call 24; exact quiet_left (CF.out _))
          | (go_at_call 19; exact quiet_left (CE.out _))
          | (go_at_call 25; exact CR.out _))
        clear f1 f2 f3 f4 c1 c2
        go_wp2_with fail
        go_roundw
        case rel => exact ⟨i + 1, by omega, by go_num, Kit.hid ⟨A1, l', cap1, k', e', rd_below HR3'.out (below_drewN (Below.refl _ _) _), rf_below HF3'.out (below_drewN (Below.refl _ _) _), HDR.out⟩, Kit.hid (below_drewN HD3.out _)⟩
        case measure => simp [intOf]; omega
    · go_wp2_with (first
        | (go_at_call 19; refine (end_any g A l cap e _ HR).mono ?_; rintro e1 w1 ⟨rfl, rfl⟩)
        | (go_at_call 25; refine (rend_any h A0 b cap0 k e _ HF).mono ?_; rintro e2 w2 ⟨rfl, n2, rfl⟩; rw [hkl.out]))
      go_ret
      exact ⟨ret_bool (by simp), below_drewN hb.out _⟩
theorem takesLaw_any (A0 : Option Addr) (b : List (BitVec 8)) (cap0 : Nat) (A2 : Option Addr) (l2 : List Int) (cap2 : Nat) (A3 : Option Addr) (l3 : List Bool) (cap3 : Nat) (w : World) (hb0 : Hid (Bytes w A0 b)) (hi2 : Hid (Ints .i64 w A2 l2)) (hi3 : Hid (Bools w A3 l3))
    (hc0 : b.length ≤ cap0) (hl3 : l3.length ≤ maxLen) (hA0 : ∀ ad, A0 = some ad → ad.block < w.heap.size) :
    Calls Try.prog 7 #[.slice A0 b.length cap0, .slice A2 l2.length cap2, .slice A3 l3.length cap3] w fun e w' => e = .returned (.bool true) ∧ Below w.heap.size w w' := by
  by_cases h0 : 200 < b.length
  · have g1 : decide (200 < (b.length : Int)) = true := decide_eq_true (by omega)
    go_enter Try.func7, Try.ntmps7
    go_wp2_with (go_at_call 10; refine (awake_any _).mono ?_; rintro e w1 ⟨rfl, hd1⟩)
    go_ret
    exact ⟨rfl, hd1⟩
  · by_cases h2 : 50 < l2.length
    · have g1 : decide (200 < (b.length : Int)) = false := decide_eq_false (by omega)
      have g2 : decide (50 < (l2.length : Int)) = true := decide_eq_true (by omega)
      go_enter Try.func7, Try.ntmps7
      go_wp2_with (go_at_call 10; refine (awake_any _).mono ?_; rintro e w1 ⟨rfl, hd1⟩)
      go_ret
      exact ⟨rfl, hd1⟩
    · exact takes_any A0 b cap0 A2 l2 cap2 A3 l3 cap3 w hb0 hi2 hi3 (by omega) (by omega) hc0 hl3 hA0
end Go.Proofs.Ytpgfjiglkmpnaaa.Le

/- The law ParcelBursts. -/
import Derived.Test.YtlmbghemlphoaaaDoorPaQ
import Derived.Test.YtlmbghemlphoaaaDoorPaV
namespace Go.Proofs.YtlmbghemlphoaaaDoor.Pa
open Go.RowKit Go.Proofs.YtlmbghemlphoaaaDoor.Kit Go.Proofs.YtlmbghemlphoaaaDoor.PaM Go.Proofs.YtlmbghemlphoaaaDoor.Le Go.IntWalk
set_option linter.unusedVariables false
set_option linter.unusedSimpArgs false
theorem shl_nat (p : Nat) : ((1#8 <<< p).toNat : Int) = 2 ^ p % 256 := by
  rw [BitVec.toNat_shiftLeft, Nat.shiftLeft_eq]
  simp
theorem wrap_u8 {n : Int} (h0 : 0 ≤ n) (h1 : n < 256) : IntKind.u8.wrap n = n := by
  rw [IntKind.wrap_u8]; omega
theorem bits_xor_u8 (a b : BitVec 8) : bits .xor .u8 (a.toNat : Int) (b.toNat : Int) = ((a ^^^ b).toNat : Int) := by
  unfold bits
  simp only [IntKind.bits, Crc.ofInt_nat, BitVec.ofNat_toNat, BitVec.setWidth_eq]
  have := (a ^^^ b).isLt
  exact wrap_u8 (by omega) (by omega)
/-- What holds of the text behind i bits. -/
structure Bu (l : List (BitVec 8)) (k i : Nat) (X : List (BitVec 8)) (c : Bool) : Prop where
  len : X.length = l.length
  dif : ∀ j, bit X j ≠ bit l j → k ≤ j ∧ j < k + i
  c : c = !decide (X = l)
theorem Bu.start (l : List (BitVec 8)) (k : Nat) : Bu l k 0 l false := ⟨rfl, fun j h => absurd rfl h, by simp⟩
theorem Bu.none {l : List (BitVec 8)} {k i : Nat} {X : List (BitVec 8)} {c : Bool} (h : Bu l k i X c) : Bu l k (i + 1) X c := ⟨h.len, fun j hj => by have := h.dif j hj; omega, h.c⟩
theorem Bu.one {l : List (BitVec 8)} {k i : Nat} {X : List (BitVec 8)} {c : Bool} (h : Bu l k i X c) {q p : Nat} (hq : q = (k + i) / 8) (hp : p = (k + i) % 8) (hX : q < X.length) :
    Bu l k (i + 1) (X.set q (X[q] ^^^ (1#8 <<< p))) true := by
  subst hq hp
  refine ⟨by simp [h.len], fun j hj => ?_, ?_⟩
  · rw [bit_flip hX] at hj
    by_cases e : j = k + i
    · omega
    · rw [if_neg e] at hj
      have := h.dif j hj
      omega
  · have h1 : bit X (k + i) = bit l (k + i) := Classical.byContradiction fun n => by have := h.dif _ n; omega
    have h2 : bit (X.set ((k + i) / 8) (X[(k + i) / 8] ^^^ (1#8 <<< ((k + i) % 8)))) (k + i) = !bit l (k + i) := by rw [bit_flip hX, if_pos rfl, h1]
    have hne : X.set ((k + i) / 8) (X[(k + i) / 8] ^^^ (1#8 <<< ((k + i) % 8))) ≠ l := by
      intro e
      rw [e] at h2
      revert h2
      cases bit l (k + i) <;> simp
    simp [hne]
theorem Bu.unp {l : List Sec} {k i : Nat} {X : List (BitVec 8)} {c : Bool} (h : Bu (img l) k i X c) (hi : i ≤ 32) (hw : wrong l = 0) : ((PaM.unp X).1 != 0) = c := by
  rw [h.c]
  by_cases e : X = img l
  · rw [e, unp_img hw]; simp
  · have hn : Near (img l) X := ⟨h.len.symm, fun a b ha hb => by
      have h1 := h.dif a (fun e => ha e.symm)
      have h2 := h.dif b (fun e => hb e.symm)
      omega⟩
    have := unp_near hw hn e
    simp [e, this]
theorem unpq_any (A : Option Addr) (b : List (BitVec 8)) (n cap : Nat) (x : Int) (w : World) (hT : Hid (Crc.Tab w)) (hb : Hid (Bytes w A b)) (hn : b.length = n) (hl : n ≤ 140737488351232) (hc : n ≤ cap) (hx : (unp b).1 = x) :
    Calls Tryd.prog 10 #[.slice A n cap] w fun e w' => ∃ (A' : Option Addr) (n' cap' : Nat), e = .returned (.tuple #[.slice A' n' cap', .int .i64 x]) ∧ Below w.heap.size w w' := by
  subst hn
  refine (unp_any A b cap w hT hb hl hc).mono ?_
  rintro e w' ⟨A', n', cap', ls, rfl, _, _, _, _, _, hd⟩
  exact ⟨A', n', cap', by rw [hx], hd⟩
theorem img_bd {l : List Sec} (hw : wrong l = 0) : 13 ≤ (img l).length ∧ (img l).length ≤ 1100000 := by
  rw [img_length]
  obtain ⟨h1, _, h3⟩ := wrong_ok hw
  have := bodies_bd l h3
  omega
/-- What is not looked at. -/
theorem bursts_odd (A : Option Addr) (l : List SecM) (cap : Nat) (at' by' cu : Int) (B : Option Addr) (m : List (BitVec 8)) (capm : Nat) (w : World) (hT : Hid (Crc.Tab w)) (hs : Hid (Secs w A l)) (hl : l.length ≤ 9223372036854775807) (h : fewM l = false ∨ wrongM l ≠ 0 ∨ 100 < m.length) :
    Calls Tryd.prog 5 #[.slice A l.length cap, .int .u16 at', .int .u32 by', .int .u16 cu, .slice B m.length capm] w fun e w' => e = .returned (.bool true) ∧ Below w.heap.size w w' := by
  have HAW := Kit.hid (awake_any w hT)
  have HFW : Hid (∀ w', Hid (Secs w' A l) → Calls Tryd.prog 13 #[.slice A l.length cap] w' fun e w'' => e = .returned (.bool (fewM l)) ∧ w' = w'') := Kit.hid (fun w' h => few_any A l cap w' h hl)
  obtain ⟨y, hy⟩ : ∃ y, y = wrongM l := ⟨_, rfl⟩
  have HPA : Hid (∀ w', Hid (Crc.Tab w') → Hid (Secs w' A l) → Calls Tryd.prog 14 #[.slice A l.length cap] w' fun e w'' => ∃ (A' : Option Addr) (n' cap' : Nat), e = .returned (.tuple #[.slice A' n' cap', .int .i64 y]) ∧ Below w'.heap.size w' w'') := Kit.hid (fun w' h1 h2 => by
    by_cases hw : wrongM l = 0
    · refine (pack_ok A l cap _ w' h1 h2 hl hw rfl).mono ?_
      rintro e w3 ⟨A3, cap3, rfl, hB3, hc3, hd3⟩
      exact ⟨A3, _, cap3, by rw [hy, hw], hd3⟩
    · refine (pack_fails A l cap y w' h1 h2 hl hy.symm (by rw [hy]; exact hw)).mono ?_
      rintro e w3 ⟨A3, cap3, rfl, hd3⟩
      exact ⟨A3, 0, cap3, rfl, hd3⟩)
  rw [← hy] at h
  clear hy
  obtain ⟨fw, hfw⟩ : ∃ fw, fw = fewM l := ⟨_, rfl⟩
  rw [← hfw] at h HFW
  clear hfw
  rcases h with h | h | h
  · subst h
    go_enter Tryd.func5, Tryd.ntmps5
    go_wp2_with (first
      | (go_at_call 9; (with_reducible refine HAW.out.mono ?_); rintro e w1 ⟨rfl, hd1⟩
         have hs1 := secs_below hs hd1
         have CF := Kit.hid (HFW.out w1 hs1)
         have CP := Kit.hid (HPA.out w1 (Crc.tab_below hT hd1) hs1))
      | (go_at_call 13; (with_reducible refine CF.out.mono ?_); rintro e w2 ⟨rfl, rfl⟩)
      | (go_at_call 14; (with_reducible refine CP.out.mono ?_); rintro e w3 ⟨A3, n3, cap3, rfl, hd3⟩
         have hb3 := Kit.hid (hd1.trans (hd3.mono hd1.size))))
    go_ret
    exact ⟨by simp, hb3.out⟩
  · have gy : (y != 0) = true := by simp only [bne_iff_ne]; exact h
    clear h
    cases fw
    all_goals
      go_enter Tryd.func5, Tryd.ntmps5
      go_wp2_with (first
        | (go_at_call 9; (with_reducible refine HAW.out.mono ?_); rintro e w1 ⟨rfl, hd1⟩
           have hs1 := secs_below hs hd1
           have CF := Kit.hid (HFW.out w1 hs1)
           have CP := Kit.hid (HPA.out w1 (Crc.tab_below hT hd1) hs1))
        | (go_at_call 13; (with_reducible refine CF.out.mono ?_); rintro e w2 ⟨rfl, rfl⟩)
        | (go_at_call 14; (with_reducible refine CP.out.mono ?_); rintro e w3 ⟨A3, n3, cap3, rfl, hd3⟩
           have hb3 := Kit.hid (hd1.trans (hd3.mono hd1.size))))
      go_ret
      exact ⟨by simp, hb3.out⟩
  · have g1 : (100 : Int) < (m.length : Int) := by omega
    have gm : ∃ z, z = (y != 0) := ⟨_, rfl⟩
    obtain ⟨z, hz⟩ := gm
    have hz' : (y != 0) = z := hz.symm
    clear h hz
    cases fw
    all_goals
      cases z
      all_goals
        go_enter Tryd.func5, Tryd.ntmps5
        go_wp2_with (first
          | (go_at_call 9; (with_reducible refine HAW.out.mono ?_); rintro e w1 ⟨rfl, hd1⟩
             have hs1 := secs_below hs hd1
             have CF := Kit.hid (HFW.out w1 hs1)
             have CP := Kit.hid (HPA.out w1 (Crc.tab_below hT hd1) hs1))
          | (go_at_call 13; (with_reducible refine CF.out.mono ?_); rintro e w2 ⟨rfl, rfl⟩)
          | (go_at_call 14; (with_reducible refine CP.out.mono ?_); rintro e w3 ⟨A3, n3, cap3, rfl, hd3⟩
             have hb3 := Kit.hid (hd1.trans (hd3.mono hd1.size))))
        go_ret
        exact ⟨by simp, hb3.out⟩
set_option maxRecDepth 100000 in
set_option maxHeartbeats 3200000 in
theorem bursts_any (A : Option Addr) (l : List SecM) (cap : Nat) (at' by' cu : Int) (B : Option Addr) (m : List (BitVec 8)) (capm : Nat) (w : World) (hT : Hid (Crc.Tab w)) (hs : Hid (Secs w A l)) (hl : l.length ≤ 9223372036854775807)
    (hf : fewM l = true) (hw : wrongM l = 0) (hm : m.length ≤ 100) (ha0 : 0 ≤ at') (ha1 : at' ≤ 65535) (hb1 : 0 ≤ by') (hb2 : by' ≤ 4294967295) (hc1 : 0 ≤ cu) (hc2 : cu ≤ 65535) (hB : Hid (Bytes w B m)) (hBc : m.length ≤ capm) :
    Calls Tryd.prog 5 #[.slice A l.length cap, .int .u16 at', .int .u32 by', .int .u16 cu, .slice B m.length capm] w fun e w' => e = .returned (.bool true) ∧ Below w.heap.size w w' := by
  have HAW := Kit.hid (awake_any w hT)
  have HFW : Hid (∀ w', Hid (Secs w' A l) → Calls Tryd.prog 13 #[.slice A l.length cap] w' fun e w'' => e = .returned (.bool (fewM l)) ∧ w' = w'') := Kit.hid (fun w' h => few_any A l cap w' h hl)
  rw [hf] at HFW
  have HPA : Hid (∀ w', Hid (Crc.Tab w') → Hid (Secs w' A l) → Calls Tryd.prog 14 #[.slice A l.length cap] w' (PackOk w' (img (l.map SecM.sec)) (img (l.map SecM.sec)).length)) := Kit.hid (fun w' h1 h2 => pack_ok A l cap _ w' h1 h2 hl hw rfl)
  unfold PackOk at HPA
  have HW : Hid (wrong (l.map SecM.sec) = 0) := Kit.hid hw
  have hbd := img_bd HW.out
  obtain ⟨im, him⟩ : ∃ im, im = img (l.map SecM.sec) := ⟨_, rfl⟩
  rw [← him] at HPA hbd
  have HIM := Kit.hid him
  obtain ⟨hn1, hn2⟩ := hbd
  clear hf hw him
  obtain ⟨k, hk⟩ := Int.eq_ofNat_of_zero_le (Int.emod_nonneg at' (b := 8 * (im.length : Int)) (by omega))
  have hkl : k < 8 * im.length := by
    have := Int.emod_lt_of_pos at' (b := 8 * (im.length : Int)) (by omega)
    rw [hk] at this
    omega
  obtain ⟨z, hz⟩ := Int.eq_ofNat_of_zero_le (Int.emod_nonneg cu (b := (im.length : Int)) (by omega))
  have hzl : z < im.length := by
    have := Int.emod_lt_of_pos cu (b := (im.length : Int)) (by omega)
    rw [hz] at this
    omega
  have HZ := Kit.hid hz
  have g1 : decide ((im.length : Int) < 13) = false := decide_eq_false (by omega)
  have g2 : decide ((100 : Int) < (m.length : Int)) = false := decide_eq_false (by omega)
  clear hz
  go_enter Tryd.func5, Tryd.ntmps5
  go_wp2_with (first
    | (go_at_call 9; (with_reducible refine HAW.out.mono ?_); rintro e w1 ⟨rfl, hd1⟩
       have hs1 := secs_below hs hd1
       have CF := Kit.hid (HFW.out w1 hs1)
       have CP := Kit.hid (HPA.out w1 (Crc.tab_below hT hd1) hs1))
    | (go_at_call 13; (with_reducible refine CF.out.mono ?_); rintro e w2 ⟨rfl, rfl⟩)
    | (go_at_call 14; (with_reducible refine CP.out.mono ?_); rintro e w3 ⟨A3, cap3, rfl, hB3, hc3, hd3⟩
       obtain ⟨ad3, hA3, _⟩ := hB3.out 0 (by omega)
       subst hA3
       have hb3 := hd1.trans (hd3.mono hd1.size)
       have hown0 := World.ownsRow_lit (base := w3.heap.size) (e := 5) (size := 1) w3 #[] 0 (Nat.le_refl _) (by decide) rfl)
    | (at_builtin; refine wpList_append_src rfl _ _ 22 rfl w3.heap.size 5 (.int .u8 0) 1 Tryd.underlying22 infoB rfl _ 0 _ rfl hown0 (some ad3) im.length cap3 (im.map byteV) rfl (by simp) (cells_of_bytes (bytes_below hB3 ((Below.refl _ _).alloc (Nat.le_refl _) _))) (one_byteV _) (by unfold maxLen; omega) (by omega) (by simp) ?_
       intro v2 w2 hown2 hg2 _
       have hd2 := below_own ((Below.refl _ _).alloc (Nat.le_refl _) _) hown0 hg2 (by simp)
       rw [Nat.zero_add, List.nil_append] at hown2
       obtain ⟨g, cap2, rfl, hg, hgl, hcap⟩ := own_form hown2 (by omega)))
  have hb2 := Kit.hid (hb3.trans (hd2.mono hb3.size))
  clear hown0 hg2 g1
  have HO := Kit.hid hown2
  have HD := Kit.hid hd2
  clear hown2 hd2
  rw [hk]
  clear hk
  have hn3 : im.length ≤ cap3 := hc3
  go_loopw [2, 17, 18] (fun v2 v17 v18 wr => ∃ (i : Nat) (b : Int) (c : Bool) (X : List (BitVec 8)), i ≤ 32 ∧ v18 = .int .i64 i ∧ v2 = .int .u32 b ∧ 0 ≤ b ∧ b ≤ 4294967295 ∧ v17 = .bool c ∧ Hid (Bu im k i X c) ∧
      Hid (wr.ownsRow w3.heap.size 5 1 (.slice (some ⟨g, 0, none⟩) im.length cap2) im.length (X.map byteV)) ∧ Hid (Below w3.heap.size w3 wr)) (fun _ _ i _ => 32 - (intOf i).toNat)
  case atStart => exact ⟨0, by', false, im, by omega, rfl, rfl, hb1, by omega, rfl, Kit.hid (Bu.start im k), HO, HD⟩
  case round =>
    obtain ⟨i, b, c, X, hi, rfl, rfl, hb5, hb6, rfl, hX, ho, hb⟩ := hrel
    by_cases hlt : i < 32 ∧ k + i < 8 * im.length
    · obtain ⟨hl1, hl2⟩ := hlt
      have hcond : (k : Int) + (i : Int) < 8 * (im.length : Int) := by omega
      by_cases hodd : b % 2 = 1
      · have g2 : (b % 2 == 1) = true := by simp [hodd]
        have g5 : b / 2 ≤ 4294967295 := by omega
        have g6 : 0 ≤ b / 2 := by omega
        clear hodd
        obtain ⟨s, hs⟩ : ∃ s : Nat, s = k + i := ⟨_, rfl⟩
        have hs1 : (k : Int) + (i : Int) = (s : Int) := by omega
        rw [← hs] at hl2
        obtain ⟨q, hq⟩ : ∃ q : Nat, q = s / 8 := ⟨_, rfl⟩
        obtain ⟨p, hp⟩ : ∃ p : Nat, p = s % 8 := ⟨_, rfl⟩
        have hq1 : (s : Int) / 8 = (q : Int) := by omega
        have hp1 : (s : Int) % 8 = (p : Int) := by omega
        have hq2 : q < im.length := by omega
        have hp2 : p < 8 := by omega
        have HS := Kit.hid hs
        have HQ := Kit.hid hq
        have HP := Kit.hid hp
        clear hs hq hp
        go_wp2
        have r1 : IntKind.i64.wrap (s : Int) = (s : Int) := Go.IntWalk.i64_in _ (by omega)
        have r2 : IntKind.i64.wrap (q : Int) = (q : Int) := Go.IntWalk.i64_in _ (by omega)
        have r3 : IntKind.i64.wrap (p : Int) = (p : Int) := Go.IntWalk.i64_in _ (by omega)
        have r4 : (s : Int).tdiv 8 = (q : Int) := by rw [Int.tdiv_eq_ediv_of_nonneg (by omega)]; exact hq1
        have r5 : (s : Int).tmod 8 = (p : Int) := by rw [Int.tmod_eq_emod_of_nonneg (by omega)]; exact hp1
        have i1 : 0 ≤ (q : Int) := by omega
        have i2 : (q : Int) < (im.length : Int) := by omega
        have hxl : q < X.length := by rw [hX.out.len]; exact hq2
        have hcx := World.ownsRow.cellAt ho.out q (by omega)
        have hfx := World.ownsRow.frozenAt ho.out q
        have e1 := bits_xor_u8 X[q] (1#8 <<< p)
        rw [shl_nat p] at e1
        obtain ⟨x, hx⟩ : ∃ x, x = X[q] := ⟨_, rfl⟩
        obtain ⟨y, hy⟩ : ∃ y, y = x ^^^ (1#8 <<< p) := ⟨_, rfl⟩
        rw [← hx, ← hy] at e1
        have hcx2 : wr.cell? ⟨g, q, none⟩ = some (.int .u8 (x.toNat : Int)) := by
          rw [hcx]
          simp [byteV, hxl, hx]
        have hst := Kit.hid (World.ownsRow.stored ho.out q (byteV y)).1
        have HXX := Kit.hid hx
        have HY := Kit.hid hy
        clear hcx hx hy
        go_region
        go_wp2
        go_roundw
        case rel =>
          refine ⟨i + 1, b / 2, true, X.set q y, by omega, by go_num, rfl, g6, g5, rfl, ?_, ?_, ?_⟩
          · have h := hX.out.one (q := q) (p := p) (by rw [← HS.out]; exact HQ.out) (by rw [← HS.out]; exact HP.out) hxl
            rw [← HXX.out, ← HY.out] at h
            exact Kit.hid h
          · have h := hst.out
            rw [← List.map_set] at h
            exact Kit.hid h
          · exact Kit.hid (hb.out.setCell (p := ⟨g, q, none⟩) hg (byteV y)).drew
        case measure => simp [intOf]; omega
      · have g2 : (b % 2 == 1) = false := by simpa using hodd
        have g5 : b / 2 ≤ 4294967295 := by omega
        have g6 : 0 ≤ b / 2 := by omega
        clear hodd
        go_wp2
        go_roundw
        case rel => exact ⟨i + 1, b / 2, c, X, by omega, by go_num, rfl, g6, g5, rfl, Kit.hid hX.out.none, ho, hb⟩
        case measure => simp [intOf]; omega
    · have hT3 := Crc.tab_below hT hb3
      have hbr := hb3.trans (hb.out.mono hb3.size)
      have hTr := Crc.tab_below hT hbr
      have hBr := bytes_below hB3 hb.out
      have HLX := Kit.hid hX.out.len
      have hXr : Hid (Bytes wr (some ⟨g, 0, none⟩) X) := by
        obtain ⟨A', cap', hv, hc, _⟩ := own_reads ho.out
        cases hv
        exact bytes_of_cells hc
      obtain ⟨x, hx⟩ : ∃ x, x = (unp X).1 := ⟨_, rfl⟩
      have gx : (x != 0) = c := by
        rw [hx]
        have h := hX.out
        rw [HIM.out] at h
        exact h.unp hi HW.out
      have CX := Kit.hid (unpq_any (some ⟨g, 0, none⟩) X im.length cap2 x wr hTr hXr HLX.out (by omega) hcap hx.symm)
      have HCUT : Hid (∀ w', Hid (Crc.Tab w') → Hid (Bytes w' (some ad3) im) → Calls Tryd.prog 10 #[.slice (some ad3) z cap3] w' fun e w'' => ∃ (A' : Option Addr) (n' cap' : Nat), e = .returned (.tuple #[.slice A' n' cap', .int .i64 2]) ∧ Below w'.heap.size w' w'') := Kit.hid (fun w' h1 h2 =>
        unpq_any (some ad3) (im.take z) z cap3 2 w' h1 (Le.bytes_take h2 z) (by rw [List.length_take]; omega) (by omega) (by omega) (by rw [HIM.out]; rw [img_take HW.out (by rw [← HIM.out]; exact hzl)]))
      obtain ⟨x3, e3, hx3, y1, y2, y3, y4⟩ : ∃ (x3 : Int) (e3 : Bool), x3 = (unp (im ++ m)).1 ∧ (x3 == 0) = e3 ∧ (x3 == 3) = (!e3) ∧ ((m.length : Int) == 0) = e3 ∧ decide ((0 : Int) < (m.length : Int)) = (!e3) := by
        by_cases hm0 : m.length = 0
        · have : m = [] := List.length_eq_zero_iff.1 hm0
          subst this
          refine ⟨0, true, ?_, rfl, rfl, rfl, rfl⟩
          rw [List.append_nil, HIM.out, unp_img HW.out]
        · refine ⟨3, false, ?_, rfl, rfl, beq_eq_false_iff_ne.2 (by omega), decide_eq_true (by omega)⟩
          rw [HIM.out, img_more HW.out (by omega)]
      have HX3 := Kit.hid hx3
      have HY5 : Hid (e3 = !decide (0 < m.length)) := Kit.hid (by
        by_cases hm0 : m.length = 0
        · rw [← y3, hm0]; rfl
        · rw [← y3, decide_eq_true (show 0 < m.length by omega)]; exact beq_eq_false_iff_ne.2 (by omega))
      have hz := HZ.out
      clear hx hx3 hT3
      by_cases h32 : i < 32
      · have h2 : ¬ (k : Int) + (i : Int) < 8 * (im.length : Int) := by omega
        clear hlt
        go_wp2_with (first
          | (go_at_call 10; (with_reducible refine CX.out.mono ?_); rintro e w5 ⟨A5, n5, cap5, rfl, hd5⟩
             have hb5 := hbr.trans (hd5.mono hbr.size)
             have CU := Kit.hid (HCUT.out w5 (Crc.tab_below hT hb5) (bytes_below hBr hd5)))
          | (go_at_call 10; (with_reducible refine CU.out.mono ?_); rintro e w6 ⟨A6, n6, cap6, rfl, hd6⟩
             have hb6 := hb5.trans (hd6.mono hb5.size)
             have hB6 := bytes_below (bytes_below hBr hd5) hd6
             have hown6 := World.ownsRow_lit (base := w6.heap.size) (e := 5) (size := 1) w6 #[] 0 (Nat.le_refl _) (by decide) rfl)
          | (at_builtin; refine wpList_append_src rfl _ _ 22 rfl w6.heap.size 5 (.int .u8 0) 1 Tryd.underlying22 infoB rfl _ 0 _ rfl hown6 (some ad3) im.length cap3 (im.map byteV) rfl (by simp) (cells_of_bytes (bytes_below hB6 ((Below.refl _ _).alloc (Nat.le_refl _) _))) (one_byteV _) (by unfold maxLen; omega) (by omega) (by simp) ?_
             intro v7 w7 hown7 hg7 _
             have hd7 := below_own ((Below.refl _ _).alloc (Nat.le_refl _) _) hown6 hg7 (by simp)
             rw [Nat.zero_add, List.nil_append] at hown7
             clear hown6 hg7)
          | (at_builtin; refine wpList_append_src rfl _ _ 22 rfl w6.heap.size 5 (.int .u8 0) 1 Tryd.underlying22 infoB rfl v7 im.length (im.map byteV) rfl hown7 B m.length capm (m.map byteV) rfl (by simp) (cells_of_bytes (bytes_below (bytes_below hB hb6) hd7)) (one_byteV _) (by unfold maxLen; omega) (by omega) hd7.size ?_
             intro v8 w8 hown8 hg8 _
             have hd8 := below_own hd7 hown7 hg8 hd7.size
             rw [← List.map_append] at hown8
             obtain ⟨A8, cap8, hv8, hc8, hle8, _⟩ := own_reads hown8
             subst hv8
             have hb8 := hb6.trans (hd8.mono hb6.size)
             have CM := Kit.hid (unpq_any A8 (im ++ m) (im.length + m.length) cap8 x3 w8 (Crc.tab_below hT hb8) (bytes_of_cells hc8) List.length_append (by omega) hle8 HX3.out.symm))
          | (go_at_call 10; (with_reducible refine CM.out.mono ?_); rintro e w9 ⟨A9, n9, cap9, rfl, hd9⟩
             have hb9 := Kit.hid (hb8.trans (hd9.mono hb8.size))))
        go_ret
        exact ⟨by simp; exact HY5.out, hb9.out⟩
      · clear hlt
        go_wp2_with (first
          | (go_at_call 10; (with_reducible refine CX.out.mono ?_); rintro e w5 ⟨A5, n5, cap5, rfl, hd5⟩
             have hb5 := hbr.trans (hd5.mono hbr.size)
             have CU := Kit.hid (HCUT.out w5 (Crc.tab_below hT hb5) (bytes_below hBr hd5)))
          | (go_at_call 10; (with_reducible refine CU.out.mono ?_); rintro e w6 ⟨A6, n6, cap6, rfl, hd6⟩
             have hb6 := hb5.trans (hd6.mono hb5.size)
             have hB6 := bytes_below (bytes_below hBr hd5) hd6
             have hown6 := World.ownsRow_lit (base := w6.heap.size) (e := 5) (size := 1) w6 #[] 0 (Nat.le_refl _) (by decide) rfl)
          | (at_builtin; refine wpList_append_src rfl _ _ 22 rfl w6.heap.size 5 (.int .u8 0) 1 Tryd.underlying22 infoB rfl _ 0 _ rfl hown6 (some ad3) im.length cap3 (im.map byteV) rfl (by simp) (cells_of_bytes (bytes_below hB6 ((Below.refl _ _).alloc (Nat.le_refl _) _))) (one_byteV _) (by unfold maxLen; omega) (by omega) (by simp) ?_
             intro v7 w7 hown7 hg7 _
             have hd7 := below_own ((Below.refl _ _).alloc (Nat.le_refl _) _) hown6 hg7 (by simp)
             rw [Nat.zero_add, List.nil_append] at hown7
             clear hown6 hg7)
          | (at_builtin; refine wpList_append_src rfl _ _ 22 rfl w6.heap.size 5 (.int .u8 0) 1 Tryd.underlying22 infoB rfl v7 im.length (im.map byteV) rfl hown7 B m.length capm (m.map byteV) rfl (by simp) (cells_of_bytes (bytes_below (bytes_below hB hb6) hd7)) (one_byteV _) (by unfold maxLen; omega) (by omega) hd7.size ?_
             intro v8 w8 hown8 hg8 _
             have hd8 := below_own hd7 hown7 hg8 hd7.size
             rw [← List.map_append] at hown8
             obtain ⟨A8, cap8, hv8, hc8, hle8, _⟩ := own_reads hown8
             subst hv8
             have hb8 := hb6.trans (hd8.mono hb6.size)
             have CM := Kit.hid (unpq_any A8 (im ++ m) (im.length + m.length) cap8 x3 w8 (Crc.tab_below hT hb8) (bytes_of_cells hc8) List.length_append (by omega) hle8 HX3.out.symm))
          | (go_at_call 10; (with_reducible refine CM.out.mono ?_); rintro e w9 ⟨A9, n9, cap9, rfl, hd9⟩
             have hb9 := Kit.hid (hb8.trans (hd9.mono hb8.size))))
        go_ret
        exact ⟨by simp; exact HY5.out, hb9.out⟩
theorem burstsLaw_any (A : Option Addr) (l : List SecM) (cap : Nat) (at' by' cu : Int) (B : Option Addr) (m : List (BitVec 8)) (capm : Nat) (w : World) (hT : Hid (Crc.Tab w)) (hs : Hid (Secs w A l)) (hl : l.length ≤ 9223372036854775807)
    (ha : 0 ≤ at' ∧ at' ≤ 65535) (hb : 0 ≤ by' ∧ by' ≤ 4294967295) (hc : 0 ≤ cu ∧ cu ≤ 65535) (hB : Hid (Bytes w B m)) (hml : m.length ≤ 9223372036854775807) (hBc : m.length ≤ capm) :
    Calls Tryd.prog 5 #[.slice A l.length cap, .int .u16 at', .int .u32 by', .int .u16 cu, .slice B m.length capm] w fun e w' => e = .returned (.bool true) ∧ Below w.heap.size w w' := by
  by_cases h : fewM l = false ∨ wrongM l ≠ 0 ∨ 100 < m.length
  · exact bursts_odd A l cap at' by' cu B m capm w hT hs hl h
  · have h1 : fewM l = true := by
      cases hf : fewM l
      · exact absurd (.inl hf) h
      · rfl
    have h2 : wrongM l = 0 := Classical.byContradiction fun n => h (.inr (.inl n))
    have h3 : m.length ≤ 100 := Nat.le_of_not_lt fun n => h (.inr (.inr n))
    exact bursts_any A l cap at' by' cu B m capm w hT hs hl h1 h2 h3 ha.1 ha.2 hb.1 hb.2 hc.1 hc.2 hB hBc
end Go.Proofs.YtlmbghemlphoaaaDoor.Pa

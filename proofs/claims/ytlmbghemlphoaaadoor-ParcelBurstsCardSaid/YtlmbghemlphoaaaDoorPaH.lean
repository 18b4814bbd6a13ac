/- The walk of the document's Pack. -/
import Derived.Test.YtlmbghemlphoaaaDoorPaF
namespace Go.Proofs.YtlmbghemlphoaaaDoor.Pa
open Go.RowKit Go.Proofs.YtlmbghemlphoaaaDoor.Kit Go.Proofs.YtlmbghemlphoaaaDoor.PaM Go.IntWalk
set_option linter.unusedVariables false
set_option linter.unusedSimpArgs false
theorem lit5 (w : World) (B : Nat) (hB : B ≤ w.heap.size) (n : Nat) (hn : n ≤ 16) :
    (w.alloc (.cells #[.int .u8 68, .int .u8 80, .int .u8 90, .int .u8 49, .int .u8 n] 5)).ownsRow B 5 1 (.slice (some ⟨w.heap.size, 0, none⟩) 5 5) 5 ((hd n).map byteV) := by
  have h := World.ownsRow_lit (base := B) (e := 5) (size := 1) w #[.int .u8 68, .int .u8 80, .int .u8 90, .int .u8 49, .int .u8 n] 5 hB (by decide) rfl
  have e : (hd n).map byteV = [.int .u8 68, .int .u8 80, .int .u8 90, .int .u8 49, .int .u8 n] := by
    show [.int .u8 68, .int .u8 80, .int .u8 90, .int .u8 49, byteV (BitVec.ofNat 8 n)] = _
    have : ((BitVec.ofNat 8 n).toNat : Int) = (n : Int) := by rw [BitVec.toNat_ofNat]; omega
    unfold byteV
    rw [this]
  rw [e]
  exact h
theorem lit1 (w : World) (b : BitVec 8) : Cells (w.alloc (.cells #[.int .u8 (b.toNat : Int)] 5)) (some ⟨w.heap.size, 0, none⟩) [byteV b] := by
  intro i hi
  obtain rfl : i = 0 := by simpa using hi
  exact ⟨_, rfl, (blk_cell (blk_new w (.cells #[.int .u8 (b.toNat : Int)] 5)) 0).trans rfl⟩
def out2 (l : List SecM) (i : Nat) : List (BitVec 8) := top (l.map SecM.sec) ++ (crcD (top (l.map SecM.sec)) ++ bodOf l i)
theorem out2_bd (l : List SecM) (i : Nat) (hi : i ≤ l.length) (hl : l.length ≤ 16) (h : ∀ s ∈ l, s.b.length ≤ 65535) : (out2 l i).length ≤ 1048700 := by
  have := bodOf_bd l i hi h
  simp [out2, top_length, crcD_length]
  omega
theorem out2_succ (l : List SecM) (i : Nat) (hi : i < l.length) : out2 l i ++ l[i].b = out2 l (i + 1) := by
  unfold out2
  rw [← bodOf_succ l i hi]
  simp
theorem one_lit (b : BitVec 8) : ∀ u ∈ [byteV b], u.oneCell' = true := by
  intro u hu
  obtain rfl := List.mem_singleton.1 hu
  rfl
set_option maxHeartbeats 8000000 in
theorem rpack_any (A : Option Addr) (l : List SecM) (cap : Nat) (w : World) (hs : Hid (Secs w A l)) (hl : l.length ≤ 9223372036854775807) :
    Calls Tryd.prog 16 #[.slice A l.length cap] w (PackPost w l) := by
  have HWR := Kit.hid (rwrong_any A l cap w hs hl)
  by_cases hz : wrongM l = 0
  · have E := Kit.hid hz
    have hw := wrong_ok hz
    rw [List.length_map] at hw
    obtain ⟨hl16, hrs, hsm⟩ := hw
    have HPOS := Kit.hid (risingM_pos (l := l) hrs)
    have HLG : Hid (∀ s ∈ l, s.b.length ≤ 65535) := Kit.hid (fun s hs => hsm s.sec (List.mem_map_of_mem hs))
    rw [hz] at HWR
    have e2 : LeM.hw 2 = 2 := rfl
    have DG : Hid (∀ (n : Nat) (w' : World), n < 18446744073709551616 → Calls Tryd.prog 30 #[.int .u64 n, .int .i64 2] w' (Le.DigPost w' (LeM.dig n 2))) := Kit.hid (fun n w' h => Le.digits_any n 2 w' h)
    have CK : Hid (∀ (A' : Option Addr) (b : List (BitVec 8)) (cap' : Nat) (w' : World), Hid (Bytes w' A' b) → b.length ≤ 140737488351232 → Calls Tryd.prog 25 #[.slice A' b.length cap'] w' (Le.DigPost w' (crcD b))) := Kit.hid (fun A' b cap' w' h1 h2 => check_any A' b cap' w' h1 h2)
    have rn : IntKind.u8.wrap (l.length : Int) = (l.length : Int) := by simp [IntKind.wrap, IntKind.bits, IntKind.signed]; omega
    have h5 : (hd l.length).length = 5 := hd_length _
    have H4 : Hid (∀ b : List (BitVec 8), (crcD b).length = 4) := Kit.hid crcD_length
    have H5 := Kit.hid h5
    clear hz hrs hsm h5
    go_enter Tryd.func16, Tryd.ntmps16
    go_wp2_with (first
      | (go_at_call 29; (with_reducible refine HWR.out.mono ?_); rintro e w1 ⟨rfl, n1, rfl⟩
         have hb1 := below_drewN (Below.refl w.heap.size w) n1
         have hown2 := lit5 (w.drewN n1) w.heap.size hb1.size l.length hl16
         have hb2 := hb1.alloc hb1.size (.cells #[.int .u8 68, .int .u8 80, .int .u8 90, .int .u8 49, .int .u8 l.length] 5)
         obtain ⟨A2, cap2, hv2, hc2, _, _⟩ := own_reads hown2
         have hB2 := bytes_of_cells hc2
         cases hv2
         have CK1 := CK.out _ (hd l.length) 5 _ hB2 (by rw [H5.out]; decide)
         rw [H5.out] at CK1
         have CK1 := Kit.hid CK1)
      | (go_at_call 25; refine CK1.out.mono ?_; rintro e w3 ⟨v3, rfl, hown3, hd3⟩
         have hb3 := hb2.trans (hd3.mono hb2.size)
         have hown4 := own_below hown2 hd3
         obtain ⟨A3, cap3, hv3, hc3, _, _⟩ := own_reads hown3
         subst hv3
         rw [H4.out] at *)
      | (at_builtin; refine wpList_append_src rfl _ _ 22 rfl w.heap.size 5 (.int .u8 0) 1 Tryd.underlying22 Le.infoB rfl _ 5 _ rfl hown4 A3 4 cap3 ((crcD (hd l.length)).map byteV) rfl (by simp [H4.out]) hc3 (one_byteV _) (by unfold maxLen; omega) (by omega) hb3.size ?_
         intro v5 w5 hown5 hg5 _))
    have hb5 := Kit.hid (below_own hb3 hown4 hg5 hb3.size)
    have HO0 : Hid (hd l.length ++ crcD (hd l.length) = outOf l 0) := Kit.hid (by simp [outOf, rows])
    have hown6 : Hid (w5.ownsRow w.heap.size 5 1 v5 (outOf l 0).length ((outOf l 0).map byteV)) := Kit.hid (by
      rw [← HO0.out, List.map_append, List.length_append, H5.out, H4.out]
      exact hown5)
    clear hown5 hg5 hown4 hown3 hd3 hb3 hown2 hb2 hc3 CK1 hB2 hc2 hb1 HWR
    go_loopw [5, 6] (fun v5 v6 wr => ∃ (i : Nat) (va : Value), i ≤ l.length ∧ va = v5 ∧ v6 = .int .i64 i ∧ Hid (wr.ownsRow w.heap.size 5 1 va (outOf l i).length ((outOf l i).map byteV)) ∧ Hid (Below w.heap.size w wr)) (fun _ i _ => l.length - (intOf i).toNat)
    case atStart => exact ⟨0, _, by omega, rfl, rfl, hown6, hb5⟩
    case round =>
      obtain ⟨i, va, hi, rfl, rfl, ho, hbw⟩ := hrel
      by_cases hlt : i < l.length
      · obtain ⟨s, hss⟩ : ∃ s, s = l[i] := ⟨_, rfl⟩
        have hsw := secs_below hs hbw.out
        obtain ⟨ad, hA, k0, k1, kb⟩ := sec_at hsw hlt hss
        subst hA
        have hmem : s ∈ l := by rw [hss]; exact List.getElem_mem hlt
        have hpos := HPOS.out s hmem
        have hlong := HLG.out s hmem
        have hOl := outOf_length l i hi
        have hO1 := outOf_succ l i hlt
        rw [← hss] at hO1
        obtain ⟨b, hb⟩ : ∃ b : BitVec 8, s.kind = (b.toNat : Int) := ⟨BitVec.ofNat 8 s.kind.toNat, by rw [BitVec.toNat_ofNat]; omega⟩
        rw [hb] at k0 hpos hO1
        rw [Int.toNat_natCast] at hO1
        obtain ⟨o, hoo⟩ : ∃ o, o = outOf l i := ⟨_, rfl⟩
        rw [← hoo] at hOl hO1 ho
        have hol : o.length ≤ 121 := by omega
        have HO1 : Hid (o ++ [b] ++ LeM.dig s.b.length 2 ++ crcD s.b = outOf l (i + 1)) := Kit.hid (by
          rw [← hO1]
          simp [LeM.dig, crcD])
        have r8 : IntKind.u8.wrap (b.toNat : Int) = (b.toNat : Int) := by have := b.isLt; simp [IntKind.wrap, IntKind.bits, IntKind.signed]; omega
        have rl : IntKind.u64.wrap (s.b.length : Int) = (s.b.length : Int) := by simp [IntKind.wrap, IntKind.bits, IntKind.signed]; omega
        unfold SecM.body at k1
        have hownA := own_below ho.out ((Below.refl _ _).alloc (Nat.le_refl _) (.cells #[.int .u8 (b.toNat : Int)] 5))
        have hbA := hbw.out.alloc hbw.out.size (.cells #[.int .u8 (b.toNat : Int)] 5)
        have hcA := lit1 wr b
        have hlA : w.heap.size ≤ (wr.alloc (.cells #[.int .u8 (b.toNat : Int)] 5)).heap.size := hbA.size
        have HSS := Kit.hid hss
        clear hss hmem hoo hOl hO1 hb hsw ho
        go_wp2_with (first
          | (at_builtin; refine wpList_append_src rfl _ _ 22 rfl w.heap.size 5 (.int .u8 0) 1 Tryd.underlying22 Le.infoB rfl va _ _ rfl hownA (some ⟨wr.heap.size, 0, none⟩) 1 1 [byteV b] rfl rfl hcA (one_lit b) (by unfold maxLen; omega) (by omega) hlA ?_
             intro v1 w1 hown1 hg1 _
             have hb1 := below_own hbA hownA hg1 hlA
             obtain ⟨ad1, hA1, p0, p1, pb⟩ := sec_at (secs_below hs hb1) hlt HSS.out
             cases hA1
             unfold SecM.body at p1
             have CD := Kit.hid (DG.out s.b.length w1 (by omega)))
          | (go_at_call 30; (with_reducible refine CD.out.mono ?_); rintro e w2 ⟨v2, rfl, hown2, hd2⟩
             have hb2 := hb1.trans (hd2.mono hb1.size)
             have hown1 := own_below hown1 hd2
             have hl2 : (LeM.dig s.b.length 2).length = 2 := LeM.dig_length _ _
             rw [hl2] at hown2
             obtain ⟨A2, cap2, hv2, hc2, _, _⟩ := own_reads hown2
             subst hv2)
          | (at_builtin; refine wpList_append_src rfl _ _ 22 rfl w.heap.size 5 (.int .u8 0) 1 Tryd.underlying22 Le.infoB rfl v1 _ _ rfl hown1 A2 2 cap2 ((LeM.dig s.b.length 2).map byteV) rfl (by simp [LeM.dig_length]) hc2 (one_byteV _) (by unfold maxLen; omega) (by omega) hb2.size ?_
             intro v3 w3 hown3 hg3 _
             have hb3 := below_own hb2 hown1 hg3 hb2.size
             obtain ⟨ad3, hA3, p0, p1, pb⟩ := sec_at (secs_below hs hb3) hlt HSS.out
             cases hA3
             unfold SecM.body at p1
             have CC := Kit.hid (CK.out s.A s.b s.cap w3 pb (by omega)))
          | (go_at_call 25; (with_reducible refine CC.out.mono ?_); rintro e w4 ⟨v4, rfl, hown4, hd4⟩
             have hb4 := hb3.trans (hd4.mono hb3.size)
             have hown3 := own_below hown3 hd4
             rw [H4.out] at hown4
             obtain ⟨A4, cap4, hv4, hc4, _, _⟩ := own_reads hown4
             subst hv4)
          | (at_builtin; refine wpList_append_src rfl _ _ 22 rfl w.heap.size 5 (.int .u8 0) 1 Tryd.underlying22 Le.infoB rfl v3 _ _ rfl hown3 A4 4 cap4 ((crcD s.b).map byteV) rfl (by simp [H4.out]) hc4 (one_byteV _) (by unfold maxLen; omega) (by omega) hb4.size ?_
             intro v5 w5 hown5 hg5 _
             have hb5 := below_own hb4 hown3 hg5 hb4.size))
        have hown6 : Hid (w5.ownsRow w.heap.size 5 1 v5 (outOf l (i + 1)).length ((outOf l (i + 1)).map byteV)) := Kit.hid (by
          rw [← HO1.out]
          simpa [LeM.dig_length, H4.out] using hown5)
        have hb6 := Kit.hid hb5
        clear hown5 hb5 hown3 hown1 hownA
        go_roundw
        case rel => exact ⟨i + 1, _, by omega, rfl, by go_num, hown6, hb6⟩
        case measure => simp [intOf]; omega
      · obtain rfl : i = l.length := by omega
        have HO2 : Hid (outOf l l.length = top (l.map SecM.sec)) := Kit.hid (by unfold outOf top; rw [List.take_length, List.length_map])
        rw [HO2.out] at ho
        have hOl : (top (l.map SecM.sec)).length ≤ 121 := by rw [top_length, List.length_map]; omega
        obtain ⟨o, hoo⟩ : ∃ o, o = top (l.map SecM.sec) := ⟨_, rfl⟩
        rw [← hoo] at hOl ho
        have HOO := Kit.hid hoo
        obtain ⟨A1, cap1, hv1, hc1, _, _⟩ := own_reads ho.out
        subst hv1
        have CC := Kit.hid (CK.out A1 o cap1 wr (bytes_of_cells hc1) (by omega))
        have hown1 := ho.out
        clear hoo ho
        go_wp2_with (first
          | (go_at_call 25; (with_reducible refine CC.out.mono ?_); rintro e w4 ⟨v4, rfl, hown4, hd4⟩
             have hb4 := hbw.out.trans (hd4.mono hbw.out.size)
             have hown3 := own_below hown1 hd4
             rw [H4.out] at hown4
             obtain ⟨A4, cap4, hv4, hc4, _, _⟩ := own_reads hown4
             subst hv4)
          | (at_builtin; refine wpList_append_src rfl _ _ 22 rfl w.heap.size 5 (.int .u8 0) 1 Tryd.underlying22 Le.infoB rfl _ _ _ rfl hown3 A4 4 cap4 ((crcD o).map byteV) rfl (by simp [H4.out]) hc4 (one_byteV _) (by unfold maxLen; omega) (by omega) hb4.size ?_
             intro v5 w5 hown5 hg5 _
             have hb5 := below_own hb4 hown3 hg5 hb4.size))
        have HP0 : Hid (o ++ crcD o = out2 l 0) := Kit.hid (by rw [HOO.out]; simp [out2, bodOf, bodies])
        have hown6 : Hid (w5.ownsRow w.heap.size 5 1 v5 (out2 l 0).length ((out2 l 0).map byteV)) := Kit.hid (by
          rw [← HP0.out]
          simpa [H4.out] using hown5)
        have hb6 := Kit.hid hb5
        clear hown5 hb5 hown3 hown1 hb4 hown4 hd4 hc4 hc1 CC hg5
        go_loopw [5, 7] (fun v5 v7 wr => ∃ (i : Nat) (va : Value), i ≤ l.length ∧ va = v5 ∧ v7 = .int .i64 i ∧ Hid (wr.ownsRow w.heap.size 5 1 va (out2 l i).length ((out2 l i).map byteV)) ∧ Hid (Below w.heap.size w wr)) (fun _ i _ => l.length - (intOf i).toNat)
        case atStart => exact ⟨0, _, by omega, rfl, rfl, hown6, hb6⟩
        case round =>
          obtain ⟨i, va, hi, rfl, rfl, ho, hbw⟩ := hrel
          by_cases hlt : i < l.length
          · obtain ⟨s, hss⟩ : ∃ s, s = l[i] := ⟨_, rfl⟩
            obtain ⟨ad, hA, k0, k1, kb⟩ := sec_at (secs_below hs hbw.out) hlt hss
            subst hA
            have hmem : s ∈ l := by rw [hss]; exact List.getElem_mem hlt
            have hlong := HLG.out s hmem
            have hOl := out2_bd l i hi hl16 HLG.out
            have hO1 := out2_succ l i hlt
            rw [← hss] at hO1
            obtain ⟨q, hq⟩ : ∃ q, q = out2 l i := ⟨_, rfl⟩
            rw [← hq] at hOl hO1 ho
            have HO1 := Kit.hid hO1
            unfold SecM.body at k1
            clear hss hmem hq hO1
            go_wp2_with (at_builtin; refine wpList_append_src rfl _ _ 22 rfl w.heap.size 5 (.int .u8 0) 1 Tryd.underlying22 Le.infoB rfl va _ _ rfl ho.out s.A s.b.length s.cap (s.b.map byteV) rfl (by simp) (cells_of_bytes kb) (one_byteV _) (by unfold maxLen; omega) (by omega) hbw.out.size ?_
                         intro v1 w1 hown1 hg1 _
                         have hb1 := below_own hbw.out ho.out hg1 hbw.out.size)
            have hown6 : Hid (w1.ownsRow w.heap.size 5 1 v1 (out2 l (i + 1)).length ((out2 l (i + 1)).map byteV)) := Kit.hid (by
              rw [← HO1.out]
              simpa using hown1)
            have hb6 := Kit.hid hb1
            clear hown1 hb1
            go_roundw
            case rel => exact ⟨i + 1, _, by omega, rfl, by go_num, hown6, hb6⟩
            case measure => simp [intOf]; omega
          · obtain rfl : i = l.length := by omega
            have HPK : Hid (packed l = out2 l l.length) := Kit.hid (by
              unfold packed
              rw [if_pos E.out]
              unfold img out2 bodOf
              rw [List.take_length])
            rw [← HPK.out] at ho
            obtain ⟨A6, cap6, hv6, hc6, hle6, _⟩ := own_reads ho.out
            subst hv6
            go_wp2
            go_ret2
            refine ⟨A6, cap6, ?_, bytes_of_cells hc6, hle6, hbw.out⟩
            rw [E.out]
            rfl
  · have E : Hid (packed l = []) := Kit.hid (by unfold packed; rw [if_neg hz])
    obtain ⟨x, hx⟩ : ∃ x, x = wrongM l := ⟨_, rfl⟩
    rw [← hx] at HWR hz
    have HX := Kit.hid hx
    have hzb : (x == 0) = false := by simp [hz]
    clear hx
    go_enter Tryd.func16, Tryd.ntmps16
    go_wp2_with (go_at_call 29; (with_reducible refine HWR.out.mono ?_); rintro e w1 ⟨rfl, n1, rfl⟩)
    go_ret2
    exact pack_bad HX.out.symm hz (below_drewN (Below.refl _ _) n1)
end Go.Proofs.YtlmbghemlphoaaaDoor.Pa

/- The law ParcelPacks. -/
import Derived.Test.YtlmbghemlphoaaaDoorPaO
namespace Go.Proofs.YtlmbghemlphoaaaDoor.Le
open Go.RowKit Go.Proofs.YtlmbghemlphoaaaDoor.Kit Go.Proofs.YtlmbghemlphoaaaDoor.LeM
set_option linter.unusedVariables false
set_option linter.unusedSimpArgs false
theorem same_big (A : Option Addr) (l : List (BitVec 8)) (c : Nat) (B : Option Addr) (m : List (BitVec 8)) (d : Nat) (w : World) (ha : Hid (Bytes w A l)) (hb : Hid (Bytes w B m)) (hl : l.length ≤ 9223372036854775807) (hm : m.length ≤ 9223372036854775807) :
    Calls Tryd.prog 15 #[.slice A l.length c, .slice B m.length d] w fun e w' => e = .returned (.bool (decide (l = m))) ∧ ∃ n, w' = w.drewN n := by
  by_cases hne : l.length = m.length
  · have g0 : ((l.length : Int) != (m.length : Int)) = false := by simp [hne]
    have HE := Kit.hid hne
    clear hne
    go_enter Tryd.func15, Tryd.ntmps15
    go_wp2
    go_loopw [5] (fun v5 wr => ∃ (k : Nat), k ≤ l.length ∧ v5 = .int .i64 k ∧ Hid (l.take k = m.take k) ∧ Hid (∃ n, wr = w.drewN n)) (fun i _ => l.length - (intOf i).toNat)
    case atStart => exact ⟨0, by omega, rfl, Kit.hid rfl, Kit.hid ⟨0, rfl⟩⟩
    case round =>
      obtain ⟨k, hk, rfl, hq, hw⟩ := hrel
      obtain ⟨n, rfl⟩ := hw.out
      by_cases hlt : k < l.length
      · have hlm : k < m.length := by have := HE.out; omega
        obtain ⟨ad, rfl, ca⟩ := ha.out k hlt
        obtain ⟨bd, rfl, cb⟩ := hb.out k hlm
        have ca' : (w.drewN n).cell? (ad.add k) = some (.int .u8 (l[k].toNat : Int)) := ca
        have cb' : (w.drewN n).cell? (bd.add k) = some (.int .u8 (m[k].toNat : Int)) := cb
        have HX := Kit.hid (take_succ_eq hlt hlm)
        obtain ⟨x, hx⟩ : ∃ x, x = l[k] := ⟨_, rfl⟩
        obtain ⟨y, hy⟩ : ∃ y, y = m[k] := ⟨_, rfl⟩
        rw [← hx] at ca ca'
        rw [← hy] at cb cb'
        rw [← hx, ← hy] at HX
        have bx := x.isLt
        have by_ := y.isLt
        by_cases he : x = y
        · have HN := Kit.hid (HX.out.2 ⟨hq.out, he⟩)
          have g1 : ((x.toNat : Int) != (y.toNat : Int)) = false := by simp [he]
          clear hx hy he
          go_wp2
          go_region
          go_wp2
          go_roundw
          case rel => exact ⟨k + 1, by omega, by go_num, HN, Kit.hid ⟨n + 1, rfl⟩⟩
          case measure => simp [intOf]; omega
        · have HN : Hid (decide (l = m) = false) := by
            refine Kit.hid (decide_eq_false fun h => he ?_)
            subst h
            rw [hx, hy]
          have g1 : ((x.toNat : Int) != (y.toNat : Int)) = true := by
            have : x.toNat ≠ y.toNat := fun h => he (BitVec.eq_of_toNat_eq h)
            simp
            omega
          clear hx hy he
          go_wp2
          go_region
          go_wp2
          go_ret
          rw [HN.out]
          exact ⟨rfl, n + 1, rfl⟩
      · have HN : Hid (decide (l = m) = true) := by
          refine Kit.hid (decide_eq_true ?_)
          have h := hq.out
          have h2 := HE.out
          rw [List.take_of_length_le (by omega), List.take_of_length_le (by omega)] at h
          exact h
        go_wp2
        go_ret
        rw [HN.out]
        exact ⟨rfl, n, rfl⟩
  · have g0 : ((l.length : Int) != (m.length : Int)) = true := by
      simp
      omega
    have HN : Hid (decide (l = m) = false) := Kit.hid (decide_eq_false fun h => hne (by rw [h]))
    clear hne
    go_enter Tryd.func15, Tryd.ntmps15
    go_wp2
    go_ret
    rw [HN.out]
    exact ⟨rfl, 0, rfl⟩
end Go.Proofs.YtlmbghemlphoaaaDoor.Le
namespace Go.Proofs.YtlmbghemlphoaaaDoor.Pa
open Go.RowKit Go.Proofs.YtlmbghemlphoaaaDoor.Kit Go.Proofs.YtlmbghemlphoaaaDoor.PaM Go.Proofs.YtlmbghemlphoaaaDoor.Le Go.IntWalk
set_option linter.unusedVariables false
set_option linter.unusedSimpArgs false
theorem found_form (A : Option Addr) (l : List SecM) (k : Int) (hwf : ∀ s ∈ l, s.Wf) : ∃ (F : Option Addr) (fb : List (BitVec 8)) (fc : Nat), foundV l k = .slice F fb.length fc ∧ fb = foundB l k ∧ (∀ w, Hid (Secs w A l) → Hid (Bytes w F fb)) ∧ fb.length ≤ 9223372036854775807 := by
  cases h : findM l k with
  | none => exact ⟨none, [], 0, by simp only [foundV, h]; rfl, by simp only [foundB, h], fun w _ => (fun i hi => absurd hi (Nat.not_lt_zero _) : Bytes w none []), by decide⟩
  | some s =>
    have hm : s ∈ l := List.mem_of_find?_eq_some h
    obtain ⟨i, hi, hs⟩ := List.getElem_of_mem hm
    refine ⟨s.A, s.b, s.cap, by simp only [foundV, h]; rfl, by simp only [foundB, h], fun w hw => ?_, ?_⟩
    · obtain ⟨_, _, _, _, hb⟩ := sec_at hw hi hs.symm
      exact hb
    · have := (hwf s hm).room
      have h2 := (hwf s hm).top
      have h3 : maxLen = 9223372036854775807 := by decide
      omega
theorem packed_bd (l : List SecM) : (packed l).length ≤ 1100000 := by
  unfold packed
  by_cases h : wrongM l = 0
  · rw [if_pos h, img_length]
    obtain ⟨h1, _, h3⟩ := wrong_ok h
    have := bodies_bd (l.map SecM.sec) h3
    omega
  · rw [if_neg h]; decide
set_option maxHeartbeats 1600000 in
theorem packsLaw_any (A : Option Addr) (l : List SecM) (cap : Nat) (k : Int) (w : World) (hT : Hid (Crc.Tab w)) (hs : Hid (Secs w A l)) (hwf : ∀ s ∈ l, s.Wf) (hl : l.length ≤ 9223372036854775807) :
    Calls Tryd.prog 7 #[.slice A l.length cap, .int .i64 k] w fun e w' => e = .returned (.bool true) ∧ Below w.heap.size w w' := by
  have HAW := Kit.hid (awake_any w hT)
  have HFW : Hid (∀ w', Hid (Secs w' A l) → Calls Tryd.prog 13 #[.slice A l.length cap] w' fun e w'' => e = .returned (.bool (fewM l)) ∧ w' = w'') := Kit.hid (fun w' h => few_any A l cap w' h hl)
  by_cases hf : fewM l = false
  · rw [hf] at HFW
    clear hf hwf
    go_enter Tryd.func7, Tryd.ntmps7
    go_wp2_with (first
      | (go_at_call 9; (with_reducible refine HAW.out.mono ?_); rintro e w1 ⟨rfl, hd1⟩; have CF := Kit.hid (HFW.out w1 (secs_below hs hd1)))
      | (go_at_call 13; (with_reducible refine CF.out.mono ?_); rintro e w2 ⟨rfl, rfl⟩))
    go_ret
    exact ⟨rfl, hd1⟩
  have hf' : fewM l = true := by simpa using hf
  rw [hf'] at HFW
  obtain ⟨F, fb, fc, hfv, hfbe, hfb, hfl⟩ := found_form A l k hwf
  clear hfbe
  have hpl := packed_bd l
  have HFI : Hid (∀ w', Hid (Secs w' A l) → Calls Tryd.prog 17 #[.slice A l.length cap, .int .i64 k] w' fun e w'' => e = .returned (.tuple #[.slice F fb.length fc, .bool (findM l k).isSome]) ∧ Below w'.heap.size w' w'') := Kit.hid (fun w' h => by rw [← hfv]; exact find_any A l cap k w' h hl)
  have HRF : Hid (∀ w', Hid (Secs w' A l) → Calls Tryd.prog 18 #[.slice A l.length cap, .int .i64 k] w' fun e w'' => e = .returned (.tuple #[.slice F fb.length fc, .bool (findM l k).isSome]) ∧ w' = w'') := Kit.hid (fun w' h => by rw [← hfv]; exact rfind_any A l cap k w' h hl)
  obtain ⟨fs, hfs⟩ : ∃ fs, fs = (findM l k).isSome := ⟨_, rfl⟩
  rw [← hfs] at HFI HRF
  have HPA := Kit.hid (fun w' h1 h2 => pack_any A l cap w' h1 h2 hl)
  have HRP := Kit.hid (fun w' h => rpack_any A l cap w' h hl)
  unfold PackPost at HPA HRP
  obtain ⟨pk, hpk⟩ : ∃ pk, pk = packed l := ⟨_, rfl⟩
  obtain ⟨wm, hwm⟩ : ∃ wm, wm = wrongM l := ⟨_, rfl⟩
  rw [← hpk, ← hwm] at HPA HRP
  rw [← hpk] at hpl
  have HFB := Kit.hid hfb
  clear hf hf' hwf hfv hfs hpk hwm hfb
  go_enter Tryd.func7, Tryd.ntmps7
  go_wp2_with (first
    | (go_at_call 9; (with_reducible refine HAW.out.mono ?_); rintro e w1 ⟨rfl, hd1⟩
       have hs1 := secs_below hs hd1
       have CF := Kit.hid (HFW.out w1 hs1)
       have CP := Kit.hid (HPA.out w1 (Crc.tab_below hT hd1) hs1))
    | (go_at_call 13; (with_reducible refine CF.out.mono ?_); rintro e w2 ⟨rfl, rfl⟩)
    | (go_at_call 14; (with_reducible refine CP.out.mono ?_); rintro e w3 ⟨A3, cap3, rfl, hB3, hc3, hd3⟩
       have hb3 := hd1.trans (hd3.mono hd1.size)
       have CR := Kit.hid (HRP.out w3 (secs_below hs hb3)))
    | (go_at_call 16; (with_reducible refine CR.out.mono ?_); rintro e w4 ⟨A4, cap4, rfl, hB4, hc4, hd4⟩
       have hb4 := hb3.trans (hd4.mono hb3.size)
       have CI := Kit.hid (HFI.out w4 (secs_below hs hb4)))
    | (go_at_call 17; (with_reducible refine CI.out.mono ?_); rintro e w5 ⟨rfl, hd5⟩
       have hb5 := hb4.trans (hd5.mono hb4.size)
       have CJ := Kit.hid (HRF.out w5 (secs_below hs hb5))
       have CS1 := Le.same_big A3 pk cap3 A4 pk cap4 w5 (bytes_below hB3 (hd4.trans (hd5.mono hd4.size))) (bytes_below hB4 hd5) (by omega) (by omega)
       rw [decide_eq_true (rfl : pk = pk)] at CS1
       have CS1 := Kit.hid CS1)
    | (go_at_call 18; (with_reducible refine CJ.out.mono ?_); rintro e w6 ⟨rfl, rfl⟩)
    | (go_at_call 15; (with_reducible refine CS1.out.mono ?_); rintro e w7 ⟨rfl, n7, rfl⟩
       have hb7 := below_drewN hb5 n7
       have hFb := HFB.out _ (secs_below hs hb7)
       have CS2 := Le.same_big F fb fc F fb fc _ hFb hFb hfl hfl
       rw [decide_eq_true (rfl : fb = fb)] at CS2
       have CS2 := Kit.hid CS2)
    | (go_at_call 15; (with_reducible refine CS2.out.mono ?_); rintro e w8 ⟨rfl, n8, rfl⟩
       have hb8 := Kit.hid (below_drewN hb7 n8)))
  go_ret
  refine ⟨by simp, ?_⟩
  have h := hb8.out
  simpa using h
end Go.Proofs.YtlmbghemlphoaaaDoor.Pa

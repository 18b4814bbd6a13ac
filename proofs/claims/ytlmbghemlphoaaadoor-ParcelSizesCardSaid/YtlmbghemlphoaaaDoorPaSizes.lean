/- The law ParcelSizes. -/
import Derived.Test.YtlmbghemlphoaaaDoorPaQ
namespace Go.Proofs.YtlmbghemlphoaaaDoor.Pa
open Go.RowKit Go.Proofs.YtlmbghemlphoaaaDoor.Kit Go.Proofs.YtlmbghemlphoaaaDoor.PaM Go.Proofs.YtlmbghemlphoaaaDoor.Le Go.IntWalk
set_option linter.unusedVariables false
set_option linter.unusedSimpArgs false
theorem img_same {l k : List SecM} (hl : wrongM l = 0) (hk : wrongM k = 0) : decide (img (l.map SecM.sec) = img (k.map SecM.sec)) = sameM l k := by
  unfold sameM
  by_cases h : l.map SecM.sec = k.map SecM.sec
  · rw [h, decide_eq_true rfl, decide_eq_true rfl]
  · rw [decide_eq_false h, decide_eq_false]
    intro e
    refine h ?_
    have h1 := unp_img hl
    have h2 := unp_img hk
    rw [e, h2] at h1
    exact (congrArg Prod.snd h1).symm
theorem bodOf_all (l : List SecM) : bodOf l l.length = bodies (l.map SecM.sec) := by unfold bodOf; rw [List.take_length]
theorem img_len (l : List SecM) : (img (l.map SecM.sec)).length = 13 + 7 * l.length + (bodOf l l.length).length := by rw [img_length, bodOf_all, List.length_map]
set_option maxHeartbeats 1600000 in
theorem sizesLaw_any (A : Option Addr) (l : List SecM) (cap : Nat) (B : Option Addr) (k : List SecM) (capk : Nat) (w : World) (hT : Hid (Crc.Tab w)) (hs : Hid (Secs w A l)) (hk : Hid (Secs w B k)) (hl : l.length ≤ 9223372036854775807) (hkl : k.length ≤ 9223372036854775807) :
    Calls Tryd.prog 6 #[.slice A l.length cap, .slice B k.length capk] w fun e w' => e = .returned (.bool true) ∧ Below w.heap.size w w' := by
  have HAW := Kit.hid (awake_any w hT)
  have HFW : Hid (∀ w', Hid (Secs w' A l) → Calls Tryd.prog 13 #[.slice A l.length cap] w' fun e w'' => e = .returned (.bool (fewM l)) ∧ w' = w'') := Kit.hid (fun w' h => few_any A l cap w' h hl)
  have HFK : Hid (∀ w', Hid (Secs w' B k) → Calls Tryd.prog 13 #[.slice B k.length capk] w' fun e w'' => e = .returned (.bool (fewM k)) ∧ w' = w'') := Kit.hid (fun w' h => few_any B k capk w' h hkl)
  by_cases hf : (fewM l && fewM k) = false
  · obtain ⟨x, hx⟩ : ∃ x, x = fewM l := ⟨_, rfl⟩
    obtain ⟨y, hy⟩ : ∃ y, y = fewM k := ⟨_, rfl⟩
    rw [← hx] at HFW
    rw [← hy] at HFK
    rw [← hx, ← hy] at hf
    clear hx hy
    cases x
    · clear hf
      go_enter Tryd.func6, Tryd.ntmps6
      go_wp2_with (first
        | (go_at_call 9; (with_reducible refine HAW.out.mono ?_); rintro e w1 ⟨rfl, hd1⟩
           have CF := Kit.hid (HFW.out w1 (secs_below hs hd1))
           have CK := Kit.hid (HFK.out w1 (secs_below hk hd1)))
        | (go_at_call 13; (with_reducible refine CF.out.mono ?_); rintro e w2 ⟨rfl, rfl⟩)
        | (go_at_call 13; (with_reducible refine CK.out.mono ?_); rintro e w3 ⟨rfl, rfl⟩))
      go_ret
      exact ⟨rfl, hd1⟩
    · cases y
      · clear hf
        go_enter Tryd.func6, Tryd.ntmps6
        go_wp2_with (first
          | (go_at_call 9; (with_reducible refine HAW.out.mono ?_); rintro e w1 ⟨rfl, hd1⟩
             have CF := Kit.hid (HFW.out w1 (secs_below hs hd1))
             have CK := Kit.hid (HFK.out w1 (secs_below hk hd1)))
          | (go_at_call 13; (with_reducible refine CF.out.mono ?_); rintro e w2 ⟨rfl, rfl⟩)
          | (go_at_call 13; (with_reducible refine CK.out.mono ?_); rintro e w3 ⟨rfl, rfl⟩))
        go_ret
        exact ⟨rfl, hd1⟩
      · simp at hf
  have hfb : (fewM l && fewM k) = true := by simpa using hf
  have hf1 : fewM l = true := (Bool.and_eq_true _ _ ▸ hfb).1
  have hf2 : fewM k = true := (Bool.and_eq_true _ _ ▸ hfb).2
  rw [hf1] at HFW
  rw [hf2] at HFK
  have HPK := Kit.hid (fun w' h1 h2 => pack_any B k capk w' h1 h2 hkl)
  unfold PackPost at HPK
  obtain ⟨pk, hpk⟩ : ∃ pk, pk = packed k := ⟨_, rfl⟩
  obtain ⟨y, hy⟩ : ∃ y, y = wrongM k := ⟨_, rfl⟩
  rw [← hpk, ← hy] at HPK
  have hpkl : pk.length ≤ 1100000 := by rw [hpk]; exact packed_bd k
  by_cases hw : wrongM l = 0
  · have HPA : Hid (∀ w', Hid (Crc.Tab w') → Hid (Secs w' A l) → Calls Tryd.prog 14 #[.slice A l.length cap] w' (PackOk w' (img (l.map SecM.sec)) (img (l.map SecM.sec)).length)) := Kit.hid (fun w' h1 h2 => pack_ok A l cap _ w' h1 h2 hl hw rfl)
    have HEND : Hid (y = 0 → decide (img (l.map SecM.sec) = pk) = sameM l k) := Kit.hid (fun h => by
      have hk0 : wrongM k = 0 := by rw [← hy]; exact h
      rw [hpk]; unfold packed; rw [if_pos hk0]; exact img_same hw hk0)
    have HSS : Hid (y = 0 → ∀ w', Hid (Secs w' A l) → Hid (Secs w' B k) → Calls Tryd.prog 12 #[.slice A l.length cap, .slice B k.length capk] w' fun e w'' => e = .returned (.bool (sameM l k)) ∧ ∃ m, w'' = w'.drewN m) := Kit.hid (fun h w' h1 h2 => by
      have hk0 : wrongM k = 0 := by rw [← hy]; exact h
      exact ssame_any A l cap B k capk w' h1 h2 hl hkl (secs_small rfl hw) (secs_small rfl hk0))
    have hil := img_len l
    have hib : (img (l.map SecM.sec)).length ≤ 1100000 := by
      have h := packed_bd l
      unfold packed at h
      rw [if_pos hw] at h
      exact h
    have hl16 : l.length ≤ 16 := by
      have := (wrong_ok hw).1
      rw [List.length_map] at this
      exact this
    obtain ⟨im, him⟩ : ∃ im, im = img (l.map SecM.sec) := ⟨_, rfl⟩
    obtain ⟨sb, hsb⟩ : ∃ sb, sb = sameM l k := ⟨_, rfl⟩
    rw [← him] at HPA HEND hib hil
    rw [← hsb] at HEND HSS
    unfold PackOk at HPA
    have HIL := Kit.hid hil
    have HMONO : Hid (∀ i, i ≤ l.length → (bodOf l i).length ≤ 65535 * i) := Kit.hid (fun i hi => bodOf_bd l i hi (fun s hs => (wrong_ok hw).2.2 s.sec (List.mem_map.2 ⟨s, hs, rfl⟩)))
    have HSUC : Hid (∀ i (hi : i < l.length), (bodOf l (i + 1)).length = (bodOf l i).length + l[i].b.length) := Kit.hid (fun i hi => by rw [← bodOf_succ l i hi, List.length_append])
    clear hf hfb hf1 hf2 hw him hy hpk hsb hil
    go_enter Tryd.func6, Tryd.ntmps6
    go_wp2_with (first
      | (go_at_call 9; (with_reducible refine HAW.out.mono ?_); rintro e w1 ⟨rfl, hd1⟩
         have CF := Kit.hid (HFW.out w1 (secs_below hs hd1))
         have CK := Kit.hid (HFK.out w1 (secs_below hk hd1))
         have CP := Kit.hid (HPA.out w1 (Crc.tab_below hT hd1) (secs_below hs hd1)))
      | (go_at_call 13; (with_reducible refine CF.out.mono ?_); rintro e w2 ⟨rfl, rfl⟩)
      | (go_at_call 13; (with_reducible refine CK.out.mono ?_); rintro e w3 ⟨rfl, rfl⟩)
      | (go_at_call 14; (with_reducible refine CP.out.mono ?_); rintro e w4 ⟨A4, cap4, rfl, hB4, hc4, hd4⟩
         have hb4 := hd1.trans (hd4.mono hd1.size)
         have CQ := Kit.hid (HPK.out w4 (Crc.tab_below hT hb4) (secs_below hk hb4)))
      | (go_at_call 14; (with_reducible refine CQ.out.mono ?_); rintro e w5 ⟨A5, cap5, rfl, hB5, hc5, hd5⟩
         have hb5 := hb4.trans (hd5.mono hb4.size)
         have hB45 := bytes_below hB4 hd5
         have hs5 := secs_below hs hb5
         have hk5 := secs_below hk hb5))
    go_loopw [12, 13] (fun v12 v13 wr => ∃ i n : Nat, i ≤ l.length ∧ v12 = .int .i64 n ∧ v13 = .int .i64 i ∧ n ≤ 1100000 ∧ Hid (n = 13 + 7 * l.length + (bodOf l i).length) ∧ wr = w5) (fun _ i _ => l.length - (intOf i).toNat)
    case atStart =>
      exact ⟨0, 13 + 7 * l.length, by omega, by go_num, rfl, by omega, Kit.hid rfl, by first | rfl | trivial⟩
    case round =>
      obtain ⟨i, n, hi, rfl, rfl, hn, hne, rfl⟩ := hrel
      by_cases hlt : i < l.length
      · obtain ⟨s, hss⟩ : ∃ s, s = l[i] := ⟨_, rfl⟩
        obtain ⟨ad, hA, k0, k1, _⟩ := sec_at hs5 hlt hss
        subst hA
        unfold SecM.body at k1
        have hm := HMONO.out (i + 1) hlt
        have hs' := HSUC.out i hlt
        rw [← hss] at hs'
        have hn2 : n + s.b.length ≤ 1100000 := by have := hne.out; omega
        have HN : Hid (n + s.b.length = 13 + 7 * l.length + (bodOf l (i + 1)).length) := Kit.hid (by have := hne.out; omega)
        clear hss hs' hm
        go_wp2
        go_roundw
        case rel => exact ⟨i + 1, n + s.b.length, by omega, by go_num, by go_num, hn2, HN, by first | rfl | trivial⟩
        case measure => simp [intOf]; omega
      · obtain rfl : i = l.length := by omega
        have hnl : im.length = n := by have := hne.out; have := HIL.out; omega
        have g1 : ((im.length : Int) == (n : Int)) = true := by simp; omega
        have HNL := Kit.hid hnl
        clear hnl
        by_cases hy0 : y = 0
        · have CS1 := Le.same_big A4 im cap4 A5 pk cap5 _ hB45 hB5 (by omega) (by omega)
          rw [HEND.out hy0] at CS1
          have CS1 := Kit.hid CS1
          have HSY := Kit.hid (HSS.out hy0)
          subst hy0
          go_wp2_with (first
            | (go_at_call 15; (with_reducible refine CS1.out.mono ?_); rintro e w7 ⟨rfl, n7, rfl⟩
               have hb7 := below_drewN hb5 n7
               have CS2 := Kit.hid (HSY.out _ (secs_below hs hb7) (secs_below hk hb7)))
            | (go_at_call 12; (with_reducible refine CS2.out.mono ?_); rintro e w8 ⟨rfl, n8, rfl⟩
               have hb8 := Kit.hid (below_drewN hb7 n8)))
          go_ret
          refine ⟨by simp, ?_⟩
          have h := hb8.out
          simpa using h
        · have gy : (y != 0) = true := by simp only [bne_iff_ne]; exact hy0
          go_wp2
          go_ret
          refine ⟨by simp, ?_⟩
          exact hb5
  · obtain ⟨x, hx⟩ : ∃ x, x = wrongM l := ⟨_, rfl⟩
    have HPA : Hid (∀ w', Hid (Crc.Tab w') → Hid (Secs w' A l) → Calls Tryd.prog 14 #[.slice A l.length cap] w' fun e w'' => ∃ (A' : Option Addr) (cap' : Nat), e = .returned (.tuple #[.slice A' 0 cap', .int .i64 x]) ∧ Below w'.heap.size w' w'') := Kit.hid (fun w' h1 h2 => pack_fails A l cap x w' h1 h2 hl hx.symm (by rw [hx]; exact hw))
    have gx : (x != 0) = true := by simp only [bne_iff_ne]; rw [hx]; exact hw
    clear hf hfb hf1 hf2 hw hx hy hpk
    go_enter Tryd.func6, Tryd.ntmps6
    go_wp2_with (first
      | (go_at_call 9; (with_reducible refine HAW.out.mono ?_); rintro e w1 ⟨rfl, hd1⟩
         have CF := Kit.hid (HFW.out w1 (secs_below hs hd1))
         have CK := Kit.hid (HFK.out w1 (secs_below hk hd1))
         have CP := Kit.hid (HPA.out w1 (Crc.tab_below hT hd1) (secs_below hs hd1)))
      | (go_at_call 13; (with_reducible refine CF.out.mono ?_); rintro e w2 ⟨rfl, rfl⟩)
      | (go_at_call 13; (with_reducible refine CK.out.mono ?_); rintro e w3 ⟨rfl, rfl⟩)
      | (go_at_call 14; (with_reducible refine CP.out.mono ?_); rintro e w4 ⟨A4, cap4, rfl, hd4⟩
         have hb4 := hd1.trans (hd4.mono hd1.size)
         have CQ := Kit.hid (HPK.out w4 (Crc.tab_below hT hb4) (secs_below hk hb4)))
      | (go_at_call 14; (with_reducible refine CQ.out.mono ?_); rintro e w5 ⟨A5, cap5, rfl, hB5, hc5, hd5⟩
         have hb5 := Kit.hid (hb4.trans (hd5.mono hb4.size))))
    go_ret
    exact ⟨by first | rfl | simp, hb5.out⟩
end Go.Proofs.YtlmbghemlphoaaaDoor.Pa

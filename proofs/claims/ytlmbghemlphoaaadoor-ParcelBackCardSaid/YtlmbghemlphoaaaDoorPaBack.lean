/- The law ParcelBack. -/
import Derived.Test.YtlmbghemlphoaaaDoorPaQ
namespace Go.Proofs.YtlmbghemlphoaaaDoor.Pa
open Go.RowKit Go.Proofs.YtlmbghemlphoaaaDoor.Kit Go.Proofs.YtlmbghemlphoaaaDoor.PaM Go.Proofs.YtlmbghemlphoaaaDoor.Le Go.IntWalk
set_option linter.unusedVariables false
set_option linter.unusedSimpArgs false
set_option maxHeartbeats 1600000 in
theorem backLaw_any (A : Option Addr) (l : List SecM) (cap : Nat) (B : Option Addr) (b : List (BitVec 8)) (capb : Nat) (w : World) (hT : Hid (Crc.Tab w)) (hs : Hid (Secs w A l)) (hl : l.length ≤ 9223372036854775807) (hb : Hid (Bytes w B b)) (hbl : b.length ≤ 9223372036854775807) (hbc : b.length ≤ capb) :
    Calls Tryd.prog 4 #[.slice A l.length cap, .slice B b.length capb] w fun e w' => e = .returned (.bool true) ∧ Below w.heap.size w w' := by
  have HAW := Kit.hid (awake_any w hT)
  have HFW : Hid (∀ w', Hid (Secs w' A l) → Calls Tryd.prog 13 #[.slice A l.length cap] w' fun e w'' => e = .returned (.bool (fewM l)) ∧ w' = w'') := Kit.hid (fun w' h => few_any A l cap w' h hl)
  by_cases hf : fewM l = false
  · rw [hf] at HFW
    clear hf
    go_enter Tryd.func4, Tryd.ntmps4
    go_wp2_with (first
      | (go_at_call 9; (with_reducible refine HAW.out.mono ?_); rintro e w1 ⟨rfl, hd1⟩; have CF := Kit.hid (HFW.out w1 (secs_below hs hd1)))
      | (go_at_call 13; (with_reducible refine CF.out.mono ?_); rintro e w2 ⟨rfl, rfl⟩))
    go_ret
    exact ⟨rfl, hd1⟩
  have hf' : fewM l = true := by simpa using hf
  rw [hf'] at HFW
  by_cases hbig : 600 < b.length
  · have g1 : (600 : Int) < (b.length : Int) := by omega
    clear hf hf' hbig
    go_enter Tryd.func4, Tryd.ntmps4
    go_wp2_with (first
      | (go_at_call 9; (with_reducible refine HAW.out.mono ?_); rintro e w1 ⟨rfl, hd1⟩; have CF := Kit.hid (HFW.out w1 (secs_below hs hd1)))
      | (go_at_call 13; (with_reducible refine CF.out.mono ?_); rintro e w2 ⟨rfl, rfl⟩))
    go_ret
    exact ⟨rfl, hd1⟩
  have g1 : ¬ (600 : Int) < (b.length : Int) := by omega
  by_cases hw : wrongM l = 0
  · have HPA : Hid (∀ w', Hid (Crc.Tab w') → Hid (Secs w' A l) → Calls Tryd.prog 14 #[.slice A l.length cap] w' (PackOk w' (img (l.map SecM.sec)) (img (l.map SecM.sec)).length)) := Kit.hid (fun w' h1 h2 => pack_ok A l cap _ w' h1 h2 hl hw rfl)
    have HUA : Hid (∀ A' cap' w', Hid (Crc.Tab w') → Hid (Bytes w' A' (img (l.map SecM.sec))) → (img (l.map SecM.sec)).length ≤ cap' → Calls Tryd.prog 10 #[.slice A' (img (l.map SecM.sec)).length cap'] w' (Unp w' 0 (l.map SecM.sec))) := Kit.hid (fun A' cap' w' h1 h2 h3 => unp_img_any A' _ cap' _ w' h1 hw h2 rfl h3)
    have HSA : Hid (∀ A' n' cap' ls w', n' = ls.length → ls.map SecM.sec = l.map SecM.sec → Hid (Secs w' A' ls) → Hid (Secs w' A l) → Calls Tryd.prog 12 #[.slice A' n' cap', .slice A l.length cap] w' fun e w'' => e = .returned (.bool true) ∧ ∃ m, w'' = w'.drewN m) := Kit.hid (fun A' n' cap' ls w' h1 h2 h3 h4 => same_back A' n' cap' ls A l cap w' h1 h2 hw h3 h4)
    obtain ⟨im, him⟩ : ∃ im, im = img (l.map SecM.sec) := ⟨_, rfl⟩
    rw [← him] at HPA HUA
    unfold PackOk at HPA
    by_cases hx : (unp b).1 = 0
    · have HUB : Hid (∀ w', Hid (Crc.Tab w') → Hid (Bytes w' B b) → Calls Tryd.prog 10 #[.slice B b.length capb] w' (Unp w' 0 (unp b).2)) := Kit.hid (fun w' h1 h2 => by rw [← hx]; exact unp_any B b capb w' h1 h2 (by omega) hbc)
      have HPB : Hid (∀ A' n' cap' ls w', Hid (Crc.Tab w') → n' = ls.length → n' ≤ 16 → ls.map SecM.sec = (unp b).2 → Hid (Secs w' A' ls) → Calls Tryd.prog 14 #[.slice A' n' cap'] w' (PackOk w' b b.length)) := Kit.hid (fun A' n' cap' ls w' h1 h2 h3 h4 h5 => pack_back A' n' cap' ls b w' h1 h2 h3 h4 hx h5)
      unfold PackOk at HPB
      unfold Unp at HUA HUB
      clear hf hf' hbig hw hx him
      go_enter Tryd.func4, Tryd.ntmps4
      go_wp2_with (first
        | (go_at_call 9; (with_reducible refine HAW.out.mono ?_); rintro e w1 ⟨rfl, hd1⟩
           have hs1 := secs_below hs hd1
           have CF := Kit.hid (HFW.out w1 hs1)
           have CP := Kit.hid (HPA.out w1 (Crc.tab_below hT hd1) hs1))
        | (go_at_call 13; (with_reducible refine CF.out.mono ?_); rintro e w2 ⟨rfl, rfl⟩)
        | (go_at_call 14; (with_reducible refine CP.out.mono ?_); rintro e w3 ⟨A3, cap3, rfl, hB3, hc3, hd3⟩
           have hb3 := hd1.trans (hd3.mono hd1.size)
           have CU := Kit.hid (HUA.out A3 cap3 w3 (Crc.tab_below hT hb3) hB3 hc3))
        | (go_at_call 10; (with_reducible refine CU.out.mono ?_); rintro e w4 ⟨A4, n4, cap4, ls4, rfl, hn4, hk4, hS4, hc4, h164, hd4⟩
           have hb4 := hb3.trans (hd4.mono hb3.size)
           have CS := Kit.hid (HSA.out A4 n4 cap4 ls4 w4 hn4.out hk4.out hS4 (secs_below hs hb4)))
        | (go_at_call 12; (with_reducible refine CS.out.mono ?_); rintro e w5 ⟨rfl, n5, rfl⟩
           have hb5 := below_drewN hb4 n5
           have CV := Kit.hid (HUB.out (w4.drewN n5) (Crc.tab_below hT hb5) (bytes_below hb hb5)))
        | (go_at_call 10; (with_reducible refine CV.out.mono ?_); rintro e w6 ⟨A6, n6, cap6, ls6, rfl, hn6, hk6, hS6, hc6, h166, hd6⟩
           have hb6 := hb5.trans (hd6.mono hb5.size)
           have CQ := Kit.hid (HPB.out A6 n6 cap6 ls6 w6 (Crc.tab_below hT hb6) hn6.out h166 hk6.out hS6))
        | (go_at_call 14; (with_reducible refine CQ.out.mono ?_); rintro e w7 ⟨A7, cap7, rfl, hB7, hc7, hd7⟩
           have hb7 := hb6.trans (hd7.mono hb6.size)
           have CE := Le.same_big A7 b cap7 B b capb w7 hB7 (bytes_below hb hb7) hbl hbl
           rw [decide_eq_true (rfl : b = b)] at CE
           have CE := Kit.hid CE)
        | (go_at_call 15; (with_reducible refine CE.out.mono ?_); rintro e w8 ⟨rfl, n8, rfl⟩
           have hb8 := Kit.hid (below_drewN hb7 n8)))
      go_ret
      refine ⟨by simp, ?_⟩
      have h := hb8.out
      simpa using h
    · obtain ⟨x, hxe⟩ : ∃ x, x = (unp b).1 := ⟨_, rfl⟩
      have HUB : Hid (∀ w', Hid (Crc.Tab w') → Hid (Bytes w' B b) → Calls Tryd.prog 10 #[.slice B b.length capb] w' fun e w'' => ∃ (A' : Option Addr) (cap' : Nat), e = .returned (.tuple #[.slice A' 0 cap', .int .i64 x]) ∧ Below w'.heap.size w' w'') := Kit.hid (fun w' h1 h2 => unp_bad_any B b capb x w' h1 h2 (by omega) hbc hxe.symm (by rw [hxe]; exact hx))
      have gx : (x != 0) = true := by simp only [bne_iff_ne]; rw [hxe]; exact hx
      unfold Unp at HUA
      clear hf hf' hbig hw hx him hxe
      go_enter Tryd.func4, Tryd.ntmps4
      go_wp2_with (first
        | (go_at_call 9; (with_reducible refine HAW.out.mono ?_); rintro e w1 ⟨rfl, hd1⟩
           have hs1 := secs_below hs hd1
           have CF := Kit.hid (HFW.out w1 hs1)
           have CP := Kit.hid (HPA.out w1 (Crc.tab_below hT hd1) hs1))
        | (go_at_call 13; (with_reducible refine CF.out.mono ?_); rintro e w2 ⟨rfl, rfl⟩)
        | (go_at_call 14; (with_reducible refine CP.out.mono ?_); rintro e w3 ⟨A3, cap3, rfl, hB3, hc3, hd3⟩
           have hb3 := hd1.trans (hd3.mono hd1.size)
           have CU := Kit.hid (HUA.out A3 cap3 w3 (Crc.tab_below hT hb3) hB3 hc3))
        | (go_at_call 10; (with_reducible refine CU.out.mono ?_); rintro e w4 ⟨A4, n4, cap4, ls4, rfl, hn4, hk4, hS4, hc4, h164, hd4⟩
           have hb4 := hb3.trans (hd4.mono hb3.size)
           have CS := Kit.hid (HSA.out A4 n4 cap4 ls4 w4 hn4.out hk4.out hS4 (secs_below hs hb4)))
        | (go_at_call 12; (with_reducible refine CS.out.mono ?_); rintro e w5 ⟨rfl, n5, rfl⟩
           have hb5 := below_drewN hb4 n5
           have CV := Kit.hid (HUB.out (w4.drewN n5) (Crc.tab_below hT hb5) (bytes_below hb hb5)))
        | (go_at_call 10; (with_reducible refine CV.out.mono ?_); rintro e w6 ⟨A6, cap6, rfl, hd6⟩
           have hb6 := Kit.hid (hb5.trans (hd6.mono hb5.size))))
      go_ret
      refine ⟨by simp, ?_⟩
      have h := hb6.out
      simpa using h
  · obtain ⟨y, hy⟩ : ∃ y, y = wrongM l := ⟨_, rfl⟩
    have HPA : Hid (∀ w', Hid (Crc.Tab w') → Hid (Secs w' A l) → Calls Tryd.prog 14 #[.slice A l.length cap] w' fun e w'' => ∃ (A' : Option Addr) (cap' : Nat), e = .returned (.tuple #[.slice A' 0 cap', .int .i64 y]) ∧ Below w'.heap.size w' w'') := Kit.hid (fun w' h1 h2 => pack_fails A l cap y w' h1 h2 hl hy.symm (by rw [hy]; exact hw))
    have gy : (y == 0) = false := by simp only [beq_eq_false_iff_ne]; rw [hy]; exact hw
    by_cases hx : (unp b).1 = 0
    · have HUB : Hid (∀ w', Hid (Crc.Tab w') → Hid (Bytes w' B b) → Calls Tryd.prog 10 #[.slice B b.length capb] w' (Unp w' 0 (unp b).2)) := Kit.hid (fun w' h1 h2 => by rw [← hx]; exact unp_any B b capb w' h1 h2 (by omega) hbc)
      have HPB : Hid (∀ A' n' cap' ls w', Hid (Crc.Tab w') → n' = ls.length → n' ≤ 16 → ls.map SecM.sec = (unp b).2 → Hid (Secs w' A' ls) → Calls Tryd.prog 14 #[.slice A' n' cap'] w' (PackOk w' b b.length)) := Kit.hid (fun A' n' cap' ls w' h1 h2 h3 h4 h5 => pack_back A' n' cap' ls b w' h1 h2 h3 h4 hx h5)
      unfold PackOk at HPB
      unfold Unp at HUB
      clear hf hf' hbig hw hx hy
      go_enter Tryd.func4, Tryd.ntmps4
      go_wp2_with (first
        | (go_at_call 9; (with_reducible refine HAW.out.mono ?_); rintro e w1 ⟨rfl, hd1⟩
           have hs1 := secs_below hs hd1
           have CF := Kit.hid (HFW.out w1 hs1)
           have CP := Kit.hid (HPA.out w1 (Crc.tab_below hT hd1) hs1))
        | (go_at_call 13; (with_reducible refine CF.out.mono ?_); rintro e w2 ⟨rfl, rfl⟩)
        | (go_at_call 14; (with_reducible refine CP.out.mono ?_); rintro e w3 ⟨A3, cap3, rfl, hd3⟩
           have hb3 := hd1.trans (hd3.mono hd1.size)
           have CV := Kit.hid (HUB.out _ (Crc.tab_below hT hb3) (bytes_below hb hb3)))
        | (go_at_call 10; (with_reducible refine CV.out.mono ?_); rintro e w6 ⟨A6, n6, cap6, ls6, rfl, hn6, hk6, hS6, hc6, h166, hd6⟩
           have hb6 := hb3.trans (hd6.mono hb3.size)
           have CQ := Kit.hid (HPB.out A6 n6 cap6 ls6 w6 (Crc.tab_below hT hb6) hn6.out h166 hk6.out hS6))
        | (go_at_call 14; (with_reducible refine CQ.out.mono ?_); rintro e w7 ⟨A7, cap7, rfl, hB7, hc7, hd7⟩
           have hb7 := hb6.trans (hd7.mono hb6.size)
           have CE := Le.same_big A7 b cap7 B b capb w7 hB7 (bytes_below hb hb7) hbl hbl
           rw [decide_eq_true (rfl : b = b)] at CE
           have CE := Kit.hid CE)
        | (go_at_call 15; (with_reducible refine CE.out.mono ?_); rintro e w8 ⟨rfl, n8, rfl⟩
           have hb8 := Kit.hid (below_drewN hb7 n8)))
      go_ret
      refine ⟨by simp, ?_⟩
      have h := hb8.out
      simpa using h
    · obtain ⟨x, hxe⟩ : ∃ x, x = (unp b).1 := ⟨_, rfl⟩
      have HUB : Hid (∀ w', Hid (Crc.Tab w') → Hid (Bytes w' B b) → Calls Tryd.prog 10 #[.slice B b.length capb] w' fun e w'' => ∃ (A' : Option Addr) (cap' : Nat), e = .returned (.tuple #[.slice A' 0 cap', .int .i64 x]) ∧ Below w'.heap.size w' w'') := Kit.hid (fun w' h1 h2 => unp_bad_any B b capb x w' h1 h2 (by omega) hbc hxe.symm (by rw [hxe]; exact hx))
      have gx : (x != 0) = true := by simp only [bne_iff_ne]; rw [hxe]; exact hx
      clear hf hf' hbig hw hx hy hxe
      go_enter Tryd.func4, Tryd.ntmps4
      go_wp2_with (first
        | (go_at_call 9; (with_reducible refine HAW.out.mono ?_); rintro e w1 ⟨rfl, hd1⟩
           have hs1 := secs_below hs hd1
           have CF := Kit.hid (HFW.out w1 hs1)
           have CP := Kit.hid (HPA.out w1 (Crc.tab_below hT hd1) hs1))
        | (go_at_call 13; (with_reducible refine CF.out.mono ?_); rintro e w2 ⟨rfl, rfl⟩)
        | (go_at_call 14; (with_reducible refine CP.out.mono ?_); rintro e w3 ⟨A3, cap3, rfl, hd3⟩
           have hb3 := hd1.trans (hd3.mono hd1.size)
           have CV := Kit.hid (HUB.out _ (Crc.tab_below hT hb3) (bytes_below hb hb3)))
        | (go_at_call 10; (with_reducible refine CV.out.mono ?_); rintro e w6 ⟨A6, cap6, rfl, hd6⟩
           have hb6 := Kit.hid (hb3.trans (hd6.mono hb3.size))))
      go_ret
      refine ⟨by simp, ?_⟩
      have h := hb6.out
      simpa using h
end Go.Proofs.YtlmbghemlphoaaaDoor.Pa

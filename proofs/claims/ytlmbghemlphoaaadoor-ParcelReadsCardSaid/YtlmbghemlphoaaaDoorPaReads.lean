/- The law ParcelReads. -/
import Derived.Test.YtlmbghemlphoaaaDoorPaU
namespace Go.Proofs.YtlmbghemlphoaaaDoor.Pa
open Go.RowKit Go.Proofs.YtlmbghemlphoaaaDoor.Kit Go.Proofs.YtlmbghemlphoaaaDoor.PaM Go.Proofs.YtlmbghemlphoaaaDoor.Le Go.IntWalk
set_option linter.unusedVariables false
set_option linter.unusedSimpArgs false
theorem unp_small (b : List (BitVec 8)) : ∀ s ∈ (unp b).2, s.body.length ≤ 65535 := by
  intro s hs
  by_cases h : (unp b).1 = 0
  · have hu : unp b = (0, (unp b).2) := by rw [← h]
    obtain ⟨_, _, h3⟩ := wrong_ok (img_unp hu).1
    exact h3 s hs
  · rw [unp_none b h] at hs
    cases hs
/-- Two answers of one image, compared. -/
theorem same_two (A : Option Addr) (n cap : Nat) (ls : List SecM) (B : Option Addr) (m capb : Nat) (ms : List SecM) (b : List (BitVec 8)) (w : World) (hn : n = ls.length) (hn16 : n ≤ 16) (hm : m = ms.length) (hm16 : m ≤ 16)
    (hk : ls.map SecM.sec = (unp b).2) (hk2 : ms.map SecM.sec = (unp b).2) (hs : Hid (Secs w A ls)) (hl : Hid (Secs w B ms)) :
    Calls Tryd.prog 12 #[.slice A n cap, .slice B m capb] w fun e w' => e = .returned (.bool true) ∧ ∃ m, w' = w.drewN m := by
  subst hn hm
  have sm : ∀ (l : List SecM), l.map SecM.sec = (unp b).2 → ∀ s ∈ l, s.b.length ≤ 140737488351232 := by
    intro l hl s hs
    have := unp_small b s.sec (by rw [← hl]; exact List.mem_map.2 ⟨s, hs, rfl⟩)
    have h2 : s.sec.body = s.b := rfl
    rw [h2] at this
    omega
  have h := ssame_any A ls cap B ms capb w hs hl (by omega) (by omega) (sm ls hk) (sm ms hk2)
  have hsm : sameM ls ms = true := decide_eq_true (hk.trans hk2.symm)
  rw [hsm] at h
  exact h
set_option maxHeartbeats 1600000 in
theorem readsLaw_any (A : Option Addr) (b : List (BitVec 8)) (cap : Nat) (w : World) (hT : Hid (Crc.Tab w)) (hb : Hid (Bytes w A b)) (hbl : b.length ≤ 9223372036854775807) (hbc : b.length ≤ cap) :
    Calls Tryd.prog 3 #[.slice A b.length cap] w fun e w' => e = .returned (.bool true) ∧ Below w.heap.size w w' := by
  have HAW := Kit.hid (awake_any w hT)
  by_cases hbig : 600 < b.length
  · have g1 : (600 : Int) < (b.length : Int) := by omega
    clear hbig
    go_enter Tryd.func3, Tryd.ntmps3
    go_wp2_with (go_at_call 9; (with_reducible refine HAW.out.mono ?_); rintro e w1 ⟨rfl, hd1⟩)
    go_ret
    exact ⟨rfl, hd1⟩
  have g1 : ¬ (600 : Int) < (b.length : Int) := by omega
  have HUB : Hid (∀ w', Hid (Crc.Tab w') → Hid (Bytes w' A b) → Calls Tryd.prog 10 #[.slice A b.length cap] w' (Unp w' (unp b).1 (unp b).2)) := Kit.hid (fun w' h1 h2 => unp_any A b cap w' h1 h2 (by omega) hbc)
  have HRB : Hid (∀ w', Hid (Bytes w' A b) → Calls Tryd.prog 11 #[.slice A b.length cap] w' (Unp w' (unp b).1 (unp b).2)) := Kit.hid (fun w' h2 => runpack_any A b cap w' h2 (by omega) hbc)
  obtain ⟨x, hx⟩ : ∃ x, x = (unp b).1 := ⟨_, rfl⟩
  have HK : Hid (∃ k, k = (unp b).2) := Kit.hid ⟨_, rfl⟩
  obtain ⟨k, hk⟩ := HK.out
  rw [← hx, ← hk] at HUB HRB
  have HKK := Kit.hid hk
  unfold Unp at HUB HRB
  clear hbig hx hk
  have gx : (x == x) = true := beq_self_eq_true x
  go_enter Tryd.func3, Tryd.ntmps3
  go_wp2_with (first
    | (go_at_call 9; (with_reducible refine HAW.out.mono ?_); rintro e w1 ⟨rfl, hd1⟩
       have CU := Kit.hid (HUB.out w1 (Crc.tab_below hT hd1) (bytes_below hb hd1)))
    | (go_at_call 10; (with_reducible refine CU.out.mono ?_); rintro e w4 ⟨A4, n4, cap4, ls4, rfl, hn4, hk4, hS4, hc4, h164, hd4⟩
       have hb4 := hd1.trans (hd4.mono hd1.size)
       have CV := Kit.hid (HRB.out w4 (bytes_below hb hb4)))
    | (go_at_call 11; (with_reducible refine CV.out.mono ?_); rintro e w5 ⟨A5, n5, cap5, ls5, rfl, hn5, hk5, hS5, hc5, h165, hd5⟩
       have hb5 := hb4.trans (hd5.mono hb4.size)
       have CS := Kit.hid (same_two A4 n4 cap4 ls4 A5 n5 cap5 ls5 b w5 hn4.out h164 hn5.out h165 (hk4.out.trans HKK.out) (hk5.out.trans HKK.out) (secs_below hS4 hd5) hS5))
    | (go_at_call 12; (with_reducible refine CS.out.mono ?_); rintro e w6 ⟨rfl, n6, rfl⟩
       have hb6 := Kit.hid (below_drewN hb5 n6)))
  go_ret
  refine ⟨by simp, ?_⟩
  have h := hb6.out
  simpa using h
end Go.Proofs.YtlmbghemlphoaaaDoor.Pa

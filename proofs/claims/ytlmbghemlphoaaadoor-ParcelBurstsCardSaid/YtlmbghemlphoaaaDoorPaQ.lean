/- Parcels: what a pack, unpacked, and what an unpack, packed, give. -/
import Derived.Test.YtlmbghemlphoaaaDoorPaPacks
namespace Go.Proofs.YtlmbghemlphoaaaDoor.Pa
open Go.RowKit Go.Proofs.YtlmbghemlphoaaaDoor.Kit Go.Proofs.YtlmbghemlphoaaaDoor.PaM Go.Proofs.YtlmbghemlphoaaaDoor.Le Go.IntWalk
set_option linter.unusedVariables false
set_option linter.unusedSimpArgs false
theorem tail_bad (E : List Ent) (r : List (BitVec 8)) (h : (tail E r).1 ≠ 0) : (tail E r).2 = [] := by
  unfold tail at h ⊢
  by_cases h1 : erise 0 E = false
  · rw [if_pos h1]
  · rw [if_neg h1] at h ⊢
    by_cases h2 : r.length < total E
    · rw [if_pos h2]
    · rw [if_neg h2] at h ⊢
      by_cases h3 : total E < r.length
      · rw [if_pos h3]
      · rw [if_neg h3] at h ⊢
        by_cases h4 : checks E r = false
        · rw [if_pos h4]
        · rw [if_neg h4] at h
          exact absurd rfl h
theorem unp_none (b : List (BitVec 8)) (h : (unp b).1 ≠ 0) : (unp b).2 = [] := by
  unfold unp at h ⊢
  by_cases h1 : b.length < 9
  · rw [if_pos h1]
  · rw [if_neg h1] at h ⊢
    by_cases h2 : b.take 4 ≠ magic
    · rw [if_pos h2]
    · rw [if_neg h2] at h ⊢
      by_cases h3 : tab b ≠ 0
      · rw [if_pos h3]
      · rw [if_neg h3] at h ⊢
        exact tail_bad _ _ h
/-- Sections that were unpacked. -/
def Unp (w : World) (x : Int) (k : List Sec) (e : Ending) (w' : World) : Prop :=
  ∃ (A : Option Addr) (n cap : Nat) (ls : List SecM), e = .returned (.tuple #[.slice A n cap, .int .i64 x]) ∧ Hid (n = ls.length) ∧ Hid (ls.map SecM.sec = k) ∧ Hid (Secs w' A ls) ∧ n ≤ cap ∧ n ≤ 16 ∧ Below w.heap.size w w'
theorem unp_img_any (A : Option Addr) (n cap : Nat) (k : List Sec) (w : World) (hT : Hid (Crc.Tab w)) (hw : wrong k = 0) (hb : Hid (Bytes w A (img k))) (hn : (img k).length = n) (hc : n ≤ cap) :
    Calls Tryd.prog 10 #[.slice A n cap] w (Unp w 0 k) := by
  subst hn
  have hlen : (img k).length ≤ 1100000 := by
    rw [img_length]
    obtain ⟨h1, _, h3⟩ := wrong_ok hw
    have := bodies_bd k h3
    omega
  refine (unpack_any A (img k) cap w hT hb (by omega) hc).mono ?_
  rintro e w' ⟨A', cap', ls, rfl, hls, hS, hc', h16, hd⟩
  rw [unp_img hw] at hls ⊢
  exact ⟨A', ls.length, cap', ls, rfl, Kit.hid rfl, Kit.hid hls, hS, hc', h16, hd⟩
theorem secs_small {ls : List SecM} {k : List Sec} (h : ls.map SecM.sec = k) (hw : wrong k = 0) : ∀ s ∈ ls, s.b.length ≤ 140737488351232 := by
  intro s hs
  obtain ⟨_, _, h3⟩ := wrong_ok hw
  have := h3 s.sec (by rw [← h]; exact List.mem_map.2 ⟨s, hs, rfl⟩)
  have h2 : s.sec.body = s.b := rfl
  rw [h2] at this
  omega
theorem wrongM_of {ls : List SecM} {k : List Sec} (h : ls.map SecM.sec = k) : wrongM ls = wrong k := by unfold wrongM; rw [h]
/-- What was unpacked, compared with what it was packed from. -/
theorem same_back (A : Option Addr) (n cap : Nat) (ls : List SecM) (B : Option Addr) (l : List SecM) (capl : Nat) (w : World) (hn : n = ls.length) (hk : ls.map SecM.sec = l.map SecM.sec) (hw : wrongM l = 0) (hs : Hid (Secs w A ls)) (hl : Hid (Secs w B l)) :
    Calls Tryd.prog 12 #[.slice A n cap, .slice B l.length capl] w fun e w' => e = .returned (.bool true) ∧ ∃ m, w' = w.drewN m := by
  subst hn
  obtain ⟨h16, _, _⟩ := wrong_ok hw
  have e1 : (l.map SecM.sec).length = l.length := List.length_map _
  have e2 : (ls.map SecM.sec).length = ls.length := List.length_map _
  have e3 := congrArg List.length hk
  have h := ssame_any A ls cap B l capl w hs hl (by omega) (by omega) (secs_small hk hw) (secs_small rfl hw)
  have hsm : sameM ls l = true := decide_eq_true hk
  rw [hsm] at h
  exact h
/-- What was unpacked is packed again. -/
theorem pack_back (A : Option Addr) (n cap : Nat) (ls : List SecM) (b : List (BitVec 8)) (w : World) (hT : Hid (Crc.Tab w)) (hn : n = ls.length) (h16 : n ≤ 16) (hk : ls.map SecM.sec = (unp b).2) (hx : (unp b).1 = 0) (hs : Hid (Secs w A ls)) :
    Calls Tryd.prog 14 #[.slice A n cap] w (PackOk w b b.length) := by
  subst hn
  have hu : unp b = (0, ls.map SecM.sec) := by
    rw [hk, ← hx]
  obtain ⟨h1, h2⟩ := img_unp hu
  have h := pack_ok A ls cap b.length w hT hs (by omega) h1 (by rw [h2])
  rw [h2] at h
  exact h
theorem unp_any (A : Option Addr) (b : List (BitVec 8)) (cap : Nat) (w : World) (hT : Hid (Crc.Tab w)) (hb : Hid (Bytes w A b)) (hl : b.length ≤ 140737488351232) (hc : b.length ≤ cap) :
    Calls Tryd.prog 10 #[.slice A b.length cap] w (Unp w (unp b).1 (unp b).2) := by
  refine (unpack_any A b cap w hT hb hl hc).mono ?_
  rintro e w' ⟨A', cap', ls, rfl, hls, hS, hc', h16, hd⟩
  exact ⟨A', ls.length, cap', ls, rfl, Kit.hid rfl, Kit.hid hls, hS, hc', h16, hd⟩
theorem unp_bad_any (A : Option Addr) (b : List (BitVec 8)) (cap : Nat) (x : Int) (w : World) (hT : Hid (Crc.Tab w)) (hb : Hid (Bytes w A b)) (hl : b.length ≤ 140737488351232) (hc : b.length ≤ cap) (hx : (unp b).1 = x) (h0 : x ≠ 0) :
    Calls Tryd.prog 10 #[.slice A b.length cap] w fun e w' => ∃ (A' : Option Addr) (cap' : Nat), e = .returned (.tuple #[.slice A' 0 cap', .int .i64 x]) ∧ Below w.heap.size w w' := by
  refine (unpack_any A b cap w hT hb hl hc).mono ?_
  rintro e w' ⟨A', cap', ls, rfl, hls, hS, hc', h16, hd⟩
  rw [unp_none b (by rw [hx]; exact h0)] at hls
  have : ls = [] := by simpa using hls
  subst this
  exact ⟨A', cap', by rw [hx]; rfl, hd⟩
/-- A pack that fails. -/
theorem pack_fails (A : Option Addr) (l : List SecM) (cap : Nat) (x : Int) (w : World) (hT : Hid (Crc.Tab w)) (hs : Hid (Secs w A l)) (hl : l.length ≤ 9223372036854775807) (hw : wrongM l = x) (hx : x ≠ 0) :
    Calls Tryd.prog 14 #[.slice A l.length cap] w fun e w' => ∃ (A' : Option Addr) (cap' : Nat), e = .returned (.tuple #[.slice A' 0 cap', .int .i64 x]) ∧ Below w.heap.size w w' := by
  refine (pack_any A l cap w hT hs hl).mono ?_
  rintro e w' ⟨A', cap', rfl, hb, hc, hd⟩
  rw [packed_bad hw hx, hw]
  exact ⟨A', cap', rfl, hd⟩
theorem few_bd {l : List SecM} (h : fewM l = true) : l.length ≤ 20 := by
  unfold fewM at h
  simp only [Bool.and_eq_true, decide_eq_true_eq] at h
  exact h.2
end Go.Proofs.YtlmbghemlphoaaaDoor.Pa

/- The small walks of parcels: is one long, do kinds rise, are they few, what a check is. -/
import Derived.Test.YtlmbghemlphoaaaDoorPaS
import Derived.Test.YtlmbghemlphoaaaDoorDoor
namespace Go.Proofs.YtlmbghemlphoaaaDoor.Pa
open Go.RowKit Go.Proofs.YtlmbghemlphoaaaDoor.Kit Go.Proofs.YtlmbghemlphoaaaDoor.PaM Go.IntWalk
set_option linter.unusedVariables false
set_option linter.unusedSimpArgs false
def isLong (s : SecM) : Bool := decide (65535 < s.b.length)
theorem long_any (s : SecM) (w : World) : Calls Tryd.prog 27 #[s.val] w fun e w' => e = .returned (.bool (isLong s)) ∧ Below w.heap.size w w' := by
  obtain ⟨k, A, b, cap⟩ := s
  have h : isLong ⟨k, A, b, cap⟩ = decide ((65535 : Int) < (b.length : Int)) := by unfold isLong; congr 1; simp; omega
  rw [h]
  unfold SecM.val SecM.body
  clear h
  go_enter Tryd.func27, Tryd.ntmps27
  go_wp2
  go_ret
  exact ⟨rfl, (Below.refl _ _).alloc (Nat.le_refl _) _⟩
def risingM (last : Int) (l : List SecM) : Bool := rising last (l.map SecM.sec)
def lastOf : Int → List SecM → Int
  | last, [] => last
  | _, s :: l => lastOf s.kind l
theorem rising_app : ∀ (last : Int) (l : List SecM) (k : List SecM), risingM last (l ++ k) = (risingM last l && risingM (lastOf last l) k)
  | last, [], k => by simp [risingM, rising, lastOf]
  | last, s :: l, k => by
    have := rising_app s.kind l k
    simp only [risingM, List.map_append] at this
    simp only [risingM, List.cons_append, List.map_cons, rising, lastOf, List.map_append, SecM.sec] at this ⊢
    rw [this]
    simp [Bool.and_assoc]
theorem lastOf_snoc : ∀ (last : Int) (l : List SecM) (s : SecM), lastOf last (l ++ [s]) = s.kind
  | _, [], _ => rfl
  | _, x :: l, s => lastOf_snoc x.kind l s
theorem sec_block (w : World) (s : SecM) : (w.alloc (.cells #[.int .i64 s.kind, s.body] 39)).cell? ⟨w.heap.size, 0, none⟩ = some (.int .i64 s.kind) ∧ (w.alloc (.cells #[.int .i64 s.kind, s.body] 39)).cell? ⟨w.heap.size, 1, none⟩ = some s.body :=
  ⟨(blk_cell (blk_new w _) 0).trans rfl, (blk_cell (blk_new w _) 1).trans rfl⟩
set_option maxHeartbeats 800000 in
theorem rising_any (A : Option Addr) (l : List SecM) (cap : Nat) (w : World) (hs : Hid (Secs w A l)) (hl : l.length ≤ 9223372036854775807) :
    Calls Tryd.prog 21 #[.slice A l.length cap] w fun e w' => e = .returned (.bool (risingM 0 l)) ∧ Below w.heap.size w w' := by
  go_enter Tryd.func21, Tryd.ntmps21
  go_wp2
  go_loopw [3, 8] (fun v3 v8 wr => ∃ i : Nat, i ≤ l.length ∧ v3 = .int .i64 (lastOf 0 (l.take i)) ∧ v8 = .int .i64 i ∧ risingM 0 (l.take i) = true ∧ Hid (Below w.heap.size w wr)) (fun _ i _ => l.length - (intOf i).toNat)
  case atStart => exact ⟨0, by omega, rfl, rfl, rfl, Kit.hid (Below.refl _ _)⟩
  case round =>
    obtain ⟨i, hi, rfl, rfl, hr, hbw⟩ := hrel
    by_cases hlt : i < l.length
    · obtain ⟨s, hss⟩ : ∃ s, s = l[i] := ⟨_, rfl⟩
      obtain ⟨ad, hA, k0, k1, _⟩ := sec_at (secs_below hs hbw.out) hlt hss
      subst hA
      have hT : l.take (i + 1) = l.take i ++ [s] := by rw [List.take_succ_eq_append_getElem hlt, hss]
      have hR := rising_app 0 (l.take i) [s]
      rw [← hT, hr, Bool.true_and] at hR
      have hL := lastOf_snoc 0 (l.take i) s
      rw [← hT] at hL
      have hall := rising_app 0 (l.take (i + 1)) (l.drop (i + 1))
      rw [List.take_append_drop] at hall
      obtain ⟨last, hlast⟩ : ∃ x, x = lastOf 0 (l.take i) := ⟨_, rfl⟩
      rw [← hlast] at hR
      have hR2 : risingM last [s] = (decide (last < s.kind) && (decide (s.kind ≤ 255) && true)) := rfl
      have HL := Kit.hid hL
      have hb2 := Kit.hid (hbw.out.alloc hbw.out.size (.cells #[.int .i64 s.kind, s.body] 39))
      unfold SecM.body at k1
      by_cases h1 : s.kind ≤ last
      · have e : risingM 0 l = false := by
          rw [hall, hR, hR2, decide_eq_false (p := last < s.kind) (by omega)]
          rfl
        have E := Kit.hid e
        rw [← hlast]
        clear hR hR2 hall hL hT hlast hss e hr
        go_wp2
        go_ret
        exact ⟨congrArg (fun b => Ending.returned (.bool b)) E.out.symm, hb2.out⟩
      · have h1b : decide (s.kind ≤ last) = false := decide_eq_false h1
        by_cases h2 : 255 < s.kind
        · have e : risingM 0 l = false := by
            rw [hall, hR, hR2, decide_eq_false (p := s.kind ≤ 255) (by omega)]
            simp
          have E := Kit.hid e
          rw [← hlast]
          clear hR hR2 hall hL hT hlast hss e hr
          go_wp2
          go_ret
          exact ⟨congrArg (fun b => Ending.returned (.bool b)) E.out.symm, hb2.out⟩
        · have h2b : decide (255 < s.kind) = false := decide_eq_false h2
          have e : risingM 0 (l.take (i + 1)) = true := by
            rw [hR, hR2, decide_eq_true (p := last < s.kind) (by omega), decide_eq_true (p := s.kind ≤ 255) (by omega)]
            rfl
          have E := Kit.hid e
          rw [← hlast]
          clear hR hR2 hall hL hT hlast hss e hr
          go_wp2
          go_roundw
          case rel => exact ⟨i + 1, by omega, by rw [HL.out], by go_num, E.out, hb2⟩
          case measure => simp [intOf]; omega
    · obtain rfl : i = l.length := by omega
      rw [List.take_length] at hr
      have E := Kit.hid hr
      clear hr
      go_wp2
      go_ret
      exact ⟨congrArg (fun b => Ending.returned (.bool b)) E.out.symm, hbw.out⟩
def fewM (l : List SecM) : Bool := (l.all fun s => !(decide (100 < s.b.length) && decide (s.b.length ≤ 65535))) && decide (l.length ≤ 20)
set_option maxHeartbeats 800000 in
theorem few_any (A : Option Addr) (l : List SecM) (cap : Nat) (w : World) (hs : Hid (Secs w A l)) (hl : l.length ≤ 9223372036854775807) :
    Calls Tryd.prog 13 #[.slice A l.length cap] w fun e w' => e = .returned (.bool (fewM l)) ∧ w = w' := by
  go_enter Tryd.func13, Tryd.ntmps13
  go_wp2
  go_loopw [3] (fun v3 wr => ∃ i : Nat, i ≤ l.length ∧ v3 = .int .i64 i ∧ (∀ s ∈ l.take i, ¬ (100 < s.b.length ∧ s.b.length ≤ 65535)) ∧ wr = w) (fun i _ => l.length - (intOf i).toNat)
  case atStart => exact ⟨0, by omega, rfl, (by simp), rfl⟩
  case round =>
    obtain ⟨i, hi, rfl, hr, rfl⟩ := hrel
    by_cases hlt : i < l.length
    · obtain ⟨s, hss⟩ : ∃ s, s = l[i] := ⟨_, rfl⟩
      obtain ⟨ad, hA, k0, k1, _⟩ := sec_at hs hlt hss
      subst hA
      have hT : l.take (i + 1) = l.take i ++ [s] := by rw [List.take_succ_eq_append_getElem hlt, hss]
      have hmem : s ∈ l := by rw [hss]; exact List.getElem_mem hlt
      unfold SecM.body at k1
      by_cases h1 : 100 < s.b.length
      · have g1 : (100 : Int) < (s.b.length : Int) := by omega
        by_cases h2 : s.b.length ≤ 65535
        · have g2 : (s.b.length : Int) ≤ 65535 := by omega
          have e : fewM l = false := by
            unfold fewM
            rw [Bool.and_eq_false_iff]
            refine .inl (List.all_eq_false.2 ⟨s, hmem, ?_⟩)
            simp [h1, h2]
          have E := Kit.hid e
          clear hr hT hss hmem e
          go_wp2
          go_ret
          exact ⟨congrArg (fun b => Ending.returned (.bool b)) E.out.symm, rfl⟩
        · have g2 : ¬ (s.b.length : Int) ≤ 65535 := by omega
          have g2b : decide ((s.b.length : Int) ≤ 65535) = false := decide_eq_false g2
          have hr2 : ∀ x ∈ l.take (i + 1), ¬ (100 < x.b.length ∧ x.b.length ≤ 65535) := by
            intro x hx
            rw [hT, List.mem_append] at hx
            rcases hx with hx | hx
            · exact hr x hx
            · rw [List.mem_singleton.1 hx]; omega
          have HR := Kit.hid hr2
          clear hr hT hss hmem hr2
          go_wp2
          go_roundw
          case rel => exact ⟨i + 1, by omega, by go_num, HR.out, by first | rfl | trivial⟩
          case measure => simp [intOf]; omega
      · have g1 : ¬ (100 : Int) < (s.b.length : Int) := by omega
        have g1b : decide ((100 : Int) < (s.b.length : Int)) = false := decide_eq_false g1
        have hr2 : ∀ x ∈ l.take (i + 1), ¬ (100 < x.b.length ∧ x.b.length ≤ 65535) := by
          intro x hx
          rw [hT, List.mem_append] at hx
          rcases hx with hx | hx
          · exact hr x hx
          · rw [List.mem_singleton.1 hx]; omega
        have HR := Kit.hid hr2
        clear hr hT hss hmem hr2
        go_wp2
        go_roundw
        case rel => exact ⟨i + 1, by omega, by go_num, HR.out, by first | rfl | trivial⟩
        case measure => simp [intOf]; omega
    · obtain rfl : i = l.length := by omega
      rw [List.take_length] at hr
      have e : fewM l = decide ((l.length : Int) ≤ 20) := by
        unfold fewM
        rw [List.all_eq_true.2 (fun s hs => by have := hr s hs; simp; omega), Bool.true_and]
        congr 1
        simp; omega
      have E := Kit.hid e
      clear hr e
      go_wp2
      go_ret
      exact ⟨congrArg (fun b => Ending.returned (.bool b)) E.out.symm, rfl⟩
theorem check_any (A : Option Addr) (l : List (BitVec 8)) (cap : Nat) (w : World) (hb : Hid (Bytes w A l)) (hl : l.length ≤ 140737488351232) :
    Calls Tryd.prog 25 #[.slice A l.length cap] w (Le.DigPost w (crcD l)) := by
  have HO := Kit.hid (Crc.rof_any A l cap w hb hl)
  have hlt := crc_lt l
  have HD := Kit.hid (Le.digits_any (CrcM.more 0#32 l).toNat 4 w (by omega))
  have e : LeM.hw 4 = 4 := rfl
  rw [e] at HD
  obtain ⟨c, hc⟩ : ∃ c, c = (CrcM.more 0#32 l).toNat := ⟨_, rfl⟩
  obtain ⟨D, hD⟩ : ∃ D, D = crcD l := ⟨_, rfl⟩
  have hDc : LeM.dig (CrcM.more 0#32 l).toNat 4 = D := hD.symm
  rw [hDc] at HD
  rw [← hc] at HO HD hlt
  rw [← hD]
  have hc0 : (0 : Int) ≤ (c : Int) := by omega
  have hc1 : (c : Int) < 4294967296 := by omega
  have r1 : IntKind.u64.wrap (c : Int) = (c : Int) := by simp [IntKind.wrap, IntKind.bits, IntKind.signed]; omega
  clear hc hD hDc e hlt hb
  go_enter Tryd.func25, Tryd.ntmps25
  go_wp2_with (first
    | (go_at_call 37; refine HO.out.mono ?_; rintro e w1 ⟨rfl, rfl⟩)
    | (go_at_call 30; refine HD.out.mono ?_; rintro e w2 ⟨v2, rfl, hown, hd⟩))
  go_ret
  exact ⟨v2, rfl, hown, hd⟩
def findM (l : List SecM) (k : Int) : Option SecM := l.find? fun s => decide (s.kind = k)
def foundB (l : List SecM) (k : Int) : List (BitVec 8) := match findM l k with | some s => s.b | none => []
def foundV (l : List SecM) (k : Int) : Value := match findM l k with | some s => s.body | none => .slice none 0 0
theorem rfind_any (A : Option Addr) (l : List SecM) (cap : Nat) (k : Int) (w : World) (hs : Hid (Secs w A l)) (hl : l.length ≤ 9223372036854775807) :
    Calls Tryd.prog 18 #[.slice A l.length cap, .int .i64 k] w fun e w' => e = .returned (.tuple #[foundV l k, .bool (findM l k).isSome]) ∧ w = w' := by
  go_enter Tryd.func18, Tryd.ntmps18
  go_wp2
  go_loopw [6] (fun v6 wr => ∃ i : Nat, i ≤ l.length ∧ v6 = .int .i64 i ∧ (∀ s ∈ l.take i, ¬ s.kind = k) ∧ w = wr) (fun i _ => l.length - (intOf i).toNat)
  case atStart => exact ⟨0, by omega, rfl, (by simp), rfl⟩
  case round =>
    obtain ⟨i, hi, rfl, hr, rfl⟩ := hrel
    by_cases hlt : i < l.length
    · obtain ⟨s, hss⟩ : ∃ s, s = l[i] := ⟨_, rfl⟩
      obtain ⟨ad, hA, k0, k1, _⟩ := sec_at hs hlt hss
      subst hA
      have hT : l.take (i + 1) = l.take i ++ [s] := by rw [List.take_succ_eq_append_getElem hlt, hss]
      unfold SecM.body at k1
      by_cases h1 : s.kind = k
      · have e : findM l k = some s := by
          unfold findM
          have hsp : l = l.take i ++ s :: l.drop (i + 1) := by rw [hss]; simp
          rw [hsp, List.find?_append, List.find?_eq_none.2 (fun x hx => by have := hr x hx; simpa using this)]
          simp [h1]
        have E := Kit.hid e
        clear hr hT hss e
        subst h1
        go_wp2
        go_ret2
        refine ⟨?_, rfl⟩
        simp only [foundV, E.out]
        rfl
      · have hr2 : ∀ x ∈ l.take (i + 1), ¬ x.kind = k := by
          intro x hx
          rw [hT, List.mem_append] at hx
          rcases hx with hx | hx
          · exact hr x hx
          · rw [List.mem_singleton.1 hx]; exact h1
        have HR := Kit.hid hr2
        clear hr hT hss hr2
        go_wp2
        go_roundw
        case rel => exact ⟨i + 1, by omega, by go_num, HR.out, by first | rfl | trivial⟩
        case measure => simp [intOf]; omega
    · obtain rfl : i = l.length := by omega
      rw [List.take_length] at hr
      have e : findM l k = none := by
        unfold findM
        rw [List.find?_eq_none]
        intro x hx
        have := hr x hx
        simpa using this
      have E := Kit.hid e
      clear hr e
      go_wp2
      go_ret2
      refine ⟨?_, rfl⟩
      simp only [foundV, E.out]
      rfl
end Go.Proofs.YtlmbghemlphoaaaDoor.Pa

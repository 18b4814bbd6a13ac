/- The law ParcelFinds. -/
import Derived.Test.YtlmbghemlphoaaaDoorPaQ
namespace Go.Proofs.YtlmbghemlphoaaaDoor.Pa
open Go.RowKit Go.Proofs.YtlmbghemlphoaaaDoor.Kit Go.Proofs.YtlmbghemlphoaaaDoor.PaM Go.Proofs.YtlmbghemlphoaaaDoor.Le Go.IntWalk
set_option linter.unusedVariables false
set_option linter.unusedSimpArgs false
theorem rising_gt : ∀ (last : Int) (L : List Sec), rising last L = true → ∀ s ∈ L, last < s.kind
  | _, [], _, s, hs => by cases hs
  | last, x :: L, h, s, hs => by
    unfold rising at h
    simp only [Bool.and_eq_true, decide_eq_true_eq] at h
    rcases List.mem_cons.1 hs with rfl | hs
    · exact h.1
    · have := rising_gt x.kind L h.2.2 s hs
      omega
theorem rising_find : ∀ (last : Int) (L : List Sec), rising last L = true → ∀ s ∈ L, L.find? (fun x => decide (x.kind = s.kind)) = some s
  | _, [], _, s, hs => by cases hs
  | last, x :: L, h, s, hs => by
    unfold rising at h
    simp only [Bool.and_eq_true, decide_eq_true_eq] at h
    rcases List.mem_cons.1 hs with rfl | hs
    · simp
    · have hgt := rising_gt x.kind L h.2.2 s hs
      rw [List.find?_cons_of_neg (by simp; omega)]
      exact rising_find x.kind L h.2.2 s hs
theorem findM_sec (ls : List SecM) (k : Int) : (findM ls k).map SecM.sec = (ls.map SecM.sec).find? (fun x => decide (x.kind = k)) := by
  unfold findM
  rw [List.find?_map]
  rfl
theorem find_isSome (p : SecM → Bool) : ∀ l : List SecM, (l.find? p).isSome = l.any p
  | [] => rfl
  | x :: l => by
    rw [List.find?_cons, List.any_cons]
    cases h : p x
    · simpa using find_isSome p l
    · rfl
theorem findM_isSome {ls l : List SecM} (h : ls.map SecM.sec = l.map SecM.sec) (k : Int) : (findM ls k).isSome = l.any fun s => decide (s.kind = k) := by
  have h1 := findM_sec ls k
  rw [h, ← findM_sec l k] at h1
  have h2 : ((findM ls k).map SecM.sec).isSome = ((findM l k).map SecM.sec).isSome := by rw [h1]
  rw [Option.isSome_map, Option.isSome_map] at h2
  rw [h2]
  unfold findM
  exact find_isSome _ l
theorem found_back (A : Option Addr) (ls l : List SecM) (s : SecM) (h : ls.map SecM.sec = l.map SecM.sec) (hw : wrongM l = 0) (hs : s ∈ l) :
    ∃ (F : Option Addr) (fc : Nat), foundV ls s.kind = .slice F s.b.length fc ∧ (findM ls s.kind).isSome = true ∧ ∀ w, Hid (Secs w A ls) → Hid (Bytes w F s.b) := by
  have hr := (wrong_ok hw).2.1
  have hf := rising_find 0 (l.map SecM.sec) hr s.sec (List.mem_map.2 ⟨s, hs, rfl⟩)
  rw [← h] at hf
  have hf2 : (findM ls s.kind).map SecM.sec = some s.sec := (findM_sec ls s.kind).trans hf
  cases hm : findM ls s.kind with
  | none => rw [hm] at hf2; cases hf2
  | some x =>
    rw [hm] at hf2
    have hx : x.sec = s.sec := by simpa using hf2
    have hxb : x.b = s.b := congrArg Sec.body hx
    have hmem : x ∈ ls := List.mem_of_find?_eq_some hm
    obtain ⟨i, hi, he⟩ := List.getElem_of_mem hmem
    refine ⟨x.A, x.cap, ?_, rfl, fun w hw => ?_⟩
    · unfold foundV
      rw [hm, ← hxb]
      rfl
    · obtain ⟨_, _, _, _, hb⟩ := sec_at hw hi he.symm
      rw [← hxb]
      exact hb
theorem any_one {an x : Bool} (h : an = true) : true = (an || x) := by rw [h]; rfl
theorem any_two {an : Bool} {a b : Int} (h : ¬ an = true) : (a == b) = (an || decide (a = b)) := by
  have h : an = false := by simpa using h
  rw [h, Bool.false_or]
  by_cases e : a = b
  · rw [e]; simp
  · rw [decide_eq_false e]; simpa using e
set_option maxHeartbeats 1600000 in
theorem findsLaw_any (A : Option Addr) (l : List SecM) (cap : Nat) (k : Int) (w : World) (hT : Hid (Crc.Tab w)) (hs : Hid (Secs w A l)) (hl : l.length ≤ 9223372036854775807) :
    Calls Tryd.prog 8 #[.slice A l.length cap, .int .i64 k] w fun e w' => e = .returned (.bool true) ∧ Below w.heap.size w w' := by
  have HAW := Kit.hid (awake_any w hT)
  have HFW : Hid (∀ w', Hid (Secs w' A l) → Calls Tryd.prog 13 #[.slice A l.length cap] w' fun e w'' => e = .returned (.bool (fewM l)) ∧ w' = w'') := Kit.hid (fun w' h => few_any A l cap w' h hl)
  by_cases hf : fewM l = false
  · rw [hf] at HFW
    have HPA := Kit.hid (fun w' h1 h2 => pack_any A l cap w' h1 h2 hl)
    unfold PackPost at HPA
    obtain ⟨pk, hpk⟩ : ∃ pk, pk = packed l := ⟨_, rfl⟩
    obtain ⟨wm, hwm⟩ : ∃ wm, wm = wrongM l := ⟨_, rfl⟩
    rw [← hpk, ← hwm] at HPA
    clear hf hpk hwm
    go_enter Tryd.func8, Tryd.ntmps8
    go_wp2_with (first
      | (go_at_call 9; (with_reducible refine HAW.out.mono ?_); rintro e w1 ⟨rfl, hd1⟩
         have CF := Kit.hid (HFW.out w1 (secs_below hs hd1))
         have CP := Kit.hid (HPA.out w1 (Crc.tab_below hT hd1) (secs_below hs hd1)))
      | (go_at_call 13; (with_reducible refine CF.out.mono ?_); rintro e w2 ⟨rfl, rfl⟩)
      | (go_at_call 14; (with_reducible refine CP.out.mono ?_); rintro e w3 ⟨A3, cap3, rfl, hB3, hc3, hd3⟩
         have hb3 := Kit.hid (hd1.trans (hd3.mono hd1.size))))
    go_ret
    exact ⟨by first | rfl | simp, hb3.out⟩
  have hf' : fewM l = true := by simpa using hf
  rw [hf'] at HFW
  by_cases hw : wrongM l = 0
  · have HPA : Hid (∀ w', Hid (Crc.Tab w') → Hid (Secs w' A l) → Calls Tryd.prog 14 #[.slice A l.length cap] w' (PackOk w' (img (l.map SecM.sec)) (img (l.map SecM.sec)).length)) := Kit.hid (fun w' h1 h2 => pack_ok A l cap _ w' h1 h2 hl hw rfl)
    have HUA : Hid (∀ A' cap' w', Hid (Crc.Tab w') → Hid (Bytes w' A' (img (l.map SecM.sec))) → (img (l.map SecM.sec)).length ≤ cap' → Calls Tryd.prog 10 #[.slice A' (img (l.map SecM.sec)).length cap'] w' (Unp w' 0 (l.map SecM.sec))) := Kit.hid (fun A' cap' w' h1 h2 h3 => unp_img_any A' _ cap' _ w' h1 hw h2 rfl h3)
    have HFA : Hid (∀ A' n' cap' ls k' w', Hid (n' = ls.length) → n' ≤ 16 → Hid (Secs w' A' ls) → Calls Tryd.prog 17 #[.slice A' n' cap', .int .i64 k'] w' fun e w'' => e = .returned (.tuple #[foundV ls k', .bool (findM ls k').isSome]) ∧ Below w'.heap.size w' w'') := Kit.hid (fun A' n' cap' ls k' w' h1 h2 h3 => by
      have h1 := h1.out
      subst h1
      exact find_any A' ls cap' k' w' h3 (by omega))
    have HBK : Hid (∀ A' (ls : List SecM) (s : SecM), Hid (ls.map SecM.sec = l.map SecM.sec) → s ∈ l → ∃ (F : Option Addr) (fc : Nat), foundV ls s.kind = .slice F s.b.length fc ∧ (findM ls s.kind).isSome = true ∧ ∀ w, Hid (Secs w A' ls) → Hid (Bytes w F s.b)) := Kit.hid (fun A' ls s h hs => found_back A' ls l s h.out hw hs)
    have HSM : Hid (∀ s ∈ l, s.b.length ≤ 140737488351232) := Kit.hid (secs_small rfl hw)
    have HANY : Hid (∀ (ls : List SecM), Hid (ls.map SecM.sec = l.map SecM.sec) → (findM ls k).isSome = l.any fun s => decide (s.kind = k)) := Kit.hid (fun ls h => findM_isSome h.out k)
    obtain ⟨im, him⟩ : ∃ im, im = img (l.map SecM.sec) := ⟨_, rfl⟩
    rw [← him] at HPA HUA
    unfold PackOk at HPA
    unfold Unp at HUA
    clear hf hf' hw him
    go_enter Tryd.func8, Tryd.ntmps8
    go_wp2_with (first
      | (go_at_call 9; (with_reducible refine HAW.out.mono ?_); rintro e w1 ⟨rfl, hd1⟩
         have CF := Kit.hid (HFW.out w1 (secs_below hs hd1))
         have CP := Kit.hid (HPA.out w1 (Crc.tab_below hT hd1) (secs_below hs hd1)))
      | (go_at_call 13; (with_reducible refine CF.out.mono ?_); rintro e w2 ⟨rfl, rfl⟩)
      | (go_at_call 14; (with_reducible refine CP.out.mono ?_); rintro e w3 ⟨A3, cap3, rfl, hB3, hc3, hd3⟩
         have hb3 := hd1.trans (hd3.mono hd1.size)
         have CU := Kit.hid (HUA.out A3 cap3 w3 (Crc.tab_below hT hb3) hB3 hc3))
      | (go_at_call 10; (with_reducible refine CU.out.mono ?_); rintro e w4 ⟨A4, n4, cap4, ls4, rfl, hn4, hk4, hS4, hc4, h164, hd4⟩
         have hb4 := hb3.trans (hd4.mono hb3.size)))
    have HB4 := Kit.hid hb4
    clear hb4 hb3 hd4 hd3 hd1 hB3 hc3
    go_loopw [11, 12] (fun v11 v12 wr => ∃ i : Nat, i ≤ l.length ∧ v11 = .bool ((l.take i).any fun s => decide (s.kind = k)) ∧ v12 = .int .i64 i ∧ Hid (Below w4.heap.size w4 wr)) (fun _ i _ => l.length - (intOf i).toNat)
    case atStart => exact ⟨0, by omega, rfl, rfl, Kit.hid (Below.refl _ _)⟩
    case round =>
      obtain ⟨i, hi, rfl, rfl, hbw⟩ := hrel
      have hb5 := HB4.out.trans (hbw.out.mono HB4.out.size)
      by_cases hlt : i < l.length
      · obtain ⟨s, hss⟩ : ∃ s, s = l[i] := ⟨_, rfl⟩
        have hs5 := secs_below hs hb5
        obtain ⟨ad, hA, k0, k1, kb⟩ := sec_at hs5 hlt hss
        subst hA
        unfold SecM.body at k1
        have hmem : s ∈ l := by rw [hss]; exact List.getElem_mem hlt
        obtain ⟨F, fc, hfv, hfs, hfb⟩ := HBK.out A4 ls4 s hk4 hmem
        have CA := HFA.out A4 n4 cap4 ls4 s.kind wr hn4 h164 (secs_below hS4 hbw.out)
        rw [hfv, hfs] at CA
        have CA := Kit.hid CA
        have HFB := Kit.hid hfb
        have hsml := HSM.out s hmem
        have HTK : Hid ((l.take (i + 1)).any (fun s => decide (s.kind = k)) = ((l.take i).any (fun s => decide (s.kind = k)) || decide (s.kind = k))) := Kit.hid (by
          rw [List.take_succ_eq_append_getElem hlt, List.any_append, ← hss]; simp)
        obtain ⟨an, han⟩ : ∃ an, an = (l.take i).any (fun s => decide (s.kind = k)) := ⟨_, rfl⟩
        rw [← han] at HTK ⊢
        clear hfv hfs hfb hss hmem han
        go_wp2_with (first
          | (go_at_call 17; (with_reducible refine CA.out.mono ?_); rintro e w6 ⟨rfl, hd6⟩
             have hb46 := hbw.out.trans (hd6.mono hbw.out.size)
             have hb6 := HB4.out.trans (hb46.mono HB4.out.size)
             have hS6 := HFB.out _ (secs_below hS4 hb46)
             have CS := Le.same_big F s.b fc s.A s.b s.cap w6 hS6 (bytes_below kb hd6) (by omega) (by omega)
             rw [decide_eq_true (rfl : s.b = s.b)] at CS
             have CS := Kit.hid CS
             have k06 := (hd6.cell (cell_lt k0)).trans k0
             have k16 := (hd6.cell (cell_lt k1)).trans k1)
          | (go_at_call 15; (with_reducible refine CS.out.mono ?_); rintro e w7 ⟨rfl, n7, rfl⟩
             have hb7 := Kit.hid (below_drewN hb46 n7)))
        all_goals
          go_roundw
          case rel => exact ⟨i + 1, by omega, congrArg Value.bool (by rw [HTK.out]; first | exact any_one (by assumption) | exact any_two (by assumption)), by go_num, hb7⟩
          case measure => simp [intOf]; omega
      · obtain rfl : i = l.length := by omega
        rw [List.take_length]
        have CA := HFA.out A4 n4 cap4 ls4 k wr hn4 h164 (secs_below hS4 hbw.out)
        rw [HANY.out ls4 hk4] at CA
        obtain ⟨an, han⟩ : ∃ an, an = l.any (fun s => decide (s.kind = k)) := ⟨_, rfl⟩
        obtain ⟨fv, hfv⟩ : ∃ fv, fv = foundV ls4 k := ⟨_, rfl⟩
        rw [← han, ← hfv] at CA
        rw [← han]
        have CA := Kit.hid CA
        clear han hfv
        go_wp2_with (first
          | (go_at_call 17; (with_reducible refine CA.out.mono ?_); rintro e w6 ⟨rfl, hd6⟩
             have hb6 := Kit.hid (hb5.trans (hd6.mono hb5.size))))
        go_ret
        exact ⟨by simp, hb6.out⟩
  · obtain ⟨x, hx⟩ : ∃ x, x = wrongM l := ⟨_, rfl⟩
    have HPA : Hid (∀ w', Hid (Crc.Tab w') → Hid (Secs w' A l) → Calls Tryd.prog 14 #[.slice A l.length cap] w' fun e w'' => ∃ (A' : Option Addr) (cap' : Nat), e = .returned (.tuple #[.slice A' 0 cap', .int .i64 x]) ∧ Below w'.heap.size w' w'') := Kit.hid (fun w' h1 h2 => pack_fails A l cap x w' h1 h2 hl hx.symm (by rw [hx]; exact hw))
    have gx : (x != 0) = true := by simp only [bne_iff_ne]; rw [hx]; exact hw
    clear hf hf' hw hx
    go_enter Tryd.func8, Tryd.ntmps8
    go_wp2_with (first
      | (go_at_call 9; (with_reducible refine HAW.out.mono ?_); rintro e w1 ⟨rfl, hd1⟩
         have CF := Kit.hid (HFW.out w1 (secs_below hs hd1))
         have CP := Kit.hid (HPA.out w1 (Crc.tab_below hT hd1) (secs_below hs hd1)))
      | (go_at_call 13; (with_reducible refine CF.out.mono ?_); rintro e w2 ⟨rfl, rfl⟩)
      | (go_at_call 14; (with_reducible refine CP.out.mono ?_); rintro e w3 ⟨A3, cap3, rfl, hd3⟩
         have hb3 := Kit.hid (hd1.trans (hd3.mono hd1.size))))
    go_ret
    exact ⟨by first | rfl | simp, hb3.out⟩
end Go.Proofs.YtlmbghemlphoaaaDoor.Pa

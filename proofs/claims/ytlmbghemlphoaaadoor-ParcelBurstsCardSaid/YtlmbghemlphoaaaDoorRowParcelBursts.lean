/- The statement ParcelBursts, in whole: for every input the law returns true and leaves its arguments as they were. No condition beyond the row's own. -/
import Derived.Test.YtlmbghemlphoaaaDoorKit
import Derived.Test.YtlmbghemlphoaaaDoorPaBursts
import Derived.Test.YtlmbghemlphoaaaDoorDoor
import Derived.Test.YtlmbghemlphoaaaDoorCards
import Derived.Test.YtlmbghemlphoaaaDoorTie
namespace Go.Proofs.YtlmbghemlphoaaaDoor.rowParcelBursts
open Go.ChangeShapes Go.WideShapes Go.ChangeAt Go.RowKit Go.Joins Go.Deep Go.Proofs.YtlmbghemlphoaaaDoor Go.Proofs.YtlmbghemlphoaaaDoor.Kit Go.Proofs.YtlmbghemlphoaaaDoor.Pa
set_option linter.unusedVariables false
theorem own : ownKnob Tryd.prog.godebug = none := by kernel_rfl
theorem laidOut : laidOutB Tryd.prog = true := by kernel_rfl
theorem reads : Tryd.f5.params.toList.all (fun t => Tryd.prog.readableRec t && decide (t < Tryd.prog.types.size)) = true := by kernel_rfl
theorem door_met (os : Os) (args : Array Value) : laidMetH Tryd.prog Rows.parcelBurstsRow.laid ((World.doorLaid Tryd.prog 400 os).forCall (fun _ _ => 0) ⟨#[], args, []⟩).memory :=
  laidMetH_of_parts3 (fuel := 8) (laidMet_of_run' 8 (by kernel_rfl) (by kernel_rfl)) (by kernel_rfl) (by kernel_rfl)
set_option maxRecDepth 100000 in
theorem lifted (os : Os) (started : os.Started) (H : Type) (enc : TypeId × Value → H) :
    ReturnsInHanded {} Tryd.checked os 5 .any (fun w args => (Rows.parcelBurstsSpec.pre enc Tryd.prog Tryd.f5 Rows.parcelBurstsRow.domain false w args ∧ laidMetH Tryd.prog Rows.parcelBurstsRow.laid w) ∧ sizedMet enc Tryd.prog Tryd.f5 (OpenSpec.ofChange Rows.parcelBurstsSpec) false w args) (Rows.parcelBurstsSpec.post enc Tryd.prog Tryd.f5 false true false false) := by
  refine returnsInHanded_of_change_and (C := Tryd.checked) (X := fun w _ => laidMetH Tryd.prog Rows.parcelBurstsRow.laid w) (fun _ _ _ hh h => h.of_heap hh) own started (by kernel_rfl) Tryd.func5
    (ChangeSpec.witness_shaped (enc := enc) (C := Tryd.checked) (os := os) (X := fun w _ => laidMetH Tryd.prog Rows.parcelBurstsRow.laid w) false (World.doorLaid Tryd.prog 400 os) #[.slice none 0 0, .int .u16 0, .int .u32 0, .int .u16 0, .slice none 0 0] 8 rfl (World.shaped_of_RefB (by kernel_rfl) (by kernel_rfl)) (by kernel_rfl) (by kernel_rfl) (by kernel_rfl) (door_met os _)) ?_
  intro W base args ds gs before hval0 hW hcnd hsz0 hL _
  have hsz : (DataW.weightsEach Tryd.prog (Tryd.f5.params.toList ++ Rows.parcelBurstsSpec.plain.varTypes Tryd.prog) (ds ++ gs)).all (· ≤ reachBytes) = true := hsz0
  have hval : ∀ (j : Nat) t v, Tryd.f5.params[j]? = some t → args[j]? = some v → Value.okWide Tryd.prog W .any base t v := hval0
  have hW' := hW
  obtain ⟨p, q, hA0, hV, rfl, hfz, hnd⟩ := hW
  have hA : DataW.TrodAll enc Tryd.prog W 0 (fun _ => true) true Tryd.f5.params.toList args.toList ds p := hA0
  rw [Tryd.params5] at hA hval hsz
  obtain ⟨v0, vs0, d0, ds0, p0, q0, hargs, rfl, rfl, h0, r0⟩ := trodAll_cons hA
  obtain ⟨v1, vs1, d1, ds1, p1, q1, rfl, rfl, rfl, h1, r1⟩ := trodAll_cons r0
  obtain ⟨v2, vs2, d2, ds2, p2, q2, rfl, rfl, rfl, h2, r2⟩ := trodAll_cons r1
  obtain ⟨v3, vs3, d3, ds3, p3, q3, rfl, rfl, rfl, h3, r3⟩ := trodAll_cons r2
  obtain ⟨v4, vs4, d4, ds4, p4, q4, rfl, rfl, rfl, h4, r4⟩ := trodAll_cons r3
  obtain ⟨rfl, rfl, rfl⟩ := trodAll_nil r4
  obtain rfl : args = #[v0, v1, v2, v3, v4] := by cases args; simp_all
  obtain ⟨rfl, rfl⟩ := trodVars_none hV
  obtain ⟨a1, rfl, _, _, w1⟩ := open_int Tryd.underlying35 (hval 1 35 v1 rfl rfl) h1
  have hb1 := Go.bounds_u16 w1
  obtain ⟨a2, rfl, _, _, w2⟩ := open_int Tryd.underlying36 (hval 2 36 v2 rfl rfl) h2
  have hb2 := Go.bounds_u32 w2
  obtain ⟨a3, rfl, _, _, w3⟩ := open_int Tryd.underlying35 (hval 3 35 v3 rfl rfl) h3
  have hb3 := Go.bounds_u16 w3
  obtain ⟨A4, l4, cap4, rfl, HB4, hl4, hc4, hm4⟩ := open_bytes 4 Tryd.underlying22 Tryd.underlying5 (by kernel_rfl) (by kernel_rfl) hsz rfl rfl (hval 4 22 v4 rfl rfl) h4
  obtain ⟨A0, l0, cap0, rfl, HS0, hwf0, hc0, hm0⟩ := open_secs Tryd.underlying24 Tryd.underlying39 (by kernel_rfl) rfl rfl (by kernel_rfl) (by kernel_rfl) Tryd.underlying3 Tryd.underlying22 Tryd.underlying5 (by kernel_rfl) (hval 0 24 v0 rfl rfl) h0
  refine (burstsLaw_any A0 l0 cap0 a1 a2 a3 A4 l4 cap4 W (Door.tab_of hL) HS0 (Nat.le_trans hc0 hm0) hb1 hb2 hb3 HB4 (by omega) hc4).mono fun e W' ⟨he, bel⟩ => ⟨_, he, ?_⟩
  refine law_post laidOut reads rfl Tryd.underlying4 rfl (fun ds hds => ?_) hW' bel
  match ds, hds with
  | [y0, y1, y2, y3, y4], _ => rfl
theorem over : Rows.parcelBurstsRow.holds Tryd.pinned (OpenSpec.ofChange Rows.parcelBurstsSpec) :=
  OpenClaim.holds_of_wide 5 Tryd.f5 rfl rfl rfl rfl rfl rfl rfl ⟨rfl, rfl, rfl, rfl, rfl⟩ rfl rfl rfl rfl rfl (by kernel_rfl) Tryd.func5 (by kernel_rfl)
    (of_decide_eq_true (by kernel_rfl)) (by unfold Func.isWrapper; first | (rw [if_pos (by decide +kernel)]; kernel_rfl) | (rw [if_neg (by decide +kernel)]; exact ⟨rfl, rfl⟩))
    (fun os started H enc _ => lifted os started H enc)
theorem params : Tryd.f5.params = #[24, 35, 36, 35, 22] := by kernel_rfl
theorem card_over : Rows.ParcelBurstsCardSaid :=
  Claim7.holds_tied_plain_at .later [] Rows.parcelBurstsCard.laidKinds true Rows.parcelBurstsCard.stood.harness false
    over (fun _ h => by cases h) (by kernel_rfl) (fun _ h => by cases h) parcelBursts_row_tie rfl ⟨rfl, rfl⟩ (by kernel_rfl) rfl
    (fun f fn hf hfn => by
      obtain rfl : f = 5 := Option.some.inj ((show Tryd.prog.funcNamed "diapause/diapauselaw10.ParcelBursts" = some 5 by kernel_rfl).symm.trans hf) |>.symm
      obtain rfl : fn = Tryd.f5 := (Option.some.inj (Tryd.func5.symm.trans hfn)).symm
      exact ⟨by kernel_rfl, fun j t ht => by
        have hall : (Tryd.f5.params.toList.all fun u => !Tryd.prog.wantsStandIn u) = true := by kernel_rfl
        have hm : t ∈ Tryd.f5.params.toList := by simpa using Array.mem_of_getElem? ht
        exact (show Tryd.prog.wantsStandIn t = false by simpa using List.all_eq_true.1 hall t hm)⟩)
    (by kernel_rfl)
end Go.Proofs.YtlmbghemlphoaaaDoor.rowParcelBursts
namespace Go.Proofs.YtlmbghemlphoaaaDoor
/-- The row, under a short name, for the claim. -/
theorem parcelBursts_holds : Rows.ParcelBurstsCardSaid := rowParcelBursts.card_over
end Go.Proofs.YtlmbghemlphoaaaDoor
#print axioms Go.Proofs.YtlmbghemlphoaaaDoor.parcelBursts_holds

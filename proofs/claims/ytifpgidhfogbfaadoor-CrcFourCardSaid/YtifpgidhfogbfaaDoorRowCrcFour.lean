/- The statement CrcFour, in whole: for every input the law returns true and leaves its arguments as they were. No condition beyond the row's own. -/
import Derived.Test.YtifpgidhfogbfaaDoorKit
import Derived.Test.YtifpgidhfogbfaaDoorCrcFour
import Derived.Test.YtifpgidhfogbfaaDoorDoor
import Derived.Test.YtifpgidhfogbfaaDoorCards
import Derived.Test.YtifpgidhfogbfaaDoorTie
namespace Go.Proofs.YtifpgidhfogbfaaDoor.rowCrcFour
open Go.ChangeShapes Go.WideShapes Go.ChangeAt Go.RowKit Go.Joins Go.Deep Go.Proofs.YtifpgidhfogbfaaDoor Go.Proofs.YtifpgidhfogbfaaDoor.Kit Go.Proofs.YtifpgidhfogbfaaDoor.Crc
set_option linter.unusedVariables false
theorem own : ownKnob Tryd.prog.godebug = none := by kernel_rfl
theorem laidOut : laidOutB Tryd.prog = true := by kernel_rfl
theorem reads : Tryd.f6.params.toList.all (fun t => Tryd.prog.readableRec t && decide (t < Tryd.prog.types.size)) = true := by kernel_rfl
theorem door_met (os : Os) (args : Array Value) : laidMetH Tryd.prog Rows.crcFourRow.laid ((World.doorLaid Tryd.prog 400 os).forCall (fun _ _ => 0) ⟨#[], args, []⟩).memory :=
  laidMetH_of_parts3 (fuel := 8) (laidMet_of_run' 8 (by kernel_rfl) (by kernel_rfl)) (by kernel_rfl) (by kernel_rfl)
set_option maxRecDepth 100000 in
theorem lifted (os : Os) (started : os.Started) (H : Type) (enc : TypeId × Value → H) :
    ReturnsInHanded {} Tryd.checked os 6 .any (fun w args => (Rows.crcFourSpec.pre enc Tryd.prog Tryd.f6 Rows.crcFourRow.domain false w args ∧ laidMetH Tryd.prog Rows.crcFourRow.laid w) ∧ sizedMet enc Tryd.prog Tryd.f6 (OpenSpec.ofChange Rows.crcFourSpec) false w args) (Rows.crcFourSpec.post enc Tryd.prog Tryd.f6 false true false false) := by
  refine returnsInHanded_of_change_and (C := Tryd.checked) (X := fun w _ => laidMetH Tryd.prog Rows.crcFourRow.laid w) (fun _ _ _ hh h => h.of_heap hh) own started (by kernel_rfl) Tryd.func6
    (ChangeSpec.witness_shaped (enc := enc) (C := Tryd.checked) (os := os) (X := fun w _ => laidMetH Tryd.prog Rows.crcFourRow.laid w) false (World.doorLaid Tryd.prog 400 os) #[.slice none 0 0, .agg #[.int .u8 0, .int .u8 0, .int .u8 0, .int .u8 0], .agg #[.int .u8 0, .int .u8 0, .int .u8 0, .int .u8 0], .slice none 0 0] 8 rfl (World.shaped_of_RefB (by kernel_rfl) (by kernel_rfl)) (by kernel_rfl) (by kernel_rfl) (by kernel_rfl) (door_met os _)) ?_
  intro W base args ds gs before hval0 hW hcnd hsz0 hL _
  have hsz : (DataW.weightsEach Tryd.prog (Tryd.f6.params.toList ++ Rows.crcFourSpec.plain.varTypes Tryd.prog) (ds ++ gs)).all (· ≤ reachBytes) = true := hsz0
  have hval : ∀ (j : Nat) t v, Tryd.f6.params[j]? = some t → args[j]? = some v → Value.okWide Tryd.prog W .any base t v := hval0
  have hW' := hW
  obtain ⟨p, q, hA0, hV, rfl, hfz, hnd⟩ := hW
  have hA : DataW.TrodAll enc Tryd.prog W 0 (fun _ => true) true Tryd.f6.params.toList args.toList ds p := hA0
  rw [Tryd.params6] at hA hval hsz
  obtain ⟨v0, vs0, d0, ds0, p0, q0, hargs, rfl, rfl, h0, r0⟩ := trodAll_cons hA
  obtain ⟨v1, vs1, d1, ds1, p1, q1, rfl, rfl, rfl, h1, r1⟩ := trodAll_cons r0
  obtain ⟨v2, vs2, d2, ds2, p2, q2, rfl, rfl, rfl, h2, r2⟩ := trodAll_cons r1
  obtain ⟨v3, vs3, d3, ds3, p3, q3, rfl, rfl, rfl, h3, r3⟩ := trodAll_cons r2
  obtain ⟨rfl, rfl, rfl⟩ := trodAll_nil r3
  obtain rfl : args = #[v0, v1, v2, v3] := by cases args; simp_all
  obtain ⟨rfl, rfl⟩ := trodVars_none hV
  obtain ⟨A0, l0, cap0, rfl, HB0, hl0, hc0, hm0⟩ := open_bytes 0 Tryd.underlying22 Tryd.underlying5 (by kernel_rfl) (by kernel_rfl) hsz rfl rfl (hval 0 22 v0 rfl rfl) h0
  obtain ⟨A3, l3, cap3, rfl, HB3, hl3, hc3, hm3⟩ := open_bytes 3 Tryd.underlying22 Tryd.underlying5 (by kernel_rfl) (by kernel_rfl) hsz rfl rfl (hval 3 22 v3 rfl rfl) h3
  obtain ⟨x0, x1, x2, x3, rfl⟩ := open_bytes4 Tryd.underlying31 Tryd.underlying5 (by kernel_rfl) (by kernel_rfl) (hval 1 31 v1 rfl rfl) h1
  obtain ⟨z0, z1, z2, z3, rfl⟩ := open_bytes4 Tryd.underlying31 Tryd.underlying5 (by kernel_rfl) (by kernel_rfl) (hval 2 31 v2 rfl rfl) h2
  refine (fourLaw_any A0 l0 cap0 x0 x1 x2 x3 z0 z1 z2 z3 A3 l3 cap3 W (Door.tab_of hL) HB0 HB3).mono fun e W' ⟨he, bel⟩ => ⟨_, he, ?_⟩
  refine law_post laidOut reads rfl Tryd.underlying4 rfl (fun ds hds => ?_) hW' bel
  match ds, hds with
  | [y0, y1, y2, y3], _ => rfl
theorem over : Rows.crcFourRow.holds Tryd.pinned (OpenSpec.ofChange Rows.crcFourSpec) :=
  OpenClaim.holds_of_wide 6 Tryd.f6 rfl rfl rfl rfl rfl rfl rfl ⟨rfl, rfl, rfl, rfl, rfl⟩ rfl rfl rfl rfl rfl (by kernel_rfl) Tryd.func6 (by kernel_rfl)
    (of_decide_eq_true (by kernel_rfl)) (by unfold Func.isWrapper; first | (rw [if_pos (by decide +kernel)]; kernel_rfl) | (rw [if_neg (by decide +kernel)]; exact ⟨rfl, rfl⟩))
    (fun os started H enc _ => lifted os started H enc)
theorem params : Tryd.f6.params = #[22, 31, 31, 22] := by kernel_rfl
theorem card_over : Rows.CrcFourCardSaid :=
  Claim7.holds_tied_plain_at .later [] Rows.crcFourCard.laidKinds true Rows.crcFourCard.stood.harness false
    over (fun _ h => by cases h) (by kernel_rfl) (fun _ h => by cases h) crcFour_row_tie rfl ⟨rfl, rfl⟩ (by kernel_rfl) rfl
    (fun f fn hf hfn => by
      obtain rfl : f = 6 := Option.some.inj ((show Tryd.prog.funcNamed "diapause/diapauselaw02.CrcFour" = some 6 by kernel_rfl).symm.trans hf) |>.symm
      obtain rfl : fn = Tryd.f6 := (Option.some.inj (Tryd.func6.symm.trans hfn)).symm
      exact ⟨by kernel_rfl, fun j t ht => by
        have hall : (Tryd.f6.params.toList.all fun u => !Tryd.prog.wantsStandIn u) = true := by kernel_rfl
        have hm : t ∈ Tryd.f6.params.toList := by simpa using Array.mem_of_getElem? ht
        exact (show Tryd.prog.wantsStandIn t = false by simpa using List.all_eq_true.1 hall t hm)⟩)
    (by kernel_rfl)
end Go.Proofs.YtifpgidhfogbfaaDoor.rowCrcFour
namespace Go.Proofs.YtifpgidhfogbfaaDoor
/-- The row, under a short name, for the claim. -/
theorem crcFour_holds : Rows.CrcFourCardSaid := rowCrcFour.card_over
end Go.Proofs.YtifpgidhfogbfaaDoor
#print axioms Go.Proofs.YtifpgidhfogbfaaDoor.crcFour_holds

/- The statement QueueMean, in whole: for every input the law returns true and leaves its arguments as they were. No condition beyond the row's own. -/
import Derived.Test.YtggcbeoinmnopaaKit
import Derived.Test.YtggcbeoinmnopaaQuMeans
namespace Go.Proofs.Ytggcbeoinmnopaa.rowQueueMean
open Go.ChangeShapes Go.WideShapes Go.ChangeAt Go.RowKit Go.Joins Go.Deep Go.Proofs.Ytggcbeoinmnopaa Go.Proofs.Ytggcbeoinmnopaa.Kit Go.Proofs.Ytggcbeoinmnopaa.Qu
set_option linter.unusedVariables false
theorem own : ownKnob Try.prog.godebug = none := by kernel_rfl
theorem laidOut : laidOutB Try.prog = true := by kernel_rfl
theorem reads : Try.f9.params.toList.all (fun t => Try.prog.readableRec t && decide (t < Try.prog.types.size)) = true := by kernel_rfl
set_option maxRecDepth 100000 in
theorem lifted (os : Os) (started : os.Started) (H : Type) (enc : TypeId × Value → H) :
    ReturnsInHanded {} Try.checked os 9 .any (Rows.queueMeanSpec.pre6 enc Try.prog Try.f9 Rows.queueMeanRow.domain false) (Rows.queueMeanSpec.post enc Try.prog Try.f9 false true false false) := by
  refine returnsInHanded_of_change_sized (C := Try.checked) own started (by kernel_rfl) Try.func9
    (ChangeSpec.witness6 (enc := enc) (C := Try.checked) false ⟨#[], #[.slice none 0 0], []⟩ 8 (by kernel_rfl) (by kernel_rfl) (by kernel_rfl) (by kernel_rfl)) ?_
  intro W base args ds gs before hval0 hW hcnd hsz0 _
  have hsz : (DataW.weightsEach Try.prog (Try.f9.params.toList ++ Rows.queueMeanSpec.plain.varTypes Try.prog) (ds ++ gs)).all (· ≤ reachBytes) = true := hsz0
  have hval : ∀ (j : Nat) t v, Try.f9.params[j]? = some t → args[j]? = some v → Value.okWide Try.prog W .any base t v := hval0
  have hW' := hW
  obtain ⟨p, q, hA0, hV, rfl, hfz, hnd⟩ := hW
  have hA : DataW.TrodAll enc Try.prog W 0 (fun _ => true) true Try.f9.params.toList args.toList ds p := hA0
  rw [Try.params9] at hA hval hsz
  obtain ⟨v0, vs0, d0, ds0, p0, q0, hargs, rfl, rfl, h0, r0⟩ := trodAll_cons hA
  obtain ⟨rfl, rfl, rfl⟩ := trodAll_nil r0
  obtain rfl : args = #[v0] := by cases args; simp_all
  obtain ⟨rfl, rfl⟩ := trodVars_none hV
  obtain ⟨A0, l0, cap0, rfl, HO0, hc0, hm0⟩ := open_qops Try.underlying41 Try.underlying43 (by kernel_rfl) rfl rfl rfl (by kernel_rfl) (by kernel_rfl) (by kernel_rfl) Try.underlying3 Try.underlying3 Try.underlying32 rfl rfl rfl (by kernel_rfl) (by kernel_rfl) (by kernel_rfl) Try.underlying3 Try.underlying3 Try.underlying30 rfl rfl (by kernel_rfl) (by kernel_rfl) Try.underlying3 Try.underlying3 (hval 0 41 v0 rfl rfl) h0
  refine (meanLaw_any A0 l0 cap0 W HO0 (Nat.le_trans hc0 hm0)).mono fun e W' ⟨he, bel⟩ => ⟨_, he, ?_⟩
  refine law_post laidOut reads rfl Try.underlying4 rfl (fun ds hds => ?_) hW' bel
  match ds, hds with
  | [y0], _ => rfl
theorem over : Rows.queueMeanRow.holds Try.pinned (OpenSpec.ofChange Rows.queueMeanSpec) :=
  OpenClaim.holds_of_wide 9 Try.f9 rfl rfl rfl rfl rfl rfl rfl ⟨rfl, rfl, rfl, rfl, rfl⟩ rfl rfl rfl rfl rfl (by kernel_rfl) Try.func9 (by kernel_rfl)
    (of_decide_eq_true (by kernel_rfl)) (by unfold Func.isWrapper; first | (rw [if_pos (by decide +kernel)]; kernel_rfl) | (rw [if_neg (by decide +kernel)]; exact ⟨rfl, rfl⟩))
    (fun os started H enc _ => lifted os started H enc)
end Go.Proofs.Ytggcbeoinmnopaa.rowQueueMean
namespace Go.Proofs.Ytggcbeoinmnopaa
/-- The row, under a short name, for the claim. -/
theorem queueMean_holds : Rows.QueueMeanSaid := rowQueueMean.over
end Go.Proofs.Ytggcbeoinmnopaa
#print axioms Go.Proofs.Ytggcbeoinmnopaa.queueMean_holds

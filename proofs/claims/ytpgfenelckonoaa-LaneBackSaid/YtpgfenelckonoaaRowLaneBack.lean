/- The statement LaneBack, in whole: for every input the law returns true and leaves its arguments as they were. No condition beyond the row's own. -/
import Derived.Test.YtpgfenelckonoaaKit
import Derived.Test.YtpgfenelckonoaaLxBack
namespace Go.Proofs.Ytpgfenelckonoaa.rowLaneBack
open Go.ChangeShapes Go.WideShapes Go.ChangeAt Go.RowKit Go.Joins Go.Deep Go.Proofs.Ytpgfenelckonoaa Go.Proofs.Ytpgfenelckonoaa.Kit Go.Proofs.Ytpgfenelckonoaa.La
set_option linter.unusedVariables false
theorem own : ownKnob Try.prog.godebug = none := by kernel_rfl
theorem laidOut : laidOutB Try.prog = true := by kernel_rfl
theorem reads : Try.f7.params.toList.all (fun t => Try.prog.readableRec t && decide (t < Try.prog.types.size)) = true := by kernel_rfl
set_option maxRecDepth 100000 in
theorem lifted (os : Os) (started : os.Started) (H : Type) (enc : TypeId × Value → H) :
    ReturnsInHanded {} Try.checked os 7 .any (Rows.laneBackSpec.pre6 enc Try.prog Try.f7 Rows.laneBackRow.domain false) (Rows.laneBackSpec.post enc Try.prog Try.f7 false true false false) := by
  refine returnsInHanded_of_change_sized (C := Try.checked) own started (by kernel_rfl) Try.func7
    (ChangeSpec.witness6 (enc := enc) (C := Try.checked) false ⟨#[], #[.slice none 0 0, .int .u8 0], []⟩ 8 (by kernel_rfl) (by kernel_rfl) (by kernel_rfl) (by kernel_rfl)) ?_
  intro W base args ds gs before hval0 hW hcnd hsz0 _
  have hsz : (DataW.weightsEach Try.prog (Try.f7.params.toList ++ Rows.laneBackSpec.plain.varTypes Try.prog) (ds ++ gs)).all (· ≤ reachBytes) = true := hsz0
  have hval : ∀ (j : Nat) t v, Try.f7.params[j]? = some t → args[j]? = some v → Value.okWide Try.prog W .any base t v := hval0
  have hW' := hW
  obtain ⟨p, q, hA0, hV, rfl, hfz, hnd⟩ := hW
  have hA : DataW.TrodAll enc Try.prog W 0 (fun _ => true) true Try.f7.params.toList args.toList ds p := hA0
  rw [Try.params7] at hA hval hsz
  obtain ⟨v0, vs0, d0, ds0, p0, q0, hargs, rfl, rfl, h0, r0⟩ := trodAll_cons hA
  obtain ⟨v1, vs1, d1, ds1, p1, q1, rfl, rfl, rfl, h1, r1⟩ := trodAll_cons r0
  obtain ⟨rfl, rfl, rfl⟩ := trodAll_nil r1
  obtain rfl : args = #[v0, v1] := by cases args; simp_all
  obtain ⟨rfl, rfl⟩ := trodVars_none hV
  obtain ⟨a1, rfl, _, _, w1⟩ := open_int Try.underlying5 (hval 1 5 v1 rfl rfl) h1
  have hb1 := Go.bounds_u8 w1
  obtain ⟨A0, l0, cap0, rfl, HO0, hc0, hm0⟩ := open_lops (hval 0 45 v0 rfl rfl) h0
  refine (backLaw_any A0 l0 cap0 a1 W HO0 (Nat.le_trans hc0 hm0) hb1.1 hb1.2).mono fun e W' ⟨he, bel⟩ => ⟨_, he, ?_⟩
  refine law_post laidOut reads rfl Try.underlying4 rfl (fun ds hds => ?_) hW' bel
  match ds, hds with
  | [y0, y1], _ => rfl
theorem over : Rows.laneBackRow.holds Try.pinned (OpenSpec.ofChange Rows.laneBackSpec) :=
  OpenClaim.holds_of_wide 7 Try.f7 rfl rfl rfl rfl rfl rfl rfl ⟨rfl, rfl, rfl, rfl, rfl⟩ rfl rfl rfl rfl rfl (by kernel_rfl) Try.func7 (by kernel_rfl)
    (of_decide_eq_true (by kernel_rfl)) (by unfold Func.isWrapper; first | (rw [if_pos (by decide +kernel)]; kernel_rfl) | (rw [if_neg (by decide +kernel)]; exact ⟨rfl, rfl⟩))
    (fun os started H enc _ => lifted os started H enc)
end Go.Proofs.Ytpgfenelckonoaa.rowLaneBack
namespace Go.Proofs.Ytpgfenelckonoaa
/-- The row, under a short name, for the claim. -/
theorem laneBack_holds : Rows.LaneBackSaid := rowLaneBack.over
end Go.Proofs.Ytpgfenelckonoaa
#print axioms Go.Proofs.Ytpgfenelckonoaa.laneBack_holds

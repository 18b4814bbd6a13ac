/- The statement LeTakes, in whole: for every input the law returns true and leaves its arguments as they were. No condition beyond the row's own. -/
import Derived.Test.YtpgfjiglkmpnaaaKit
import Derived.Test.YtpgfjiglkmpnaaaLeTakes
namespace Go.Proofs.Ytpgfjiglkmpnaaa.rowLeTakes
open Go.ChangeShapes Go.WideShapes Go.ChangeAt Go.RowKit Go.Joins Go.Deep Go.Proofs.Ytpgfjiglkmpnaaa Go.Proofs.Ytpgfjiglkmpnaaa.Kit Go.Proofs.Ytpgfjiglkmpnaaa.Le
set_option linter.unusedVariables false
theorem own : ownKnob Try.prog.godebug = none := by kernel_rfl
theorem laidOut : laidOutB Try.prog = true := by kernel_rfl
theorem reads : Try.f7.params.toList.all (fun t => Try.prog.readableRec t && decide (t < Try.prog.types.size)) = true := by kernel_rfl
set_option maxRecDepth 100000 in
theorem lifted (os : Os) (started : os.Started) (H : Type) (enc : TypeId × Value → H) :
    ReturnsInHanded {} Try.checked os 7 .any (Rows.leTakesSpec.pre6 enc Try.prog Try.f7 Rows.leTakesRow.domain false) (Rows.leTakesSpec.post enc Try.prog Try.f7 false true false false) := by
  refine returnsInHanded_of_change_sized (C := Try.checked) own started (by kernel_rfl) Try.func7
    (ChangeSpec.witness6 (enc := enc) (C := Try.checked) false ⟨#[], #[.slice none 0 0, .slice none 0 0, .slice none 0 0], []⟩ 8 (by kernel_rfl) (by kernel_rfl) (by kernel_rfl) (by kernel_rfl)) ?_
  intro W base args ds gs before hval0 hW hcnd hsz0 _
  have hsz : (DataW.weightsEach Try.prog (Try.f7.params.toList ++ Rows.leTakesSpec.plain.varTypes Try.prog) (ds ++ gs)).all (· ≤ reachBytes) = true := hsz0
  have hval : ∀ (j : Nat) t v, Try.f7.params[j]? = some t → args[j]? = some v → Value.okWide Try.prog W .any base t v := hval0
  have hW' := hW
  obtain ⟨p, q, hA0, hV, rfl, hfz, hnd⟩ := hW
  have hA : DataW.TrodAll enc Try.prog W 0 (fun _ => true) true Try.f7.params.toList args.toList ds p := hA0
  rw [Try.params7] at hA hval hsz
  obtain ⟨v0, vs0, d0, ds0, p0, q0, hargs, rfl, rfl, h0, r0⟩ := trodAll_cons hA
  obtain ⟨v1, vs1, d1, ds1, p1, q1, rfl, rfl, rfl, h1, r1⟩ := trodAll_cons r0
  obtain ⟨v2, vs2, d2, ds2, p2, q2, rfl, rfl, rfl, h2, r2⟩ := trodAll_cons r1
  obtain ⟨rfl, rfl, rfl⟩ := trodAll_nil r2
  obtain rfl : args = #[v0, v1, v2] := by cases args; simp_all
  obtain ⟨rfl, rfl⟩ := trodVars_none hV
  obtain ⟨A0, l0, cap0, rfl, HB0, hl0, hc0, hm0⟩ := open_bytes 0 Try.underlying22 Try.underlying5 (by kernel_rfl) (by kernel_rfl) hsz rfl rfl (hval 0 22 v0 rfl rfl) h0
  obtain ⟨A1, l1, cap1, rfl, HI1, hw1, hc1, hm1, hl1⟩ := open_row (B := 8) 1 Try.underlying39 Try.underlying3 (by kernel_rfl) (by kernel_rfl) hsz rfl rfl (hval 1 39 v1 rfl rfl) h1
  obtain ⟨A2, l2, cap2, rfl, HB2, hc2, hm2⟩ := open_bools_row Try.underlying40 Try.underlying4 (by kernel_rfl) (hval 2 40 v2 rfl rfl) h2
  refine (takesLaw_any A0 l0 cap0 A1 l1 cap1 A2 l2 cap2 W HB0 HI1 HB2 hc0 (Nat.le_trans hc2 hm2) (fun ad h => by subst h; exact slice_in Try.underlying22 (hval 0 22 _ rfl rfl))).mono fun e W' ⟨he, bel⟩ => ⟨_, he, ?_⟩
  refine law_post laidOut reads rfl Try.underlying4 rfl (fun ds hds => ?_) hW' bel
  match ds, hds with
  | [y0, y1, y2], _ => rfl
theorem over : Rows.leTakesRow.holds Try.pinned (OpenSpec.ofChange Rows.leTakesSpec) :=
  OpenClaim.holds_of_wide 7 Try.f7 rfl rfl rfl rfl rfl rfl rfl ⟨rfl, rfl, rfl, rfl, rfl⟩ rfl rfl rfl rfl rfl (by kernel_rfl) Try.func7 (by kernel_rfl)
    (of_decide_eq_true (by kernel_rfl)) (by unfold Func.isWrapper; first | (rw [if_pos (by decide +kernel)]; kernel_rfl) | (rw [if_neg (by decide +kernel)]; exact ⟨rfl, rfl⟩))
    (fun os started H enc _ => lifted os started H enc)
end Go.Proofs.Ytpgfjiglkmpnaaa.rowLeTakes
namespace Go.Proofs.Ytpgfjiglkmpnaaa
/-- The row, under a short name, for the claim. -/
theorem leTakes_holds : Rows.LeTakesSaid := rowLeTakes.over
end Go.Proofs.Ytpgfjiglkmpnaaa
#print axioms Go.Proofs.Ytpgfjiglkmpnaaa.leTakes_holds

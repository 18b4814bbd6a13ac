/- The statement PaceOrder, in whole: for every input the law returns true and leaves its arguments as they were. No condition beyond the row's own. -/
import Derived.Test.YthbnmdehcinikaaKit
import Derived.Test.YthbnmdehcinikaaPurePaceOrder
namespace Go.Proofs.Ythbnmdehcinikaa.rowPaceOrder
open Go.ChangeShapes Go.WideShapes Go.ChangeAt Go.RowKit Go.Joins Go.Proofs.Ythbnmdehcinikaa.Kit 
set_option linter.unusedVariables false
theorem own : ownKnob Try.prog.godebug = none := by kernel_rfl
theorem laid : laidOutB Try.prog = true := by kernel_rfl
theorem reads : Try.f8.params.toList.all (fun t => Try.prog.readableRec t && decide (t < Try.prog.types.size)) = true := by kernel_rfl
set_option maxRecDepth 100000 in
theorem lifted (os : Os) (started : os.Started) (H : Type) (enc : TypeId × Value → H) :
    ReturnsInHanded {} Try.checked os 8 .any (Rows.paceOrderSpec.pre6 enc Try.prog Try.f8 Rows.paceOrderRow.domain false) (Rows.paceOrderSpec.post enc Try.prog Try.f8 false true false false) := by
  refine returnsInHanded_of_change_sized (C := Try.checked) own started (by kernel_rfl) Try.func8
    (ChangeSpec.witness6 (enc := enc) (C := Try.checked) false ⟨#[], #[.agg #[.int .i64 0, .int .i64 0], .agg #[.int .i64 0, .int .i64 0], .agg #[.int .i64 0, .int .i64 0]], []⟩ 8 (by kernel_rfl) (by kernel_rfl) (by kernel_rfl) (by kernel_rfl)) ?_
  intro W base args ds gs before hval0 hW hcnd hsz0 _
  have hsz : (DataW.weightsEach Try.prog (Try.f8.params.toList ++ Rows.paceOrderSpec.plain.varTypes Try.prog) (ds ++ gs)).all (· ≤ reachBytes) = true := hsz0
  have hval : ∀ (j : Nat) t v, Try.f8.params[j]? = some t → args[j]? = some v → Value.okWide Try.prog W .any base t v := hval0
  have hW' := hW
  obtain ⟨p, q, hA0, hV, rfl, hfz, hnd⟩ := hW
  have hA : DataW.TrodAll enc Try.prog W 0 (fun _ => true) true Try.f8.params.toList args.toList ds p := hA0
  rw [Try.params8] at hA hval hsz
  obtain ⟨v0, vs0, d0, ds0, p0, q0, hargs, rfl, rfl, h0, r0⟩ := trodAll_cons hA
  obtain ⟨v1, vs1, d1, ds1, p1, q1, rfl, rfl, rfl, h1, r1⟩ := trodAll_cons r0
  obtain ⟨v2, vs2, d2, ds2, p2, q2, rfl, rfl, rfl, h2, r2⟩ := trodAll_cons r1
  obtain ⟨rfl, rfl, rfl⟩ := trodAll_nil r2
  obtain rfl : args = #[v0, v1, v2] := by cases args; simp_all
  obtain ⟨rfl, rfl⟩ := trodVars_none hV
  obtain ⟨a0, b0, rfl, wa0, wb0⟩ := open_pair Try.underlying39 (by kernel_rfl) (by kernel_rfl) Try.underlying3 Try.underlying3 (hval 0 39 v0 rfl rfl) h0
  obtain ⟨a1, b1, rfl, wa1, wb1⟩ := open_pair Try.underlying39 (by kernel_rfl) (by kernel_rfl) Try.underlying3 Try.underlying3 (hval 1 39 v1 rfl rfl) h1
  obtain ⟨a2, b2, rfl, wa2, wb2⟩ := open_pair Try.underlying39 (by kernel_rfl) (by kernel_rfl) Try.underlying3 Try.underlying3 (hval 2 39 v2 rfl rfl) h2
  obtain ⟨k, hk⟩ := Pure.PaceOrder a0 b0 a1 b1 a2 b2
  refine (PPaceOrder.diapauselaw04_PaceOrder.calls k a0 b0 a1 b1 a2 b2 true W hk).mono fun e W' ⟨he, bel⟩ => ⟨_, he, ?_⟩
  refine law_post laid reads rfl Try.underlying4 rfl (fun ds hds => ?_) hW' bel
  match ds, hds with
  | [x0, x1, x2], _ => rfl
theorem over : Rows.paceOrderRow.holds Try.pinned (OpenSpec.ofChange Rows.paceOrderSpec) :=
  OpenClaim.holds_of_wide 8 Try.f8 rfl rfl rfl rfl rfl rfl rfl ⟨rfl, rfl, rfl, rfl, rfl⟩ rfl rfl rfl rfl rfl (by kernel_rfl) Try.func8 (by kernel_rfl)
    (of_decide_eq_true (by kernel_rfl)) (by unfold Func.isWrapper; first | (rw [if_pos (by decide +kernel)]; kernel_rfl) | (rw [if_neg (by decide +kernel)]; exact ⟨rfl, rfl⟩))
    (fun os started H enc _ => lifted os started H enc)
end Go.Proofs.Ythbnmdehcinikaa.rowPaceOrder
namespace Go.Proofs.Ythbnmdehcinikaa
/-- The row, under a short name, for the claim. -/
theorem paceOrder_holds : Rows.PaceOrderSaid := rowPaceOrder.over
end Go.Proofs.Ythbnmdehcinikaa
#print axioms Go.Proofs.Ythbnmdehcinikaa.paceOrder_holds

/- A region that draws its order, in a round of a range over a function: walked by the plain laws ('wpAnyH'), where it makes plain calls alone. -/
import Derived.Test.YtpgfenelckonoaaShT
import Derived.OrdersIn
import Derived.OwnWalkIn
import Derived.Deep.RegionHeld
namespace Go.Proofs.Ytpgfenelckonoaa.Seq
set_option linter.unusedVariables false
set_option linter.unusedSimpArgs false
theorem wpOp_toIn {l n : Nat} {P : Program} {ops : Array Oper} {Q : Exit → Act → World → Prop} {i : Nat} {K : Act → World → Prop} {a : Act} {w : World} (hnd : ∀ o : Oper, ops[i]? = some o → ∀ c, o.op ≠ .defer c) (hno : ¬ LetsOut Q) (h : wpOp P ops Q i K a w) :
    wpOpIn (Fence.wide.inRound l) n P ops Q i K a w := by
  unfold wpOp at h
  unfold wpOpIn
  cases ho : ops[i]? with
  | none => simpa only [ho] using h
  | some o =>
    simp only [ho] at h ⊢
    split
    · rename_i hw
      simp only [hw, if_true] at h
      rcases h with h | ⟨_, h⟩
      · unfold Oper.wpIn
        refine ⟨fun f _ => trivial, ?_⟩
        rw [Oper.semAt_plain _ _ _ (hnd o ho)]
        unfold Oper.wp at h
        generalize (execOp a.eval o).run P w = r at *
        cases r with
        | ok x w' =>
          cases x <;> simp only [Oper.upon, Oper.uponIn] at h ⊢ <;>
            first
              | exact h
              | exact ⟨fun h => (by cases h), CallsIn.inRound l (callsIn_wide.2 h)⟩
              | exact ⟨fun h => (by cases h), fun c cs _ => let ⟨v, w', r, s⟩ := h c cs; ⟨v, w', r, stepsIn_wide.2 s⟩⟩
        | halt x w' => cases x <;> simp only [Oper.upon, Oper.uponIn] at h ⊢ <;> exact h
      · exact absurd h hno
    · rename_i hw
      simp only [hw] at h
      exact ⟨fun f _ => trivial, h⟩
theorem wpAny_toIn {l n : Nat} {P : Program} {ops : Array Oper} {md : Region.Mode} {Q : Exit → Act → World → Prop} (hnd : ∀ (i : Nat) (o : Oper), ops[i]? = some o → ∀ c, o.op ≠ .defer c) (hno : ¬ LetsOut Q) : ∀ (fuel : Nat) (listed : Array Bool) (a : Act) (w : World),
    wpAny P md ops Q fuel listed a w → wpAnyIn (Fence.wide.inRound l) n P md ops Q fuel listed a w
  | 0, _, _, _, h => h
  | fuel + 1, _, _, _, h => ⟨h.1, fun i hi => wpOp_toIn (hnd i) hno (wpOp_mono (fun a' w' h' => wpAny_toIn hnd hno fuel _ a' w' h') (h.2 i hi))⟩
/-- The beginning: S is shown of the world behind the draw, once, and handed on. -/
theorem wpIn_region_held {l n : Nat} {P : Program} {ops : Array Oper} {S : World → Prop} {Q : Exit → Act → World → Prop} {id : Nat} {a : Act} {w : World} (hm : P.follows .mixedOrders = true) (hnd : ∀ o : Oper, o ∈ ops.toList → ∀ c, o.op ≠ .defer c) (hS : S w.drew)
    (h : S w.drew → wpAnyH P .any ops (fun e a w => match e with | .normal => Q .normal a w | _ => False) S ops.size (Array.replicate ops.size false) a w.drew) : (Code.region id ops true).wpIn (Fence.wide.inRound l) n P Q a w :=
  noPanicIn (wpIn_region_any hm (wpAny_toIn (fun i o ho => hnd o (by
    have := List.mem_of_getElem? (l := ops.toList) (i := i) (a := o) (by rw [Array.getElem?_toList]; exact ho)
    exact this)) (by rintro ⟨a, w, h⟩; exact h.elim) _ _ _ _ (wpAny_of_held _ _ _ _ (h hS))))
end Go.Proofs.Ytpgfenelckonoaa.Seq

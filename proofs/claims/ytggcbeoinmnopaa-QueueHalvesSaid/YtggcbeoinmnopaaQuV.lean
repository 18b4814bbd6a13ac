/- Two queues side by side, and whatever is not theirs is kept. -/
import Derived.Test.YtggcbeoinmnopaaQuU
namespace Go.Proofs.Ytggcbeoinmnopaa.Qu
open Go.RowKit Go.Proofs.Ytggcbeoinmnopaa.Kit Go.Proofs.Ytggcbeoinmnopaa.ShM Go.Proofs.Ytggcbeoinmnopaa.Sh Go.Proofs.Ytggcbeoinmnopaa.QuM
set_option linter.unusedVariables false
set_option linter.unusedSimpArgs false
/-- Blocks of R are as they were. -/
structure KeepR (R : Nat → Prop) (w w' : World) : Prop where
  os : w'.os = w.os
  tape : w'.tape = w.tape
  output : w'.output = w.output
  size : w.heap.size ≤ w'.heap.size
  block : ∀ x, R x → w'.heap[x]? = w.heap[x]?
theorem KeepR.to {R : Nat → Prop} {w0 w w' : World} (h : KeepR R w w') (hb : Below w0.heap.size w0 w) (hR : ∀ x, x < w0.heap.size → R x) : Below w0.heap.size w0 w' :=
  ⟨h.os.trans hb.os, h.tape.trans hb.tape, h.output.trans hb.output, Nat.le_trans hb.size h.size, fun x hx => (h.block x (hR x hx)).trans (hb.block x hx)⟩
/-- Two queues; blocks of R are not theirs. -/
def TwoP (R : Nat → Prop) (w : World) (p : Nat) (L : List Mem) (b : Int) (n : Nat) (q : Nat) (K : List Mem) (c : Int) (k : Nat) : Prop :=
  ∃ F G : Nat → Prop, (∀ x, F x → G x → False) ∧ QF F w p L b n ∧ QF G w q K c k ∧ ∀ x, R x → x < w.heap.size ∧ ¬ F x ∧ ¬ G x
section
variable {R : Nat → Prop} {w0 w w' : World} {p n q k : Nat} {L K : List Mem} {b c : Int}
theorem TwoQ.toP (h : TwoQ w0 w p L b n q K c k) : TwoP (fun x => x < w0.heap.size) w p L b n q K c k := by
  obtain ⟨F, G, h1, h2, h3, h4, h5, h6⟩ := h
  exact ⟨F, G, h1, h4, h5, fun x hx => ⟨Nat.lt_of_lt_of_le hx h6.size, fun hf => by have := h2 x hf; omega, fun hg => by have := h3 x hg; omega⟩⟩
theorem TwoP.symm (h : TwoP R w p L b n q K c k) : TwoP R w q K c k p L b n := by
  obtain ⟨F, G, h1, h2, h3, h4⟩ := h
  exact ⟨G, F, fun x a d => h1 x d a, h3, h2, fun x hx => ⟨(h4 x hx).1, (h4 x hx).2.2, (h4 x hx).2.1⟩⟩
theorem TwoP.get (h : TwoP R w p L b n q K c k) : ∃ F, QF F w p L b n := by
  obtain ⟨F, G, h1, h2, _⟩ := h
  exact ⟨F, h2⟩
theorem TwoP.lt (h : TwoP R w p L b n q K c k) : ∀ x, R x → x < w.heap.size := by
  obtain ⟨F, G, h1, h2, h3, h4⟩ := h
  exact fun x hx => (h4 x hx).1
theorem TwoP.below (h : TwoP R w p L b n q K c k) (hb : Below w.heap.size w w') : TwoP (fun x => R x ∨ (w.heap.size ≤ x ∧ x < w'.heap.size)) w' p L b n q K c k := by
  obtain ⟨F, G, h1, h2, h3, h4⟩ := h
  refine ⟨F, G, h1, h2.below hb, h3.below hb, fun x hx => ?_⟩
  rcases hx with hx | ⟨hx, hy⟩
  · exact ⟨Nat.lt_of_lt_of_le (h4 x hx).1 hb.size, (h4 x hx).2⟩
  · exact ⟨hy, fun hf => by have := h2.lt x hf; omega, fun hg => by have := h3.lt x hg; omega⟩
theorem TwoP.mono {R' : Nat → Prop} (h : TwoP R w p L b n q K c k) (hR : ∀ x, R' x → R x) : TwoP R' w p L b n q K c k := by
  obtain ⟨F, G, h1, h2, h3, h4⟩ := h
  exact ⟨F, G, h1, h2, h3, fun x hx => h4 x (hR x hx)⟩
theorem TwoP.still (h : TwoP R w p L b n q K c k) (hb : Below w.heap.size w w') : TwoP R w' p L b n q K c k := (h.below hb).mono fun x hx => .inl hx
theorem TwoP.op {Q : Ending → Prop} {f : Nat} {args : Array Value} {n' : Nat} {L' : List Mem} {b' : Int} (h : TwoP R w p L b n q K c k)
    (H : ∀ F, QF F w p L b n → Calls Try.prog f args w fun e w' => Q e ∧ Qu w F w' p L' b' n') : Calls Try.prog f args w fun e w' => Q e ∧ TwoP R w' p L' b' n' q K c k ∧ KeepR R w w' := by
  obtain ⟨F, G, h1, h2, h3, h4⟩ := h
  refine (H F h2).mono ?_
  rintro e w' ⟨hq, F', f1, f2, f3⟩
  refine ⟨hq, ⟨F', G, fun x a d => ?_, f1, h3.kept fun x d => f3.block x (h3.lt x d) (fun a => h1 x a d), fun x hx => ⟨Nat.lt_of_lt_of_le (h4 x hx).1 f3.size, fun a => ?_, (h4 x hx).2.2⟩⟩, ⟨f3.os, f3.tape, f3.output, f3.size, fun x hx => f3.block x (h4 x hx).1 (h4 x hx).2.1⟩⟩
  · rcases f2 x a with h | h
    · exact h1 x h d
    · have := h3.lt x d; omega
  · rcases f2 x a with h | h
    · exact (h4 x hx).2.1 h
    · have := (h4 x hx).1; omega
end
end Go.Proofs.Ytggcbeoinmnopaa.Qu

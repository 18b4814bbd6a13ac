/- A queue in memory: three variables, the map's block, the shelf. -/
import Derived.Test.YtpgfenelckonoaaQuA
namespace Go.Proofs.Ytpgfenelckonoaa.Qu
open Go.RowKit Go.Proofs.Ytpgfenelckonoaa.Kit Go.Proofs.Ytpgfenelckonoaa.ShM Go.Proofs.Ytpgfenelckonoaa.Sh Go.Proofs.Ytpgfenelckonoaa.QuM
set_option linter.unusedVariables false
set_option linter.unusedSimpArgs false
def fmap (L : List Mem) (j : Int) : Option Value := (get L j).map mv
/-- A queue, with its own blocks named. -/
def QF (F : Nat → Prop) (w : World) (p : Nat) (L : List Mem) (base : Int) (n : Nat) : Prop :=
  ∃ mb g S, F = (fun k => k = p ∨ k = mb ∨ S k) ∧ w.heap[p]? = some (.cells #[.map (some mb), .pointer (some ⟨g, 0, none⟩), .int .i64 base] 104 (0, 0)) ∧
    MapV Try.prog 3 w mb (fmap L) n ∧ ItemsF S w g (L.map Mem.it) n ∧ ¬ S p ∧ ¬ S mb ∧ p ≠ mb ∧ WQ L
section
variable {F : Nat → Prop} {w w' : World} {p n : Nat} {L : List Mem} {base : Int}
theorem QF.wq (h : QF F w p L base n) : WQ L := by
  obtain ⟨mb, g, S, _, _, _, _, _, _, _, h⟩ := h
  exact h
theorem QF.len (h : QF F w p L base n) : L.length ≤ n := by
  obtain ⟨mb, g, S, _, _, _, h, _⟩ := h
  have := h.items.length
  simpa using this
theorem QF.lt (h : QF F w p L base n) : ∀ k, F k → k < w.heap.size := by
  obtain ⟨mb, g, S, rfl, h1, h2, h3, _⟩ := h
  rintro k (rfl | rfl | hk)
  · exact blk_lt h1
  · exact h2.lt
  · exact h3.lt k hk
theorem QF.kept (h : QF F w p L base n) (hs : ∀ k, F k → w'.heap[k]? = w.heap[k]?) : QF F w' p L base n := by
  obtain ⟨mb, g, S, rfl, h1, h2, h3, h4⟩ := h
  exact ⟨mb, g, S, rfl, (hs p (.inl rfl)).trans h1, h2.same (hs mb (.inr (.inl rfl))), h3.kept fun k hk => hs k (.inr (.inr hk)), h4⟩
theorem QF.below (h : QF F w p L base n) (hb : Below w.heap.size w w') : QF F w' p L base n := h.kept fun k hk => hb.block k (h.lt k hk)
theorem QF.more {m : Nat} (h : QF F w p L base n) (hm : n ≤ m) : QF F w p L base m := by
  obtain ⟨mb, g, S, h0, h1, h2, ⟨t, gl, cl, vf, N, G, e, hH, h3⟩, h4⟩ := h
  exact ⟨mb, g, S, h0, h1, h2.more hm, ⟨t, gl, cl, vf, N, G, e, ⟨hH.sh, hH.zero, hH.fit, hH.free, Nat.le_trans hH.len hm⟩, h3⟩, h4⟩
end
/-- A queue, relative to an origin. -/
def Qu (w0 : World) (F0 : Nat → Prop) (w : World) (p : Nat) (L : List Mem) (base : Int) (n : Nat) : Prop := ∃ F, QF F w p L base n ∧ (∀ k, F k → Ext F0 w0 k) ∧ Kept F0 w0 w
section
variable {w0 w w' : World} {F0 : Nat → Prop} {p n : Nat} {L : List Mem} {base : Int}
theorem Qu.below (h : Qu w0 F0 w p L base n) (hb : Below w.heap.size w w') : Qu w0 F0 w' p L base n := by
  obtain ⟨F, h1, h2, h3⟩ := h
  exact ⟨F, h1.below hb, h2, h3.below hb⟩
theorem Qu.more {m : Nat} (h : Qu w0 F0 w p L base n) (hm : n ≤ m) : Qu w0 F0 w p L base m := by
  obtain ⟨F, h1, h2⟩ := h
  exact ⟨F, h1.more hm, h2⟩
theorem Qu.wq (h : Qu w0 F0 w p L base n) : WQ L := by
  obtain ⟨F, h1, _⟩ := h
  exact h1.wq
theorem Qu.len (h : Qu w0 F0 w p L base n) : L.length ≤ n := by
  obtain ⟨F, h1, _⟩ := h
  exact h1.len
theorem Qu.kept (h : Qu w0 F0 w p L base n) : Kept F0 w0 w := by
  obtain ⟨F, _, _, h⟩ := h
  exact h
theorem QF.self {F : Nat → Prop} (h : QF F w p L base n) : Qu w F w p L base n := ⟨F, h, fun k hk => .inl hk, Kept.refl _ _⟩
/-- What is done relative to the queue's own blocks is done relative to its origin. -/
theorem Qu.lift {Q : Ending → World → Prop} {f : Nat} {args : Array Value} (h : Qu w0 F0 w p L base n)
    (H : ∀ F, QF F w p L base n → Calls Try.prog f args w fun e w' => ∃ L' base' n', Q e w' ∧ Qu w F w' p L' base' n') :
    Calls Try.prog f args w fun e w' => ∃ L' base' n', Q e w' ∧ Qu w0 F0 w' p L' base' n' := by
  obtain ⟨F, h1, h2, h3⟩ := h
  refine (H F h1).mono ?_
  rintro e w' ⟨L', base', n', hq, G, g1, g2, g3⟩
  refine ⟨L', base', n', hq, G, g1, fun k hk => ?_, h3.trans g3 h2⟩
  rcases g2 k hk with h | h
  · exact h2 k h
  · exact .inr (Nat.le_trans h3.size h)
theorem Qu.trans {F : Nat → Prop} {L' : List Mem} {base' : Int} {n' : Nat} (hF : ∀ k, F k → Ext F0 w0 k) (hk : Kept F0 w0 w) (g : Qu w F w' p L' base' n') : Qu w0 F0 w' p L' base' n' := by
  obtain ⟨G, g1, g2, g3⟩ := g
  refine ⟨G, g1, fun k hk' => ?_, hk.trans g3 hF⟩
  rcases g2 k hk' with h | h
  · exact hF k h
  · exact .inr (Nat.le_trans hk.size h)
end
end Go.Proofs.Ytpgfenelckonoaa.Qu

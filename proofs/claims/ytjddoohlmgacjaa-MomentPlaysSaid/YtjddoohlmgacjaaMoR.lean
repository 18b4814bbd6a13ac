/- Members in memory: a slice of them, opened; one by value, opened. -/
import Derived.Test.YtjddoohlmgacjaaMoL
import Derived.Deep.SlicePairs
namespace Go.Proofs.Ytjddoohlmgacjaa.Mo
open Go.RowKit Go.Proofs.Ytjddoohlmgacjaa.Kit Go.Proofs.Ytjddoohlmgacjaa.Flo Go.IntWalk
set_option linter.unusedVariables false
set_option linter.unusedSimpArgs false
/-- Members, as they lie in memory: three cells each. -/
def Ones (w : World) (A : Option Addr) (l : List One) : Prop :=
  ∀ i (h : i < l.length), ∃ ad : Addr, A = some ad ∧ w.cell? (ad.add (i * 3)) = some (.int .i32 l[i].b) ∧ w.cell? (ad.add (i * 3 + 1)) = some (.int .u32 l[i].w) ∧ w.cell? (ad.add (i * 3 + 2)) = some (.bool l[i].out)
theorem ones_below {w w1 : World} {A : Option Addr} {l : List One} (h : Hid (Ones w A l)) (hb : Below w.heap.size w w1) : Hid (Ones w1 A l) := by
  intro i hi
  obtain ⟨ad, rfl, h0, h1, h2⟩ := h.out i hi
  exact ⟨ad, rfl, (hb.cell (cell_lt h0)).trans h0, (hb.cell (cell_lt h1)).trans h1, (hb.cell (cell_lt h2)).trans h2⟩
open Go.ChangeShapes Go.WideShapes Go.ChangeAt Go.Joins Go.Deep in
theorem open_ones {H : Type} {enc : TypeId × Value → H} {P : Program} {W : World} {r : Reach} {b0 base : Nat} {held : Bool} {t e : TypeId} {f0 f1 f2 : Field} {v : Value} {d : DataW H} {ps : List MemPlace}
    (ht : P.underlying t = some (.slice e)) (he : P.underlying e = some (.struct #[f0, f1, f2])) (ce : P.cellsOf e = 3) (o0 : f0.offset = 0) (o1 : f1.offset = 1) (o2 : f2.offset = 2) (c0 : P.cellsOf f0.type = 1) (c1 : P.cellsOf f1.type = 1) (c2 : P.cellsOf f2.type = 1)
    (u0 : P.underlying f0.type = some (.int .i32)) (u1 : P.underlying f1.type = some (.int .u32)) (u2 : P.underlying f2.type = some .bool)
    (hv : Value.okWide P W r b0 t v) (h : DataW.Trod enc P W base (fun _ => true) held t v d ps) :
    ∃ (A : Option Addr) (l : List One) (cap : Nat), v = .slice A l.length cap ∧ Hid (Ones W A l) ∧ (∀ o ∈ l, o.Wf) ∧ l.length ≤ cap ∧ cap ≤ maxLen := by
  obtain ⟨A, len, cap, rfl⟩ := okWide_slice ht hv
  obtain ⟨fuel, hf⟩ := h
  rcases open_slice ht hf with ⟨hcs, _⟩ | ⟨x, l, c, m, n, D, Pl, hcs, _, hl, hm, hmm, _, hx⟩
  · simp [Value.cells] at hcs
    obtain ⟨rfl, rfl, rfl⟩ := hcs
    exact ⟨none, [], 0, rfl, (fun i hi => by cases hi), (fun o ho => by cases ho), Nat.le_refl _, Nat.zero_le _⟩
  · simp [Value.cells] at hcs
    obtain ⟨rfl, rfl, rfl⟩ := hcs
    simp only [if_true] at hmm
    subst hmm
    have each : ∀ i, i < m → ∃ o : One, W.cell? (x.add (i * 3)) = some (.int .i32 o.b) ∧ W.cell? (x.add (i * 3 + 1)) = some (.int .u32 o.w) ∧ W.cell? (x.add (i * 3 + 2)) = some (.bool o.out) ∧ o.Wf := by
      intro i hi
      obtain ⟨cs', h1, h2⟩ := hx i hi
      rw [ce] at h1
      obtain ⟨_, hlen, hcell⟩ := World.cells?_some h1
      obtain ⟨xs, k, hk, hxy, _, hxl, hfd⟩ := DataW.trod_struct he h2
      match xs, hxl, cs', hlen with
      | [y0, y1, y2], _, [v0, v1, v2], _ =>
        have g0 := hfd 0 f0 rfl
        have g1 := hfd 1 f1 rfl
        have g2 := hfd 2 f2 rfl
        simp [o0, o1, o2, c0, c1, c2] at g0 g1 g2
        have e0 := hcell 0 (by omega)
        have e1 := hcell 1 (by omega)
        have e2 := hcell 2 (by omega)
        rw [Kit.add_add] at e0 e1 e2
        obtain ⟨a, q0, _, wa⟩ := DataW.trod_int u0 g0
        obtain ⟨b, q1, _, wb⟩ := DataW.trod_int u1 g1
        obtain ⟨c, q2, _⟩ := DataW.trod_bool u2 g2
        simp only [List.cons.injEq, and_true] at q0 q1 q2
        subst q0 q1 q2
        have ba := Go.bounds_i32 wa
        have bb := Go.bounds_u32 wb
        exact ⟨⟨a, b, c⟩, by simpa using e0, by simpa using e1, by simpa using e2, ⟨ba.1, ba.2, bb.1, bb.2⟩⟩
    obtain ⟨O, hO⟩ := choose_lt each
    refine ⟨some x, (List.range len).map O, m, by simp, ?_, ?_, by simpa using hl, hm⟩
    · intro i hi
      have hi' : i < m := by simp at hi; omega
      obtain ⟨h0, h1, h2, _⟩ := hO i hi'
      refine ⟨x, rfl, ?_⟩
      simp only [List.getElem_map, List.getElem_range]
      exact ⟨h0, h1, h2⟩
    · intro o ho
      obtain ⟨i, hi, rfl⟩ := List.mem_map.1 ho
      have hi2 := List.mem_range.1 hi
      exact (hO i (by omega)).2.2.2
end Go.Proofs.Ytjddoohlmgacjaa.Mo

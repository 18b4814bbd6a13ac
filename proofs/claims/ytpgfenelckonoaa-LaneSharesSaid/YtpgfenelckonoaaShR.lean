/- What is done to a shelf, as a row in memory; the walks of walked, awake, and the reference's Less and Digits. -/
import Derived.Test.YtpgfenelckonoaaShQ
import Derived.Deep.SlicePairs
namespace Go.Proofs.Ytpgfenelckonoaa.Sh
open Go.RowKit Go.Proofs.Ytpgfenelckonoaa.Kit Go.Proofs.Ytpgfenelckonoaa.ShM
set_option linter.unusedVariables false
set_option linter.unusedSimpArgs false
/-- One thing that is done. -/
structure OpM where
  x : It
  out : Bool
  deriving Inhabited
def OpRow (w : World) (A : Option Addr) (l : List OpM) : Prop :=
  ∀ i (h : i < l.length), ∃ ad : Addr, A = some ad ∧ w.cell? (ad.add (i * 3)) = some (.int .i64 l[i].x.key) ∧ w.cell? (ad.add (i * 3 + 1)) = some (.int .i64 l[i].x.id) ∧ w.cell? (ad.add (i * 3 + 2)) = some (.bool l[i].out)
theorem oprow_below {w w1 : World} {A : Option Addr} {l : List OpM} (h : Hid (OpRow w A l)) (hb : Below w.heap.size w w1) : Hid (OpRow w1 A l) := by
  intro i hi
  obtain ⟨ad, rfl, h0, h1, h2⟩ := h.out i hi
  exact ⟨ad, rfl, (hb.cell (cell_lt h0)).trans h0, (hb.cell (cell_lt h1)).trans h1, (hb.cell (cell_lt h2)).trans h2⟩
theorem add_part (ad : Addr) (n j : Nat) (hj : 0 < j) : ad.add (n + j) = ⟨(ad.add n).block, (ad.add n).off + j, none⟩ := by
  unfold Addr.add
  by_cases hn : n = 0
  · subst hn
    rw [if_neg (by omega), if_pos rfl, Nat.zero_add]
  · rw [if_neg (by omega), if_neg hn]
    simp [Nat.add_assoc]
/-- One row, in the form that a walk reads. -/
theorem op_at {w : World} {A : Option Addr} {l : List OpM} {i : Nat} {o : OpM} (h : Hid (OpRow w A l)) (hi : l[i]? = some o) :
    ∃ ad : Addr, A = some ad ∧ w.cell? (ad.add (i * 3)) = some (.int .i64 o.x.key) ∧ w.cell? ⟨(ad.add (i * 3)).block, (ad.add (i * 3)).off + 1, none⟩ = some (.int .i64 o.x.id) ∧ w.cell? ⟨(ad.add (i * 3)).block, (ad.add (i * 3)).off + 2, none⟩ = some (.bool o.out) := by
  obtain ⟨h1, rfl⟩ := List.getElem?_eq_some_iff.1 hi
  obtain ⟨ad, rfl, c0, c1, c2⟩ := h.out i h1
  rw [add_part _ _ _ (by decide)] at c1 c2
  exact ⟨ad, rfl, c0, c1, c2⟩
open Go.ChangeShapes Go.WideShapes Go.ChangeAt Go.Joins Go.Deep in
theorem open_ops {H : Type} {enc : TypeId × Value → H} {P : Program} {W : World} {r : Reach} {b0 base : Nat} {held : Bool} {t e : TypeId} {f0 f1 g0 g1 : Field} {v : Value} {d : DataW H} {ps : List MemPlace}
    (ht : P.underlying t = some (.slice e)) (he : P.underlying e = some (.struct #[f0, f1])) (ce : P.cellsOf e = 3) (o0 : f0.offset = 0) (o1 : f1.offset = 2) (c0 : P.cellsOf f0.type = 2) (c1 : P.cellsOf f1.type = 1)
    (u0 : P.underlying f0.type = some (.struct #[g0, g1])) (p0 : g0.offset = 0) (p1 : g1.offset = 1) (d0 : P.cellsOf g0.type = 1) (d1 : P.cellsOf g1.type = 1) (v0 : P.underlying g0.type = some (.int .i64)) (v1 : P.underlying g1.type = some (.int .i64)) (u1 : P.underlying f1.type = some .bool)
    (hv : Value.okWide P W r b0 t v) (h : DataW.Trod enc P W base (fun _ => true) held t v d ps) :
    ∃ (A : Option Addr) (l : List OpM) (cap : Nat), v = .slice A l.length cap ∧ Hid (OpRow W A l) ∧ l.length ≤ cap ∧ cap ≤ maxLen := by
  obtain ⟨A, len, cap, rfl⟩ := okWide_slice ht hv
  obtain ⟨fuel, hf⟩ := h
  rcases open_slice ht hf with ⟨hcs, _⟩ | ⟨x, l, c, m, n, D, Pl, hcs, _, hl, hm, hmm, _, hx⟩
  · simp [Value.cells] at hcs
    obtain ⟨rfl, rfl, rfl⟩ := hcs
    exact ⟨none, [], 0, rfl, (fun i hi => by cases hi), Nat.le_refl _, Nat.zero_le _⟩
  · simp [Value.cells] at hcs
    obtain ⟨rfl, rfl, rfl⟩ := hcs
    simp only [if_true] at hmm
    subst hmm
    have each : ∀ i, i < m → ∃ o : OpM, W.cell? (x.add (i * 3)) = some (.int .i64 o.x.key) ∧ W.cell? (x.add (i * 3 + 1)) = some (.int .i64 o.x.id) ∧ W.cell? (x.add (i * 3 + 2)) = some (.bool o.out) := by
      intro i hi
      obtain ⟨cs', h1, h2⟩ := hx i hi
      rw [ce] at h1
      obtain ⟨_, hlen, hcell⟩ := World.cells?_some h1
      obtain ⟨xs, k, hk, hxy, _, hxl, hfd⟩ := DataW.trod_struct he h2
      match xs, hxl, cs', hlen with
      | [y0, y1], _, [w0, w1, w2], _ =>
        have q0 := hfd 0 f0 rfl
        have q1 := hfd 1 f1 rfl
        simp [o0, o1, c0, c1] at q0 q1
        obtain ⟨zs, k2, hk2, hzy, _, hzl, hgd⟩ := DataW.trod_struct u0 q0
        match zs, hzl with
        | [z0, z1], _ =>
          have r0 := hgd 0 g0 rfl
          have r1 := hgd 1 g1 rfl
          simp [p0, p1, d0, d1] at r0 r1
          have e0 := hcell 0 (by omega)
          have e1 := hcell 1 (by omega)
          have e2 := hcell 2 (by omega)
          rw [Kit.add_add] at e0 e1 e2
          obtain ⟨a, s0, _, _⟩ := DataW.trod_int v0 r0
          obtain ⟨b, s1, _, _⟩ := DataW.trod_int v1 r1
          obtain ⟨c, s2, _⟩ := DataW.trod_bool u1 q1
          simp only [List.cons.injEq, and_true] at s0 s1 s2
          subst s0 s1 s2
          exact ⟨⟨⟨a, b⟩, c⟩, by simpa using e0, by simpa using e1, by simpa using e2⟩
    obtain ⟨O, hO⟩ := choose_lt each
    refine ⟨some x, (List.range len).map O, m, by simp, ?_, by simpa using hl, hm⟩
    intro i hi
    have hi' : i < m := by simp at hi; omega
    obtain ⟨h0, h1, h2⟩ := hO i hi'
    refine ⟨x, rfl, ?_⟩
    simp only [List.getElem_map, List.getElem_range]
    exact ⟨h0, h1, h2⟩
/-- What a thing that is done does to the items. -/
def playL (l : List It) (o : OpM) : List It := if o.out = true then dropL o.x l else putL o.x l
def walkedL (ops : List OpM) : List It := ops.foldl playL []
theorem walkedL_snoc (ops : List OpM) (i : Nat) (o : OpM) (h : ops[i]? = some o) : walkedL (ops.take (i + 1)) = playL (walkedL (ops.take i)) o := by
  obtain ⟨h1, rfl⟩ := List.getElem?_eq_some_iff.1 h
  rw [List.take_succ_eq_append_getElem h1]
  unfold walkedL
  rw [List.foldl_append]
  rfl
/-- A shelf behind things that were done. -/
def WalkedPost (w0 : World) (S0 : Nat → Prop) (w : World) (l : List It) (n : Nat) (e : Ending) (w' : World) : Prop := ∃ g, e = .returned (.pointer (some ⟨g, 0, none⟩)) ∧ w.heap.size ≤ g ∧ Items w0 S0 w' g l n
end Go.Proofs.Ytpgfenelckonoaa.Sh

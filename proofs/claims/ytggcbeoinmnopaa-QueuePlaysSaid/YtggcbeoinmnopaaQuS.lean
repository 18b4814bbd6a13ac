/- Rows of what is done, and members, as arguments; two queues side by side. -/
import Derived.Test.YtggcbeoinmnopaaQuT
import Derived.Deep.SlicePairs
namespace Go.Proofs.Ytggcbeoinmnopaa.Qu
open Go.RowKit Go.Proofs.Ytggcbeoinmnopaa.Kit Go.Proofs.Ytggcbeoinmnopaa.ShM Go.Proofs.Ytggcbeoinmnopaa.Sh Go.Proofs.Ytggcbeoinmnopaa.QuM
set_option linter.unusedVariables false
set_option linter.unusedSimpArgs false
open Go.ChangeShapes Go.WideShapes Go.ChangeAt Go.Joins Go.Deep in
theorem open_qops {H : Type} {enc : TypeId × Value → H} {P : Program} {W : World} {r : Reach} {b0 base : Nat} {held : Bool} {t e : TypeId} {f0 f1 f2 g0 g1 g2 fa fb : Field} {v : Value} {d : DataW H} {ps : List MemPlace}
    (ht : P.underlying t = some (.slice e)) (he : P.underlying e = some (.struct #[f0, f1, f2])) (ce : P.cellsOf e = 6) (o0 : f0.offset = 0) (o1 : f1.offset = 1) (o2 : f2.offset = 5) (c0 : P.cellsOf f0.type = 1) (c1 : P.cellsOf f1.type = 4) (c2 : P.cellsOf f2.type = 1)
    (u0 : P.underlying f0.type = some (.int .i64)) (u2 : P.underlying f2.type = some (.int .i64)) (u1 : P.underlying f1.type = some (.struct #[g0, g1, g2])) (p0 : g0.offset = 0) (p1 : g1.offset = 1) (p2 : g2.offset = 2) (d0 : P.cellsOf g0.type = 1) (d1 : P.cellsOf g1.type = 1) (d2 : P.cellsOf g2.type = 2)
    (v0 : P.underlying g0.type = some (.int .i64)) (v1 : P.underlying g1.type = some (.int .i64)) (v2 : P.underlying g2.type = some (.struct #[fa, fb])) (q0 : fa.offset = 0) (q1 : fb.offset = 1) (e0 : P.cellsOf fa.type = 1) (e1 : P.cellsOf fb.type = 1) (x0 : P.underlying fa.type = some (.int .i64)) (x1 : P.underlying fb.type = some (.int .i64))
    (hv : Value.okWide P W r b0 t v) (h : DataW.Trod enc P W base (fun _ => true) held t v d ps) :
    ∃ (A : Option Addr) (l : List QOp) (cap : Nat), v = .slice A l.length cap ∧ Hid (QRow W A l) ∧ l.length ≤ cap ∧ cap ≤ maxLen := by
  obtain ⟨A, len, cap, rfl⟩ := okWide_slice ht hv
  obtain ⟨fuel, hf⟩ := h
  rcases open_slice ht hf with ⟨hcs, _⟩ | ⟨x, l, c, m, n, D, Pl, hcs, _, hl, hm, hmm, _, hx⟩
  · simp [Value.cells] at hcs
    obtain ⟨rfl, rfl, rfl⟩ := hcs
    exact ⟨none, [], 0, rfl, (fun i hi => by cases hi), Nat.le_refl _, Nat.zero_le _⟩
  · simp [Value.cells] at hcs
    obtain ⟨rfl, rfl, rfl⟩ := hcs
    simp only [if_true] at hmm
    subst hmm
    have each : ∀ i, i < m → ∃ o : QOp, (W.cell? (x.add (i * 6)) = some (.int .i64 o.d) ∧ W.cell? (x.add (i * 6 + 1)) = some (.int .i64 o.m.id) ∧ W.cell? (x.add (i * 6 + 2)) = some (.int .i64 o.m.wt) ∧ W.cell? (x.add (i * 6 + 3)) = some (.int .i64 o.m.v) ∧ W.cell? (x.add (i * 6 + 4)) = some (.int .i64 o.m.rem) ∧ W.cell? (x.add (i * 6 + 5)) = some (.int .i64 o.n)) ∧ -9223372036854775808 ≤ o.m.id ∧ o.m.id ≤ 9223372036854775807 := by
      intro i hi
      obtain ⟨cs', h1, h2⟩ := hx i hi
      rw [ce] at h1
      obtain ⟨_, hlen, hcell⟩ := World.cells?_some h1
      obtain ⟨xs, k, hk, hxy, _, hxl, hfd⟩ := DataW.trod_struct he h2
      match xs, hxl, cs', hlen with
      | [y0, y1, y2], _, [w0, w1, w2, w3, w4, w5], _ =>
        have r0 := hfd 0 f0 rfl
        have r1 := hfd 1 f1 rfl
        have r2 := hfd 2 f2 rfl
        simp [o0, o1, o2, c0, c1, c2] at r0 r1 r2
        obtain ⟨zs, k2, hk2, hzy, _, hzl, hgd⟩ := DataW.trod_struct u1 r1
        match zs, hzl with
        | [z0, z1, z2], _ =>
          have s0 := hgd 0 g0 rfl
          have s1 := hgd 1 g1 rfl
          have s2 := hgd 2 g2 rfl
          simp [p0, p1, p2, d0, d1, d2] at s0 s1 s2
          obtain ⟨ys, k3, hk3, hys, _, hyl, hyd⟩ := DataW.trod_struct v2 s2
          match ys, hyl with
          | [t0, t1], _ =>
            have a0 := hyd 0 fa rfl
            have a1 := hyd 1 fb rfl
            simp [q0, q1, e0, e1] at a0 a1
            have b0 := hcell 0 (by omega)
            have b1 := hcell 1 (by omega)
            have b2 := hcell 2 (by omega)
            have b3 := hcell 3 (by omega)
            have b4 := hcell 4 (by omega)
            have b5 := hcell 5 (by omega)
            rw [Kit.add_add] at b0 b1 b2 b3 b4 b5
            obtain ⟨n0, m0, _, _⟩ := DataW.trod_int u0 r0
            obtain ⟨n5, m5, _, _⟩ := DataW.trod_int u2 r2
            obtain ⟨n1, m1, _, j1⟩ := DataW.trod_int v0 s0
            obtain ⟨n2, m2, _, _⟩ := DataW.trod_int v1 s1
            obtain ⟨n3, m3, _, _⟩ := DataW.trod_int x0 a0
            obtain ⟨n4, m4, _, _⟩ := DataW.trod_int x1 a1
            simp only [List.cons.injEq, and_true] at m0 m1 m2 m3 m4 m5
            subst m0 m1 m2 m3 m4 m5
            have hb := Go.bounds_i64 j1
            exact ⟨⟨n0, ⟨n1, n2, n3, n4⟩, n5⟩, ⟨by simpa using b0, by simpa using b1, by simpa using b2, by simpa using b3, by simpa using b4, by simpa using b5⟩, hb.1, hb.2⟩
    obtain ⟨O, hO⟩ := choose_lt each
    refine ⟨some x, (List.range len).map O, m, by simp, ?_, by simpa using hl, hm⟩
    intro i hi
    have hi' : i < m := by simp at hi; omega
    obtain ⟨⟨h0, h1, h2, h3, h4, h5⟩, h6⟩ := hO i hi'
    refine ⟨x, rfl, ?_⟩
    simp only [List.getElem_map, List.getElem_range]
    exact ⟨h0, h1, h2, h3, h4, h5, h6⟩
/-- Two queues side by side, both laid behind w0. -/
def TwoQ (w0 w : World) (p : Nat) (L : List Mem) (b : Int) (n : Nat) (q : Nat) (K : List Mem) (c : Int) (k : Nat) : Prop :=
  ∃ F G : Nat → Prop, (∀ x, F x → G x → False) ∧ (∀ x, F x → w0.heap.size ≤ x) ∧ (∀ x, G x → w0.heap.size ≤ x) ∧ QF F w p L b n ∧ QF G w q K c k ∧ Below w0.heap.size w0 w
section
variable {w0 w w' : World} {p n q k : Nat} {L K : List Mem} {b c : Int}
theorem TwoQ.symm (h : TwoQ w0 w p L b n q K c k) : TwoQ w0 w q K c k p L b n := by
  obtain ⟨F, G, h1, h2, h3, h4, h5, h6⟩ := h
  exact ⟨G, F, fun x a d => h1 x d a, h3, h2, h5, h4, h6⟩
theorem TwoQ.to (h : TwoQ w0 w p L b n q K c k) : Below w0.heap.size w0 w := by
  obtain ⟨F, G, h1, h2, h3, h4, h5, h6⟩ := h
  exact h6
theorem TwoQ.get (h : TwoQ w0 w p L b n q K c k) : ∃ F, QF F w p L b n := by
  obtain ⟨F, G, h1, h2, h3, h4, h5, h6⟩ := h
  exact ⟨F, h4⟩
theorem TwoQ.below (h : TwoQ w0 w p L b n q K c k) (hb : Below w.heap.size w w') : TwoQ w0 w' p L b n q K c k := by
  obtain ⟨F, G, h1, h2, h3, h4, h5, h6⟩ := h
  exact ⟨F, G, h1, h2, h3, h4.below hb, h5.below hb, h6.trans (hb.mono h6.size)⟩
theorem TwoQ.op {Q : Ending → Prop} {f : Nat} {args : Array Value} {n' : Nat} {L' : List Mem} {b' : Int} (h : TwoQ w0 w p L b n q K c k)
    (H : ∀ F, QF F w p L b n → Calls Try.prog f args w fun e w' => Q e ∧ Qu w F w' p L' b' n') : Calls Try.prog f args w fun e w' => Q e ∧ TwoQ w0 w' p L' b' n' q K c k := by
  obtain ⟨F, G, h1, h2, h3, h4, h5, h6⟩ := h
  refine (H F h4).mono ?_
  rintro e w' ⟨hq, F', f1, f2, f3⟩
  refine ⟨hq, F', G, fun x a d => ?_, fun x a => ?_, h3, f1, h5.kept fun x d => f3.block x (h5.lt x d) (fun a => h1 x a d), ?_⟩
  · rcases f2 x a with h | h
    · exact h1 x h d
    · have := h5.lt x d; omega
  · rcases f2 x a with h | h
    · exact h2 x h
    · have := h6.size; omega
  · exact ⟨f3.os.trans h6.os, f3.tape.trans h6.tape, f3.output.trans h6.output, Nat.le_trans h6.size f3.size, fun x hx => (f3.block x (Nat.lt_of_lt_of_le hx h6.size) (fun hs => by have := h2 x hs; omega)).trans (h6.block x hx)⟩
theorem twoq_new (hs : Qu w0 (fun _ => False) w p L b n) (ht : Qu w (fun _ => False) w' q K c k) : TwoQ w0 w' p L b n q K c k := by
  obtain ⟨F, f1, f2, f3⟩ := hs
  obtain ⟨G, g1, g2, g3⟩ := ht
  have hb0 := f3.toBelow fun k h => h.elim
  have hb := g3.toBelow fun k h => h.elim
  have hF : ∀ x, F x → w0.heap.size ≤ x := fun x h => (f2 x h).elim (fun h => h.elim) id
  have hG : ∀ x, G x → w.heap.size ≤ x := fun x h => (g2 x h).elim (fun h => h.elim) id
  exact ⟨F, G, fun x a d => by have := f1.lt x a; have := hG x d; omega, hF, fun x d => Nat.le_trans hb0.size (hG x d), f1.below hb, g1, hb0.trans (hb.mono hb0.size)⟩
end
end Go.Proofs.Ytggcbeoinmnopaa.Qu

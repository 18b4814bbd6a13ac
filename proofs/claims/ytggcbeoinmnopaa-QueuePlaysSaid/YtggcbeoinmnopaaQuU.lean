/- A member, and one thing that is done, as arguments. -/
import Derived.Test.YtggcbeoinmnopaaQuS
namespace Go.Proofs.Ytggcbeoinmnopaa.Qu
open Go.RowKit Go.Proofs.Ytggcbeoinmnopaa.Kit Go.Proofs.Ytggcbeoinmnopaa.ShM Go.Proofs.Ytggcbeoinmnopaa.Sh Go.Proofs.Ytggcbeoinmnopaa.QuM
set_option linter.unusedVariables false
set_option linter.unusedSimpArgs false
open Go.ChangeShapes Go.WideShapes Go.ChangeAt Go.Joins Go.Deep in
theorem open_member {H : Type} {enc : TypeId × Value → H} {P : Program} {W : World} {r : Reach} {b0 base : Nat} {held : Bool} {t : TypeId} {g0 g1 g2 fa fb : Field} {v : Value} {d : DataW H} {ps : List MemPlace}
    (u1 : P.underlying t = some (.struct #[g0, g1, g2])) (ce : P.cellsOf t = 4) (p0 : g0.offset = 0) (p1 : g1.offset = 1) (p2 : g2.offset = 2) (d0 : P.cellsOf g0.type = 1) (d1 : P.cellsOf g1.type = 1) (d2 : P.cellsOf g2.type = 2)
    (v0 : P.underlying g0.type = some (.int .i64)) (v1 : P.underlying g1.type = some (.int .i64)) (v2 : P.underlying g2.type = some (.struct #[fa, fb])) (q0 : fa.offset = 0) (q1 : fb.offset = 1) (e0 : P.cellsOf fa.type = 1) (e1 : P.cellsOf fb.type = 1) (x0 : P.underlying fa.type = some (.int .i64)) (x1 : P.underlying fb.type = some (.int .i64))
    (hv : Value.okWide P W r b0 t v) (h : DataW.Trod enc P W base (fun _ => true) held t v d ps) :
    ∃ m : Mem, v = .agg #[.int .i64 m.id, .int .i64 m.wt, .int .i64 m.v, .int .i64 m.rem] ∧ -9223372036854775808 ≤ m.id ∧ m.id ≤ 9223372036854775807 := by
  obtain ⟨cs, rfl, hsz⟩ := okWide_struct u1 hv
  obtain ⟨fuel, hf⟩ := h
  obtain ⟨zs, k2, hk2, hzy, _, hzl, hgd⟩ := DataW.trod_struct u1 hf
  obtain ⟨cl⟩ := cs
  rw [ce] at hsz
  match zs, hzl, cl, hsz with
  | [z0, z1, z2], _, [w0, w1, w2, w3], _ =>
    have s0 := hgd 0 g0 rfl
    have s1 := hgd 1 g1 rfl
    have s2 := hgd 2 g2 rfl
    simp [Value.cells, p0, p1, p2, d0, d1, d2] at s0 s1 s2
    obtain ⟨ys, k3, hk3, hys, _, hyl, hyd⟩ := DataW.trod_struct v2 s2
    match ys, hyl with
    | [t0, t1], _ =>
      have a0 := hyd 0 fa rfl
      have a1 := hyd 1 fb rfl
      simp [q0, q1, e0, e1] at a0 a1
      obtain ⟨n1, m1, _, j1⟩ := DataW.trod_int v0 s0
      obtain ⟨n2, m2, _, _⟩ := DataW.trod_int v1 s1
      obtain ⟨n3, m3, _, _⟩ := DataW.trod_int x0 a0
      obtain ⟨n4, m4, _, _⟩ := DataW.trod_int x1 a1
      simp only [List.cons.injEq, and_true] at m1 m2 m3 m4
      subst m1 m2 m3 m4
      have hb := Go.bounds_i64 j1
      exact ⟨⟨n1, n2, n3, n4⟩, rfl, hb.1, hb.2⟩
open Go.ChangeShapes Go.WideShapes Go.ChangeAt Go.Joins Go.Deep in
theorem open_qop {H : Type} {enc : TypeId × Value → H} {P : Program} {W : World} {r : Reach} {b0 base : Nat} {held : Bool} {t : TypeId} {f0 f1 f2 g0 g1 g2 fa fb : Field} {v : Value} {d : DataW H} {ps : List MemPlace}
    (he : P.underlying t = some (.struct #[f0, f1, f2])) (ce : P.cellsOf t = 6) (o0 : f0.offset = 0) (o1 : f1.offset = 1) (o2 : f2.offset = 5) (c0 : P.cellsOf f0.type = 1) (c1 : P.cellsOf f1.type = 4) (c2 : P.cellsOf f2.type = 1)
    (u0 : P.underlying f0.type = some (.int .i64)) (u2 : P.underlying f2.type = some (.int .i64)) (u1 : P.underlying f1.type = some (.struct #[g0, g1, g2])) (p0 : g0.offset = 0) (p1 : g1.offset = 1) (p2 : g2.offset = 2) (d0 : P.cellsOf g0.type = 1) (d1 : P.cellsOf g1.type = 1) (d2 : P.cellsOf g2.type = 2)
    (v0 : P.underlying g0.type = some (.int .i64)) (v1 : P.underlying g1.type = some (.int .i64)) (v2 : P.underlying g2.type = some (.struct #[fa, fb])) (q0 : fa.offset = 0) (q1 : fb.offset = 1) (e0 : P.cellsOf fa.type = 1) (e1 : P.cellsOf fb.type = 1) (x0 : P.underlying fa.type = some (.int .i64)) (x1 : P.underlying fb.type = some (.int .i64))
    (hv : Value.okWide P W r b0 t v) (h : DataW.Trod enc P W base (fun _ => true) held t v d ps) :
    ∃ o : QOp, v = .agg #[.int .i64 o.d, .int .i64 o.m.id, .int .i64 o.m.wt, .int .i64 o.m.v, .int .i64 o.m.rem, .int .i64 o.n] ∧ -9223372036854775808 ≤ o.m.id ∧ o.m.id ≤ 9223372036854775807 := by
  obtain ⟨cs, rfl, hsz⟩ := okWide_struct he hv
  obtain ⟨fuel, hf⟩ := h
  obtain ⟨xs, k, hk, hxy, _, hxl, hfd⟩ := DataW.trod_struct he hf
  obtain ⟨cl⟩ := cs
  rw [ce] at hsz
  match xs, hxl, cl, hsz with
  | [y0, y1, y2], _, [w0, w1, w2, w3, w4, w5], _ =>
    have r0 := hfd 0 f0 rfl
    have r1 := hfd 1 f1 rfl
    have r2 := hfd 2 f2 rfl
    simp [Value.cells, o0, o1, o2, c0, c1, c2] at r0 r1 r2
    obtain ⟨zs, k2, hk2, hzy, _, hzl, hgd⟩ := DataW.trod_struct u1 r1
    match zs, hzl with
    | [z0, z1, z2], _ =>
      have s0 := hgd 0 g0 rfl
      have s1 := hgd 1 g1 rfl
      have s2 := hgd 2 g2 rfl
      simp [p0, p1, p2, d0, d1, d2] at s0 s1 s2
      obtain ⟨ys, k3, hk3, hys, _, hyl, hyd⟩ := DataW.trod_struct v2 s2
      match ys, hyl with
      | [t0, t1], _ =>
        have a0 := hyd 0 fa rfl
        have a1 := hyd 1 fb rfl
        simp [q0, q1, e0, e1] at a0 a1
        obtain ⟨n0, m0, _, _⟩ := DataW.trod_int u0 r0
        obtain ⟨n5, m5, _, _⟩ := DataW.trod_int u2 r2
        obtain ⟨n1, m1, _, j1⟩ := DataW.trod_int v0 s0
        obtain ⟨n2, m2, _, _⟩ := DataW.trod_int v1 s1
        obtain ⟨n3, m3, _, _⟩ := DataW.trod_int x0 a0
        obtain ⟨n4, m4, _, _⟩ := DataW.trod_int x1 a1
        simp only [List.cons.injEq, and_true] at m0 m1 m2 m3 m4 m5
        subst m0 m1 m2 m3 m4 m5
        have hb := Go.bounds_i64 j1
        exact ⟨⟨n0, ⟨n1, n2, n3, n4⟩, n5⟩, rfl, hb.1, hb.2⟩
end Go.Proofs.Ytggcbeoinmnopaa.Qu

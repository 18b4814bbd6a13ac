/- Two moments that are one compare as equal; a member passed by value. -/
import Derived.Test.YtjddoohlmgacjaaMoL
import Derived.Deep.SlicePairs
import Derived.Laws.StructEq
import Derived.Laws.Cover3
namespace Go.Proofs.Ytjddoohlmgacjaa.Mo
open Go.RowKit Go.Proofs.Ytjddoohlmgacjaa.Kit Go.Proofs.Ytjddoohlmgacjaa.Flo Go.IntWalk
set_option linter.unusedVariables false
set_option linter.unusedSimpArgs false
theorem run_equalIn_cx {P : Program} (w : World) (d : Nat) (t : TypeId) (a b a' b' : Nat) (h : P.underlying t = some (.complex .f64)) : (Op.equalIn (d + 1) t (.complex .f64 a b) (.complex .f64 a' b')).run P w = .ok (Op.floatEq .f64 a a' && Op.floatEq .f64 b b') w := by
  simp [Op.equalIn, run_underlying h]
theorem mo_eql (base W P : Int) (hW : small W) (hP : small P) (w : World) : (binOp .eql 27 (mo base W P) (mo base W P)).run Try.prog w = .ok (.bool true) w := by
  have q1 : (FloatKind.f64.format.order (fi W) (fi W) == some Ordering.eq) = true := by rw [order_fi W W hW hW]; simp
  have q2 : (FloatKind.f64.format.order (fi P) (fi P) == some Ordering.eq) = true := by rw [order_fi P P hP hP]; simp
  have u3 := Try.underlying3
  have a3 := Try.isAgg3
  have z3 := Try.sizeOf3
  have u4 := Try.underlying25
  have a4 := Try.isAgg25
  have z4 := Try.sizeOf25
  have hS : Try.prog.underlying 27 = some (.struct (Try.prog.fieldsOf 27)) := by kernel_rfl
  unfold mo
  rw [run_eql_struct, show (10000 : Nat) = 9999 + 1 from rfl, run_equalIn_agg w 9999 27 _ _ hS (by kernel_rfl)]
  simp only [Program.fieldsOf, Try.underlying27]
  go_simp
  rw [run_equalIn_cx _ _ _ _ _ _ _ u4]
  simp [Op.floatEq, q1, q2]
theorem cx_eql (x y : Int) (hx : small x) (hy : small y) (w : World) : (binOp .eql 25 (.complex .f64 (fi x) (fi y)) (.complex .f64 (fi x) (fi y))).run Try.prog w = .ok (.bool true) w := by
  have q1 : (FloatKind.f64.format.order (fi x) (fi x) == some Ordering.eq) = true := by rw [order_fi x x hx hx]; simp
  have q2 : (FloatKind.f64.format.order (fi y) (fi y) == some Ordering.eq) = true := by rw [order_fi y y hy hy]; simp
  rw [run_eql_complex, q1, q2]
  rfl
open Go.ChangeShapes Go.WideShapes Go.ChangeAt Go.Joins Go.Deep in
theorem open_one {H : Type} {enc : TypeId × Value → H} {P : Program} {W : World} {r : Reach} {b0 base : Nat} {spare : Nat → Bool} {held : Bool} {t : TypeId} {f0 f1 f2 : Field} {v : Value} {d : DataW H} {p : List MemPlace}
    (hs : P.underlying t = some (.struct #[f0, f1, f2])) (hone : oneCellFields P #[f0, f1, f2] = true) (hC : P.cellsOf t = 3) (h0 : P.underlying f0.type = some (.int .i32)) (h1 : P.underlying f1.type = some (.int .u32)) (h2 : P.underlying f2.type = some .bool)
    (hv : Value.okWide P W r b0 t v) (h : DataW.Trod enc P W base spare held t v d p) : ∃ o : One, v = o.val ∧ o.Wf := by
  obtain ⟨c0, c1, c2, y0, y1, y2, m, rfl, rfl, rfl, hy0, hy1, hy2⟩ := open_agg3 hs hone hC hv h
  obtain ⟨a, e0, _, wa⟩ := DataW.trod_int h0 hy0
  obtain ⟨b, e1, _, wb⟩ := DataW.trod_int h1 hy1
  obtain ⟨c, e2, _⟩ := DataW.trod_bool h2 hy2
  simp only [List.cons.injEq, and_true] at e0 e1 e2
  subst e0 e1 e2
  have ba := Go.bounds_i32 wa
  have bb := Go.bounds_u32 wb
  exact ⟨⟨a, b, c⟩, rfl, ⟨ba.1, ba.2, bb.1, bb.2⟩⟩
end Go.Proofs.Ytjddoohlmgacjaa.Mo

/- Items compared. -/
import Derived.Test.YtpgfenelckonoaaShS
import Derived.Laws.StructEq
namespace Go.Proofs.Ytpgfenelckonoaa.Sh
open Go.RowKit Go.Proofs.Ytpgfenelckonoaa.Kit Go.Proofs.Ytpgfenelckonoaa.ShM
set_option linter.unusedVariables false
set_option linter.unusedSimpArgs false
theorem it_eq (a b : It) : (a.key == b.key && a.id == b.id) = decide (a = b) := by
  cases a; cases b
  rw [Bool.eq_iff_iff]
  simp
theorem equalIn_item (a b : It) (w : World) : (Op.equalIn 10000 107 (.agg #[.int .i64 a.key, .int .i64 a.id]) (.agg #[.int .i64 b.key, .int .i64 b.id])).run Try.prog w = .ok (decide (a = b)) w := by
  have u3 := Try.underlying3
  have a3 := Try.isAgg3
  have z3 := Try.sizeOf3
  have hS : Try.prog.underlying 107 = some (.struct (Try.prog.fieldsOf 107)) := by kernel_rfl
  rw [show (10000 : Nat) = 9999 + 1 from rfl, run_equalIn_agg w 9999 107 _ _ hS (by kernel_rfl)]
  simp only [Program.fieldsOf, Try.underlying107]
  rw [← it_eq]
  go_simp
  by_cases h : a.key = b.key <;> by_cases h2 : a.id = b.id <;> simp [h, h2]
theorem eql_item (a b : It) (w : World) : (binOp .eql 107 (.agg #[.int .i64 a.key, .int .i64 a.id]) (.agg #[.int .i64 b.key, .int .i64 b.id])).run Try.prog w = .ok (.bool (decide (a = b))) w := by
  rw [run_eql_struct, equalIn_item]
  rfl
theorem neq_item (a b : It) (w : World) : (binOp .neq 107 (.agg #[.int .i64 a.key, .int .i64 a.id]) (.agg #[.int .i64 b.key, .int .i64 b.id])).run Try.prog w = .ok (.bool (!decide (a = b))) w := by
  rw [run_neq_struct, equalIn_item]
  rfl
end Go.Proofs.Ytpgfenelckonoaa.Sh

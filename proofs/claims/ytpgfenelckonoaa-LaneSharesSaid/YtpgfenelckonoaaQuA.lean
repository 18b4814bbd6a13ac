/- The walks of the small functions: pace's, and the queue's without memory of its own. -/
import Derived.Test.YtpgfenelckonoaaQuM
import Derived.Test.YtpgfenelckonoaaMapW
import Derived.Laws.Rows
namespace Go.Proofs.Ytpgfenelckonoaa.Qu
open Go.RowKit Go.Proofs.Ytpgfenelckonoaa.Kit Go.Proofs.Ytpgfenelckonoaa.ShM Go.Proofs.Ytpgfenelckonoaa.Sh Go.Proofs.Ytpgfenelckonoaa.QuM
set_option linter.unusedVariables false
set_option linter.unusedSimpArgs false
def mv (m : Mem) : Value := .agg #[.int .i64 m.wt, .int .i64 m.v, .int .i64 m.rem]
theorem held_id (x lo hi : Int) (w : World) (h1 : lo ≤ x) (h2 : x ≤ hi) :
    Calls Try.prog 72 #[.int .i64 x, .int .i64 lo, .int .i64 hi] w fun e w' => e = .returned (.int .i64 x) ∧ Below w.heap.size w w' := by
  have hb : Below w.heap.size w w := Below.refl _ _
  go_enter Try.func72, Try.ntmps72
  go_wp2
  all_goals
    go_ret
    first
      | exact ⟨rfl, hb⟩
      | (have e : lo = x := by omega
         subst e
         exact ⟨rfl, hb⟩)
      | (have e : hi = x := by omega
         subst e
         exact ⟨rfl, hb⟩)
theorem weighs_id (x : Int) (w : World) (h1 : 1 ≤ x) (h2 : x ≤ 1048576) :
    Calls Try.prog 69 #[.int .i64 x] w fun e w' => e = .returned (.int .i64 x) ∧ Below w.heap.size w w' := by
  have H := Kit.hid (held_id x 1 1048576 w h1 h2)
  go_enter Try.func69, Try.ntmps69
  go_wp2_with fail
  (with_reducible refine H.out.mono ?_); rintro e w1 ⟨rfl, hb⟩
  go_wp2
  go_ret
  exact ⟨rfl, hb⟩
theorem fits_any (x : Int) (w : World) :
    Calls Try.prog 65 #[.int .i64 x] w fun e w' => e = .returned (.bool (decide (1 ≤ x ∧ x ≤ 1048576))) ∧ Below w.heap.size w w' := by
  have hb : Below w.heap.size w w := Below.refl _ _
  by_cases h1 : 1 ≤ x
  · by_cases h2 : x ≤ 1048576
    · have g1 : decide (1 ≤ x) = true := decide_eq_true h1
      have g2 : decide (x ≤ 1048576) = true := decide_eq_true h2
      rw [decide_eq_true (show 1 ≤ x ∧ x ≤ 1048576 from ⟨h1, h2⟩)]
      go_enter Try.func65, Try.ntmps65
      go_wp2
      go_ret
      exact ⟨rfl, hb⟩
    · have g1 : decide (1 ≤ x) = true := decide_eq_true h1
      have g2 : decide (x ≤ 1048576) = false := decide_eq_false h2
      rw [decide_eq_false (show ¬ (1 ≤ x ∧ x ≤ 1048576) from fun h => h2 h.2)]
      go_enter Try.func65, Try.ntmps65
      go_wp2
      go_ret
      exact ⟨rfl, hb⟩
  · have g1 : decide (1 ≤ x) = false := decide_eq_false h1
    rw [decide_eq_false (show ¬ (1 ≤ x ∧ x ≤ 1048576) from fun h => h1 h.1)]
    go_enter Try.func65, Try.ntmps65
    go_wp2
    go_ret
    exact ⟨rfl, hb⟩
theorem item_any (m : Mem) (w : World) :
    Calls Try.prog 68 #[.int .i64 m.id, mv m] w fun e w' => e = .returned (.agg #[.int .i64 m.v, .int .i64 m.id]) ∧ Below w.heap.size w w' := by
  unfold mv
  have hb : Below w.heap.size w ((w.alloc (.cells #[.int .i64 m.wt, .int .i64 m.v, .int .i64 m.rem] 99)).alloc (.cells #[.int .i64 m.v, .int .i64 m.id] 107)) := ((Below.refl _ w).alloc (Nat.le_refl _) _).alloc (by simp) _
  go_enter Try.func68, Try.ntmps68
  go_wp2
  exact bodyPost_ret (results_cell_row rfl _ _ (w.heap.size + 1) 107 #[.int .i64 m.v, .int .i64 m.id] (0, 0) _ rfl (by have := blk_new (w.alloc (.cells #[.int .i64 m.wt, .int .i64 m.v, .int .i64 m.rem] 99)) (.cells #[.int .i64 m.v, .int .i64 m.id] 107); simpa using this) Try.underlying107 rfl (by kernel_rfl)) rfl ⟨rfl, hb⟩
/-- Whether a pace can be. -/
def right (v rem wt : Int) : Bool := decide (0 ≤ v ∧ v ≤ 2305843009213693952 ∧ 0 ≤ rem ∧ rem < wt)
end Go.Proofs.Ytpgfenelckonoaa.Qu

/- The walk of New. -/
import Derived.Test.YtpgfenelckonoaaShL
namespace Go.Proofs.Ytpgfenelckonoaa.Sh
open Go.RowKit Go.Proofs.Ytpgfenelckonoaa.Kit Go.Proofs.Ytpgfenelckonoaa.ShM
set_option linter.unusedVariables false
set_option linter.unusedSimpArgs false
theorem new_shelf {w0 w : World} {S0 : Nat → Prop} (hk : Kept S0 w0 w) :
    Shelf w0 S0 ((w.alloc (.cells #[.int .i64 0, .int .i64 0, .int .i64 0, .int .i64 0, .int .i64 0, .int .i64 0] 124)).alloc (.cells #[.slice (some ⟨w.heap.size, 0, none⟩) 1 1, .int .i64 0, .slice none 0 0] 122)) (w.heap.size + 1) .nil 1 := by
  refine ⟨w.heap.size, 1, .slice none 0 0, [zeroN], [], ⟨⟨?_, ?_, World.ownsRow_nil _ _ _ _, by omega, by simp [Value.ownBlock], by simp [Value.ownBlock], .inr (Nat.le_succ_of_le hk.size), .inr hk.size, fun k h => by simp [Value.ownBlock] at h, (hk.alloc _).alloc _⟩, rfl, Fit.nil _, ⟨List.nodup_nil, fun k h => (by cases h), fun k h => (by cases h)⟩, Nat.le_refl _⟩⟩
  · have := blk_new (w.alloc (.cells #[.int .i64 0, .int .i64 0, .int .i64 0, .int .i64 0, .int .i64 0, .int .i64 0] 124)) (.cells #[.slice (some ⟨w.heap.size, 0, none⟩) 1 1, .int .i64 0, .slice none 0 0] 122)
    rw [World.size_alloc] at this
    exact this
  · exact World.ownsRow.alloc (World.ownsRow_lit (base := 0) (e := 124) (size := 6) w #[.int .i64 0, .int .i64 0, .int .i64 0, .int .i64 0, .int .i64 0, .int .i64 0] 1 (Nat.zero_le _) (by decide) rfl) _
theorem new_any {w0 w : World} {S0 : Nat → Prop} (hk : Kept S0 w0 w) :
    Calls Try.prog 73 #[] w fun e w' => ∃ g, e = .returned (.pointer (some ⟨g, 0, none⟩)) ∧ w.heap.size ≤ g ∧ Shelf w0 S0 w' g .nil 1 ∧ Below w.heap.size w w' := by
  have HK := Kit.hid hk
  clear hk
  have hmk : ∀ w : World, (Instr.makeSlice 120 (.int .i64 1) (.int .i64 1)).run Try.prog w = .ok (.slice (some ⟨w.heap.size, 0, none⟩) 1 1) (w.alloc (.cells #[.int .i64 0, .int .i64 0, .int .i64 0, .int .i64 0, .int .i64 0, .int .i64 0] 124)) := fun _ => by kernel_rfl
  go_enter Try.func73, Try.ntmps73
  go_wp2
  go_ret
  exact ⟨w.heap.size + 1, rfl, Nat.le_succ _, new_shelf HK.out, ((Below.refl _ w).alloc (Nat.le_refl _) _).alloc (by simp) _⟩
end Go.Proofs.Ytpgfenelckonoaa.Sh

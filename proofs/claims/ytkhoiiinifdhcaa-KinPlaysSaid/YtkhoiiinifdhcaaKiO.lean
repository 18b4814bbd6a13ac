/- What the laws of kin that change a tree have in common. -/
import Derived.Test.YtkhoiiinifdhcaaKiL
namespace Go.Proofs.Ytkhoiiinifdhcaa.Ki
open Go.RowKit Go.Proofs.Ytkhoiiinifdhcaa.Kit Go.Proofs.Ytkhoiiinifdhcaa.KiM
set_option linter.unusedVariables false
set_option linter.unusedSimpArgs false
theorem Row.kp {B n : Nat} {w w' : World} {p mb : Nat} {T : Tr} {v : Value} {l : List Int} (h : Row B w v l) (hk : KT w p mb T n) (k : Kp mb w w') : Row B w' v l := by
  obtain ⟨es, clock, hb, _⟩ := hk.1.obj
  exact h.same fun g hg => k.block g (h.own_lt g hg).2 (row_ne h hb g hg)
section
variable {W w : World} {p mb n : Nat} {T : Tr}
theorem kt_move (h : Kt W w p mb T n) (hn : n ≤ 4000) (id to : Int) (hi : -9223372036854775808 ≤ id ∧ id ≤ 9223372036854775807) (ht : -9223372036854775808 ≤ to ∧ to ≤ 9223372036854775807) :
    Calls Try.prog 12 #[.pointer (some ⟨p, 0, none⟩), .int .i64 id, .int .i64 to] w fun e w' => e = .returned (.int .i64 (moveR T id to).1) ∧ Kt W w' p mb (moveR T id to).2 (n + 3) ∧ ∀ B v l, Row B w v l → Row B w' v l :=
  (move_any h.1 hn id to hi.1 hi.2 ht.1 ht.2).mono fun e w' g => ⟨g.1, h.step g.2.1 g.2.2, fun B v l hr => hr.kp h.1 g.2.2⟩
theorem kt_add (h : Kt W w p mb T n) (hn : n ≤ 4000) (id to : Int) (hi : -9223372036854775808 ≤ id ∧ id ≤ 9223372036854775807) (ht : -9223372036854775808 ≤ to ∧ to ≤ 9223372036854775807) :
    Calls Try.prog 11 #[.pointer (some ⟨p, 0, none⟩), .int .i64 id, .int .i64 to] w fun e w' => e = .returned (.int .i64 (addR T id to).1) ∧ Kt W w' p mb (addR T id to).2 (n + 2) ∧ ∀ B v l, Row B w v l → Row B w' v l :=
  (add_any h.1 hn id to hi.1 hi.2 ht.1 ht.2).mono fun e w' g => ⟨g.1, h.step g.2.1 g.2.2, fun B v l hr => hr.kp h.1 g.2.2⟩
end
end Go.Proofs.Ytkhoiiinifdhcaa.Ki

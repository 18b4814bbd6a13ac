/- What the laws of kin have in common: a tree laid behind a world, and the contracts of what is told of it. -/
import Derived.Test.YtkhoiiinifdhcaaKiH
namespace Go.Proofs.Ytkhoiiinifdhcaa.KiM
theorem WF.fits {T : Tr} (h : WF T) {x : Int} (hx : has T x = true) : -9223372036854775808 ≤ x ∧ x ≤ 9223372036854775807 := by
  rcases has_iff.1 hx with rfl | ⟨q, hq⟩
  · omega
  · have := h.pos hq; omega
theorem has_zero (T : Tr) : has T 0 = true := by simp [has]
theorem WF.all_mem {T : Tr} (h : WF T) {x : Int} : x ∈ under T 0 ↔ has T x = true := by
  rw [h.mem_under (has_zero T)]
  simp
theorem WF.all_head {T : Tr} (h : WF T) : ∃ l, under T 0 = 0 :: l := ⟨_, h.under_eq (has_zero T)⟩
end Go.Proofs.Ytkhoiiinifdhcaa.KiM
namespace Go.Proofs.Ytkhoiiinifdhcaa.Ki
open Go.RowKit Go.Proofs.Ytkhoiiinifdhcaa.Kit Go.Proofs.Ytkhoiiinifdhcaa.KiM
set_option linter.unusedVariables false
set_option linter.unusedSimpArgs false
theorem row_at {B : Nat} {w : World} {A : Option Addr} {k c i : Nat} {l : List Int} {x : Int} (h : Row B w (.slice A k c) l) (hi : l[i]? = some x) : ∃ ad, A = some ad ∧ w.cell? (ad.add i) = some (.int .i64 x) := by
  obtain ⟨A', c', e, hc, _⟩ := h.reads
  cases e
  exact cells_at hc hi
/-- A call that tells a row, and keeps a tree. -/
def RowPost (W : World) (p mb : Nat) (T : Tr) (n : Nat) (l : List Int) (w : World) (e : Ending) (w' : World) : Prop :=
  ∃ A c, e = .returned (.slice A l.length c) ∧ Row 0 w' (.slice A l.length c) l ∧ Kt W w' p mb T n ∧ Below w.heap.size w w'
theorem rowPost {W w : World} {p mb n f : Nat} {T : Tr} {l : List Int} {args : Array Value} (h : Kt W w p mb T n)
    (H : Calls Try.prog f args w fun e w' => ∃ v, e = .returned v ∧ Row w.heap.size w' v l ∧ Below w.heap.size w w') : Calls Try.prog f args w (RowPost W p mb T n l w) :=
  H.mono fun e w' g => by
    obtain ⟨v, rfl, hv, hb⟩ := g
    obtain ⟨A, c, rfl, _⟩ := hv.reads
    exact ⟨A, c, rfl, hv.mono (Nat.zero_le _), h.below hb, hb⟩
section
variable {W w : World} {p mb n : Nat} {T : Tr}
theorem kt_under (h : Kt W w p mb T n) (x : Int) (hx : -9223372036854775808 ≤ x ∧ x ≤ 9223372036854775807) :
    Calls Try.prog 19 #[.pointer (some ⟨p, 0, none⟩), .int .i64 x] w (RowPost W p mb T n (under T x) w) := rowPost h (under_any h.1 x hx.1 hx.2)
theorem kt_path (h : Kt W w p mb T n) (x : Int) (hx : -9223372036854775808 ≤ x ∧ x ≤ 9223372036854775807) :
    Calls Try.prog 28 #[.pointer (some ⟨p, 0, none⟩), .int .i64 x] w (RowPost W p mb T n (path T x) w) := rowPost h (path_any h.1 x hx.1 hx.2)
theorem kt_kidsR (h : Kt W w p mb T n) (x : Int) (hx : -9223372036854775808 ≤ x ∧ x ≤ 9223372036854775807) :
    Calls Try.prog 26 #[.pointer (some ⟨p, 0, none⟩), .int .i64 x] w (RowPost W p mb T n (kids T x) w) := rowPost h (kt_kids h.1 x hx.1 hx.2)
end
end Go.Proofs.Ytkhoiiinifdhcaa.Ki

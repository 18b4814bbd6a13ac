/- Rows of members, flat in memory: as owned rows and as what a call reads. -/
import Derived.Test.YtjddoohlmgacjaaOwnS
import Derived.Test.YtjddoohlmgacjaaMoR
namespace Go.Proofs.Ytjddoohlmgacjaa.Mo
open Go.RowKit Go.Proofs.Ytjddoohlmgacjaa.Kit Go.Proofs.Ytjddoohlmgacjaa.Flo Go.IntWalk
set_option linter.unusedVariables false
set_option linter.unusedSimpArgs false
def flat : List One → List Value
  | [] => []
  | o :: l => .int .i32 o.b :: .int .u32 o.w :: .bool o.out :: flat l
theorem flat_length : ∀ l : List One, (flat l).length = l.length * 3
  | [] => rfl
  | o :: l => by simp only [flat, List.length_cons, flat_length l]; omega
theorem flat_append : ∀ l k : List One, flat (l ++ k) = flat l ++ flat k
  | [], _ => rfl
  | o :: l, k => by simp only [List.cons_append, flat, flat_append l k]
theorem flat_one : ∀ (l : List One), ∀ u ∈ flat l, u.oneCell' = true
  | [], u, h => by cases h
  | o :: l, u, h => by
    simp only [flat, List.mem_cons] at h
    rcases h with rfl | rfl | rfl | h
    · rfl
    · rfl
    · rfl
    · exact flat_one l u h
theorem flat_get : ∀ (l : List One) (i : Nat) (h : i < l.length), (flat l)[i * 3]? = some (.int .i32 l[i].b) ∧ (flat l)[i * 3 + 1]? = some (.int .u32 l[i].w) ∧ (flat l)[i * 3 + 2]? = some (.bool l[i].out)
  | [], i, h => absurd h (Nat.not_lt_zero _)
  | o :: l, 0, h => ⟨rfl, rfl, rfl⟩
  | o :: l, i + 1, h => by
    have := flat_get l i (by simpa using h)
    rw [Nat.succ_mul]
    exact this
theorem ones_of_cells {w : World} {A : Option Addr} {l : List One} (h : Cells w A (flat l)) : Hid (Ones w A l) := by
  intro i hi
  have hl := flat_length l
  obtain ⟨g0, g1, g2⟩ := flat_get l i hi
  obtain ⟨ad, rfl, c0⟩ := h (i * 3) (by omega)
  obtain ⟨ad1, e1, c1⟩ := h (i * 3 + 1) (by omega)
  obtain ⟨ad2, e2, c2⟩ := h (i * 3 + 2) (by omega)
  cases e1
  cases e2
  rw [List.getElem?_eq_getElem (by omega)] at g0 g1 g2
  exact ⟨ad, rfl, c0.trans g0, c1.trans g1, c2.trans g2⟩
theorem cells_of_ones {w : World} {A : Option Addr} {l : List One} (h : Hid (Ones w A l)) : Cells w A (flat l) := by
  intro j hj
  have hl := flat_length l
  obtain ⟨i, r, rfl, hr⟩ : ∃ i r, j = i * 3 + r ∧ r < 3 := ⟨j / 3, j % 3, by omega, by omega⟩
  have hi : i < l.length := by omega
  obtain ⟨g0, g1, g2⟩ := flat_get l i hi
  obtain ⟨ad, rfl, c0, c1, c2⟩ := h.out i hi
  refine ⟨ad, rfl, ?_⟩
  have e := List.getElem?_eq_getElem hj
  match r, hr with
  | 0, _ => exact c0.trans (g0.symm.trans e)
  | 1, _ => exact c1.trans (g1.symm.trans e)
  | 2, _ => exact c2.trans (g2.symm.trans e)
end Go.Proofs.Ytjddoohlmgacjaa.Mo

/- What the laws of kin have in common: a tree laid behind a world, and the contracts of what is told of it. -/
import Derived.Test.YtkhoiiinifdhcaaKiH
namespace Go.Proofs.Ytkhoiiinifdhcaa.KiM
theorem WF.fits {T : Tr} (h : WF T) {x : Int} (hx : has T x = true) : -9223372036854775808 ≤ x ∧ x ≤ 9223372036854775807 := by
  rcases has_iff.1 hx with rfl | ⟨q, hq⟩
  · omega
  · have := h.pos hq; omega
theorem has_zero (T : Tr) : has T 0 = true := by simp [has]
theorem WF.all_mem {T : Tr} (h : WF T) {x : Int} : x ∈ under T 0 ↔ has T x = true := by
  rw [h.mem_under (has_zero T)]
  simp
theorem WF.all_head {T : Tr} (h : WF T) : ∃ l, under T 0 = 0 :: l := ⟨_, h.under_eq (has_zero T)⟩
theorem nodup_take {l : List Int} (h : l.Nodup) {k : Nat} {q : Int} (hq : l[k]? = some q) : q ∉ l.take k := fun hm => by
  obtain ⟨j, hj⟩ := List.getElem?_of_mem hm
  rw [List.getElem?_take] at hj
  split at hj
  · rename_i hjk
    have h1 : j < l.length := (List.getElem?_eq_some_iff.1 hj).1
    have := (List.getElem?_inj h1 h).1 (hj.trans hq.symm)
    omega
  · cases hj
theorem is_next {T : Tr} : ∀ {l : List Int} {x : Int}, IsPath T x l → ∀ {k : Nat} {q : Int}, l[k]? = some q → get T q = some ((l[k + 1]?).getD 0)
  | [], _, _, k, q, hq => by cases hq
  | y :: l, x, h, 0, q, hq => by
    obtain ⟨rfl, _, p, hp, hl⟩ := h
    obtain rfl : y = q := by simpa using hq
    rw [hp]
    cases l with
    | nil => have hl : p = 0 := hl; subst hl; rfl
    | cons z l => have hl : z = p := hl.1; subst hl; rfl
  | y :: l, x, h, k + 1, q, hq => by
    obtain ⟨rfl, _, p, hp, hl⟩ := h
    have := is_next hl (k := k) (q := q) (by simpa using hq)
    simpa using this
theorem WF.path_next {T : Tr} (h : WF T) {x : Int} (hx : has T x = true) {k : Nat} {q u : Int} (hq : (path T x)[k]? = some q) (hu : u = ((path T x)[k + 1]?).getD 0) :
    parent T q = u ∧ has T q = true ∧ has T u = true ∧ q ∈ kids T u ∧ q ∉ (path T x).take k := by
  have hg := is_next (h.is_path hx).1 hq
  rw [← hu] at hg
  refine ⟨by unfold parent; rw [hg]; rfl, has_iff.2 (.inr ⟨_, hg⟩), (h.path_cons hg).2, (mem_kids h.rises).2 hg, nodup_take (h.nodup_path hx) hq⟩
theorem WF.path_empty {T : Tr} (h : WF T) {x : Int} (hx : has T x = true) : path T x = [] ↔ x = 0 := by
  constructor
  · intro e
    by_cases h0 : x = 0
    · exact h0
    · have := h.path_head hx h0
      rw [e] at this
      cases this
  · rintro rfl
    exact h.path_zero
theorem kids_len {T : Tr} (x : Int) : (kids T x).length ≤ T.length := by
  unfold kids
  rw [List.length_map]
  exact List.length_filter_le _ _
end Go.Proofs.Ytkhoiiinifdhcaa.KiM
namespace Go.Proofs.Ytkhoiiinifdhcaa.Ki
open Go.RowKit Go.Proofs.Ytkhoiiinifdhcaa.Kit Go.Proofs.Ytkhoiiinifdhcaa.KiM
set_option linter.unusedVariables false
set_option linter.unusedSimpArgs false
theorem row_at {B : Nat} {w : World} {A : Option Addr} {k c i : Nat} {l : List Int} {x : Int} (h : Row B w (.slice A k c) l) (hi : l[i]? = some x) : ∃ ad, A = some ad ∧ w.cell? (ad.add i) = some (.int .i64 x) := by
  obtain ⟨A', c', e, hc, _⟩ := h.reads
  cases e
  exact cells_at hc hi
theorem cells_of_row {B : Nat} {w : World} {A : Option Addr} {k c : Nat} {l : List Int} (h : Row B w (.slice A k c) l) : k = l.length ∧ l.length ≤ c ∧ c ≤ maxLen := by
  rcases h.form with ⟨e, rfl⟩ | ⟨g, c', cur, e, _, _, h1, h2, _⟩
  · cases e
    exact ⟨rfl, Nat.le_refl _, by unfold maxLen; omega⟩
  · cases e
    exact ⟨rfl, h1, h2⟩
/-- A call that tells a row, and keeps a tree. -/
def RowPost (W : World) (p mb : Nat) (T : Tr) (n : Nat) (l : List Int) (w : World) (e : Ending) (w' : World) : Prop :=
  ∃ A c, e = .returned (.slice A l.length c) ∧ Row 0 w' (.slice A l.length c) l ∧ Kt W w' p mb T n ∧ Below w.heap.size w w'
theorem rowPost {W w : World} {p mb n f : Nat} {T : Tr} {l : List Int} {args : Array Value} (h : Kt W w p mb T n)
    (H : Calls Try.prog f args w fun e w' => ∃ v, e = .returned v ∧ Row w.heap.size w' v l ∧ Below w.heap.size w w') : Calls Try.prog f args w (RowPost W p mb T n l w) :=
  H.mono fun e w' g => by
    obtain ⟨v, rfl, hv, hb⟩ := g
    obtain ⟨A, c, rfl, _⟩ := hv.reads
    exact ⟨A, c, rfl, hv.mono (Nat.zero_le _), h.below hb, hb⟩
section
variable {W w : World} {p mb n : Nat} {T : Tr}
theorem kt_under (h : Kt W w p mb T n) (x : Int) (hx : -9223372036854775808 ≤ x ∧ x ≤ 9223372036854775807) :
    Calls Try.prog 19 #[.pointer (some ⟨p, 0, none⟩), .int .i64 x] w (RowPost W p mb T n (under T x) w) := rowPost h (under_any h.1 x hx.1 hx.2)
theorem kt_path (h : Kt W w p mb T n) (x : Int) (hx : -9223372036854775808 ≤ x ∧ x ≤ 9223372036854775807) :
    Calls Try.prog 28 #[.pointer (some ⟨p, 0, none⟩), .int .i64 x] w (RowPost W p mb T n (path T x) w) := rowPost h (path_any h.1 x hx.1 hx.2)
theorem kt_kidsR (h : Kt W w p mb T n) (x : Int) (hx : -9223372036854775808 ≤ x ∧ x ≤ 9223372036854775807) :
    Calls Try.prog 26 #[.pointer (some ⟨p, 0, none⟩), .int .i64 x] w (RowPost W p mb T n (kids T x) w) := rowPost h (kt_kids h.1 x hx.1 hx.2)
end
end Go.Proofs.Ytkhoiiinifdhcaa.Ki

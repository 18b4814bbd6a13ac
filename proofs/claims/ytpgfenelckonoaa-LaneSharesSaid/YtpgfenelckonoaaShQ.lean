/- A shelf as its items in order: what each of its functions does to them. -/
import Derived.Test.YtpgfenelckonoaaShO
import Derived.Test.YtpgfenelckonoaaShP
namespace Go.Proofs.Ytpgfenelckonoaa.ShM
set_option linter.unusedVariables false
set_option linter.unusedSimpArgs false
def putL (x : It) (l : List It) : List It := if x ∈ l then l else insL x l
def dropL (x : It) (l : List It) : List It := l.filter fun y => decide (y ≠ x)
theorem dropL_none {x : It} {l : List It} (h : x ∉ l) : dropL x l = l := filter_all fun a ha => by
  rw [decide_eq_true_eq]
  intro e
  exact h (by rw [← e]; exact ha)
theorem putL_rises {x : It} {l : List It} (h : Rises l) : Rises (putL x l) := by
  unfold putL
  split
  · exact h
  · rename_i hx; exact insL_rises x l h hx
theorem atT_items : ∀ (t : T) (i : Nat) (h : i < t.items.length), atT t i = t.items[i]
  | .nil, i, h => absurd h (Nat.not_lt_zero _)
  | .node k x l r, i, h => by
    have hl := T.many_items l
    simp only [atT, T.items]
    simp only [T.items, List.length_append, List.length_cons] at h
    by_cases h1 : i = l.many
    · rw [if_pos h1, List.getElem_append_right (by omega)]
      simp [h1, hl]
    · rw [if_neg h1]
      by_cases h2 : i < l.many
      · rw [if_pos h2, List.getElem_append_left (by omega), atT_items l i (by omega)]
      · rw [if_neg h2, List.getElem_append_right (by omega), atT_items r (i - (l.many + 1)) (by omega), List.getElem_cons]
        rw [dif_neg (by omega)]
        congr 1
        omega
end Go.Proofs.Ytpgfenelckonoaa.ShM
namespace Go.Proofs.Ytpgfenelckonoaa.Sh
open Go.RowKit Go.Proofs.Ytpgfenelckonoaa.Kit Go.Proofs.Ytpgfenelckonoaa.ShM
set_option linter.unusedVariables false
set_option linter.unusedSimpArgs false
/-- A shelf that has these items. -/
def Items (w0 : World) (S0 : Nat → Prop) (w : World) (p : Nat) (l : List It) (n : Nat) : Prop := ∃ t, Shelf w0 S0 w p t n ∧ t.items = l ∧ Rises l ∧ Even t
section
variable {w0 w w' : World} {S0 : Nat → Prop} {p n : Nat} {l : List It}
theorem Items.below (h : Items w0 S0 w p l n) (hb : Below w.heap.size w w') : Items w0 S0 w' p l n := by
  obtain ⟨t, h1, h2⟩ := h
  exact ⟨t, h1.below hb, h2⟩
theorem Items.kept (h : Items w0 S0 w p l n) : Kept S0 w0 w := by
  obtain ⟨t, h1, h2⟩ := h
  exact h1.kept
theorem Items.rises (h : Items w0 S0 w p l n) : Rises l := by
  obtain ⟨t, _, _, h, _⟩ := h
  exact h
theorem Shelf.pos {t : T} (h : Shelf w0 S0 w p t n) : ∀ i ∈ t.idx, 0 < i := by
  obtain ⟨gl, cl, vf, L, F, h⟩ := h
  exact h.fit.pos
theorem Shelf.many_le {t : T} (h : Shelf w0 S0 w p t n) : t.many ≤ n := by
  obtain ⟨gl, cl, vf, L, F, h⟩ := h
  exact Nat.le_trans h.fit.many_lt h.len
theorem Shelf.more {t : T} {m : Nat} (h : Shelf w0 S0 w p t n) (hm : n ≤ m) : Shelf w0 S0 w p t m := by
  obtain ⟨gl, cl, vf, L, F, h⟩ := h
  exact ⟨gl, cl, vf, L, F, h.sh, h.zero, h.fit, h.free, Nat.le_trans h.len hm⟩
theorem Items.more {m : Nat} (h : Items w0 S0 w p l n) (hm : n ≤ m) : Items w0 S0 w p l m := by
  obtain ⟨t, h1, h2⟩ := h
  exact ⟨t, h1.more hm, h2⟩
theorem Items.length (h : Items w0 S0 w p l n) : l.length ≤ n := by
  obtain ⟨t, h1, h2, _⟩ := h
  rw [← h2, T.many_items]
  exact h1.many_le
theorem items_new (hk : Kept S0 w0 w) :
    Calls Try.prog 73 #[] w fun e w' => ∃ g, e = .returned (.pointer (some ⟨g, 0, none⟩)) ∧ w.heap.size ≤ g ∧ Items w0 S0 w' g [] 1 ∧ Below w.heap.size w w' := by
  refine (new_any hk).mono ?_
  rintro e w' ⟨g, h1, h2, h3, h4⟩
  exact ⟨g, h1, h2, ⟨.nil, h3, rfl, List.Pairwise.nil, trivial⟩, h4⟩
theorem items_put (x : It) (h : Items w0 S0 w p l n) (hn : n ≤ 549755813888) :
    Calls Try.prog 74 #[.pointer (some ⟨p, 0, none⟩), .agg #[.int .i64 x.key, .int .i64 x.id]] w fun e w' => e = .returned (.bool (decide (x ∉ l))) ∧ Items w0 S0 w' p (putL x l) (n + 1) := by
  obtain ⟨t, hs, rfl, hr, he⟩ := h
  have hf := (findT_spec x t 0 hr hs.pos).1
  by_cases hx : x ∈ t.items
  · have h0 : ¬ (findT x t 0).1 = 0 := fun e => hf.1 e hx
    refine (put_old x hs hn (by omega)).mono ?_
    rintro e w' ⟨h1, h2⟩
    refine ⟨by rw [h1, decide_eq_false (fun n => n hx)], ?_⟩
    rw [putL, if_pos hx]
    exact ⟨t, (hs.below h2).more (Nat.le_succ _), rfl, hr, he⟩
  · refine (put_new x hs hn (hf.2 hx)).mono ?_
    rintro e w' ⟨h1, k, h2⟩
    refine ⟨by rw [h1, decide_eq_true hx], ?_⟩
    rw [putL, if_neg hx]
    have hp := putT_items k x t hr hx
    exact ⟨putT k x t, h2, hp, insL_rises x _ hr hx, (putT_even k x t he).1⟩
theorem items_drop (x : It) (h : Items w0 S0 w p l n) (hn : n ≤ 549755813888) :
    Calls Try.prog 67 #[.pointer (some ⟨p, 0, none⟩), .agg #[.int .i64 x.key, .int .i64 x.id]] w fun e w' => e = .returned (.bool (decide (x ∈ l))) ∧ Items w0 S0 w' p (dropL x l) n := by
  obtain ⟨t, hs, rfl, hr, he⟩ := h
  have hf := (findT_spec x t 0 hr hs.pos).1
  by_cases hx : x ∈ t.items
  · have h0 : ¬ (findT x t 0).1 = 0 := fun e => hf.1 e hx
    refine (drop_old x hs hn (by omega) (hits_of_mem x t hr hx)).mono ?_
    rintro e w' ⟨h1, h2⟩
    refine ⟨by rw [h1, decide_eq_true hx], ?_⟩
    exact ⟨dropT x t, h2, dropT_items x t hr hx, filter_rises hr _, (dropT_even x t he).1⟩
  · refine (drop_none x hs hn (hf.2 hx)).mono ?_
    rintro e w' ⟨h1, h2⟩
    refine ⟨by rw [h1, decide_eq_false hx], ?_⟩
    rw [dropL_none hx]
    exact ⟨t, hs.below h2, rfl, hr, he⟩
theorem items_has (x : It) (h : Items w0 S0 w p l n) (hn : n ≤ 549755813888) :
    Calls Try.prog 78 #[.pointer (some ⟨p, 0, none⟩), .agg #[.int .i64 x.key, .int .i64 x.id]] w fun e w' => e = .returned (.bool (decide (x ∈ l))) ∧ Below w.heap.size w w' := by
  obtain ⟨t, hs, rfl, hr, he⟩ := h
  have hf := (findT_spec x t 0 hr hs.pos).1
  refine (has_any x hs hn).mono ?_
  rintro e w' ⟨h1, h2⟩
  refine ⟨?_, h2⟩
  rw [h1]
  congr 2
  apply decide_eq_decide.2
  constructor
  · exact fun h => Classical.byContradiction fun hx => by have := hf.2 hx; omega
  · exact fun hx => Nat.pos_of_ne_zero fun e => hf.1 e hx
theorem items_len (h : Items w0 S0 w p l n) :
    Calls Try.prog 75 #[.pointer (some ⟨p, 0, none⟩)] w fun e w' => e = .returned (.int .i64 (l.length : Int)) ∧ ∃ m, w' = w.drewN m := by
  obtain ⟨t, hs, rfl, hr, he⟩ := h
  rw [T.many_items]
  exact len_any hs
theorem items_at (i : Nat) (x : It) (h : Items w0 S0 w p l n) (hn : n ≤ 549755813888) (hi : l[i]? = some x) :
    Calls Try.prog 60 #[.pointer (some ⟨p, 0, none⟩), .int .i64 (i : Int)] w (AtPost w x true) := by
  obtain ⟨t, hs, rfl, hr, he⟩ := h
  obtain ⟨h1, h2⟩ := List.getElem?_eq_some_iff.1 hi
  have := at_in i hs hn (by rw [← T.many_items]; exact h1)
  rw [atT_items t i h1, h2] at this
  exact this
theorem items_at_out (i : Int) (h : Items w0 S0 w p l n) (hn : n ≤ 549755813888) (hi : i < 0 ∨ (l.length : Int) ≤ i) :
    Calls Try.prog 60 #[.pointer (some ⟨p, 0, none⟩), .int .i64 i] w (AtPost w ⟨0, 0⟩ false) := by
  obtain ⟨t, hs, rfl, hr, he⟩ := h
  rw [T.many_items] at hi
  exact at_out i hs hn hi
end
end Go.Proofs.Ytpgfenelckonoaa.Sh

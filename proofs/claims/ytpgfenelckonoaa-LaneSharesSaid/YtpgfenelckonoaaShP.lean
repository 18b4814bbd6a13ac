/- The plain law of shelves, the end: items in order, and trees that are even. -/
import Derived.Test.YtpgfenelckonoaaShN
namespace Go.Proofs.Ytpgfenelckonoaa.ShM
set_option linter.unusedVariables false
set_option linter.unusedSimpArgs false
theorem less_iff (a b : It) : less a b = true ↔ a.key < b.key ∨ (a.key = b.key ∧ a.id < b.id) := by
  simp [less]
theorem less_irrefl (a : It) : less a a = false := by
  rw [Bool.eq_false_iff]; intro h
  rw [less_iff] at h; omega
theorem less_trans {a b c : It} (h1 : less a b = true) (h2 : less b c = true) : less a c = true := by
  rw [less_iff] at *; omega
theorem less_asymm {a b : It} (h : less a b = true) : less b a = false := by
  rw [Bool.eq_false_iff]; intro h2
  rw [less_iff] at *; omega
theorem less_total {a b : It} (h1 : less a b = false) (h2 : less b a = false) : a = b := by
  rw [Bool.eq_false_iff] at h1 h2
  have h1' : ¬ (a.key < b.key ∨ (a.key = b.key ∧ a.id < b.id)) := fun h => h1 ((less_iff a b).2 h)
  have h2' : ¬ (b.key < a.key ∨ (b.key = a.key ∧ b.id < a.id)) := fun h => h2 ((less_iff b a).2 h)
  cases a; cases b
  simp only [It.mk.injEq]
  simp only at h1' h2'
  omega
theorem less_ne {a b : It} (h : less a b = true) : a ≠ b := fun e => by rw [e, less_irrefl] at h; cases h
/-- Items in order, none twice. -/
def Rises (l : List It) : Prop := l.Pairwise fun a b => less a b = true
/-! ### what the turns do to the items -/
theorem upT_items (t : T) : (upT t).items = t.items := by
  cases t with
  | nil => rfl
  | node i x l r =>
    cases l with
    | nil => rfl
    | node a y ll lr => simp [upT, T.items]
theorem downT_items (t : T) : (downT t).items = t.items := by
  cases t with
  | nil => rfl
  | node i x l r =>
    cases r with
    | nil => rfl
    | node a y rl rr => simp [downT, T.items]
theorem node_items {i : Nat} {x : It} {l l' r r' : T} (hl : l'.items = l.items) (hr : r'.items = r.items) : (T.node i x l' r').items = (T.node i x l r).items := by
  simp [T.items, hl, hr]
theorem evenT_items (t : T) : (evenT t).items = t.items := by
  cases t with
  | nil => rfl
  | node i x l r =>
    simp only [evenT]
    split
    · refine (upT_items _).trans (node_items ?_ rfl)
      split
      · exact downT_items l
      · rfl
    · split
      · refine (downT_items _).trans (node_items rfl ?_)
        split
        · exact upT_items r
        · rfl
      · rfl
/-! ### lists in order -/
/-- An item put into a list in order. -/
def insL (x : It) : List It → List It
  | [] => [x]
  | y :: l => if less x y = true then x :: y :: l else y :: insL x l
theorem insL_app_lt (x : It) : ∀ (l m : List It), (∀ y ∈ l, less y x = true) → insL x (l ++ m) = l ++ insL x m
  | [], m, _ => rfl
  | y :: l, m, h => by
    have h1 := less_asymm (h y List.mem_cons_self)
    rw [List.cons_append, insL, if_neg (by rw [h1]; decide), insL_app_lt x l m (fun z hz => h z (List.mem_cons_of_mem _ hz))]
    rfl
theorem insL_app_gt (x z : It) (hz : less x z = true) : ∀ (l m : List It), insL x (l ++ z :: m) = insL x l ++ z :: m
  | [], m => by simp [insL, hz]
  | y :: l, m => by
    rw [List.cons_append, insL, insL]
    by_cases h : less x y = true
    · rw [if_pos h, if_pos h]; rfl
    · rw [if_neg h, if_neg h, insL_app_gt x z hz l m]; rfl
theorem rises_node {l r : List It} {x : It} (h : Rises (l ++ x :: r)) : Rises l ∧ Rises r ∧ (∀ a ∈ l, less a x = true) ∧ (∀ b ∈ r, less x b = true) ∧ ∀ a ∈ l, ∀ b ∈ r, less a b = true := by
  unfold Rises at h
  rw [List.pairwise_append, List.pairwise_cons] at h
  exact ⟨h.1, h.2.1.2, fun a ha => h.2.2 a ha x List.mem_cons_self, h.2.1.1, fun a ha b hb => h.2.2 a ha b (List.mem_cons_of_mem _ hb)⟩
theorem putT_items (n : Nat) (x : It) : ∀ t : T, Rises t.items → x ∉ t.items → (putT n x t).items = insL x t.items
  | .nil, _, _ => rfl
  | .node k y l r, h, hx => by
    obtain ⟨h1, h2, h3, h4, _⟩ := rises_node h
    simp only [T.items, List.mem_append, List.mem_cons, not_or] at hx
    simp only [putT]
    by_cases hl : less x y = true
    · rw [if_pos hl, evenT_items, T.items, T.items, putT_items n x l h1 hx.1, insL_app_gt x y hl]
    · have hyx : less y x = true := by
        cases h5 : less y x
        · exact absurd (less_total (Bool.eq_false_iff.2 hl) h5) hx.2.1
        · rfl
      rw [if_neg hl, evenT_items, T.items, T.items, putT_items n x r h2 hx.2.2, insL_app_lt x _ _ (fun z hz => less_trans (h3 z hz) hyx), insL, if_neg hl]
theorem insL_mem (x z : It) : ∀ l : List It, z ∈ insL x l ↔ z = x ∨ z ∈ l
  | [] => by simp [insL]
  | y :: l => by
    rw [insL]
    split
    · simp
    · rw [List.mem_cons, insL_mem x z l, List.mem_cons]
      constructor
      · rintro (h | h | h)
        · exact .inr (.inl h)
        · exact .inl h
        · exact .inr (.inr h)
      · rintro (h | h | h)
        · exact .inr (.inl h)
        · exact .inl h
        · exact .inr (.inr h)
theorem insL_rises (x : It) : ∀ l : List It, Rises l → x ∉ l → Rises (insL x l)
  | [], _, _ => by simp [insL, Rises]
  | y :: l, h, hx => by
    simp only [List.mem_cons, not_or] at hx
    have h' := List.pairwise_cons.1 h
    rw [insL]
    split
    · rename_i hl
      exact List.pairwise_cons.2 ⟨fun a ha => by
        rcases List.mem_cons.1 ha with rfl | ha
        · exact hl
        · exact less_trans hl (h'.1 a ha), h⟩
    · rename_i hl
      have hyx : less y x = true := by
        cases h5 : less y x
        · exact absurd (less_total (Bool.eq_false_iff.2 hl) h5) hx.1
        · rfl
      exact List.pairwise_cons.2 ⟨fun a ha => by
        rcases (insL_mem x a l).1 ha with rfl | ha
        · exact hyx
        · exact h'.1 a ha, insL_rises x l h'.2 hx.2⟩
theorem insL_length (x : It) : ∀ l : List It, (insL x l).length = l.length + 1
  | [] => rfl
  | y :: l => by
    rw [insL]
    split
    · rfl
    · simp [insL_length x l]
/-- How many of a list are less. -/
def rankL (x : It) (l : List It) : Nat := (l.filter fun y => less y x).length
theorem filter_all {l : List It} {p : It → Bool} (h : ∀ a ∈ l, p a = true) : l.filter p = l := List.filter_eq_self.2 h
theorem filter_none {l : List It} {p : It → Bool} (h : ∀ a ∈ l, p a = false) : l.filter p = [] := List.filter_eq_nil_iff.2 fun a ha e => by rw [h a ha] at e; cases e
/-- A search tells where an item is, and its rank. -/
theorem findT_spec (x : It) : ∀ (t : T) (r : Nat), Rises t.items → (∀ i ∈ t.idx, 0 < i) → ((findT x t r).1 = 0 ↔ x ∉ t.items) ∧ (findT x t r).2 = r + rankL x t.items
  | .nil, r, _, _ => ⟨by simp [findT, T.items], by simp [findT, rankL, T.items]⟩
  | .node k y l rr, r, h, hp => by
    obtain ⟨h1, h2, h3, h4, _⟩ := rises_node h
    have hk := hp k (by simp [T.idx])
    by_cases hxy : y = x
    · subst hxy
      rw [findT, if_pos rfl]
      refine ⟨⟨fun e => ?_, fun e => absurd (by simp [T.items]) e⟩, ?_⟩
      · have e' : k = 0 := e
        omega
      · show r + l.many = _
        rw [rankL, T.items, List.filter_append, filter_all (fun a ha => h3 a ha), List.filter_cons_of_neg (by rw [less_irrefl]; decide), filter_none (fun a ha => less_asymm (h4 a ha)), List.append_nil, T.many_items]
    · rw [findT, if_neg hxy]
      by_cases hl : less x y = true
      · rw [if_pos hl]
        obtain ⟨i1, i2⟩ := findT_spec x l r h1 (fun i hi => hp i (by simp [T.idx, hi]))
        have hnr : x ∉ rr.items := fun e => by have := less_trans hl (h4 x e); rw [less_irrefl] at this; cases this
        refine ⟨i1.trans ⟨fun e => ?_, fun e f => e (by simp [T.items, f])⟩, ?_⟩
        · simp only [T.items, List.mem_append, List.mem_cons, not_or]
          exact ⟨e, fun f => hxy f.symm, hnr⟩
        · rw [i2, rankL, rankL, T.items, List.filter_append, List.filter_cons_of_neg (by rw [less_asymm hl]; decide), filter_none (l := rr.items) (fun a ha => less_asymm (less_trans hl (h4 a ha))), List.append_nil]
      · rw [if_neg hl]
        have hyx : less y x = true := by
          cases h5 : less y x
          · exact absurd (less_total h5 (Bool.eq_false_iff.2 hl)) hxy
          · rfl
        obtain ⟨i1, i2⟩ := findT_spec x rr (r + l.many + 1) h2 (fun i hi => hp i (by simp [T.idx, hi]))
        have hnl : x ∉ l.items := fun e => by have := less_trans hyx (h3 x e |> fun h => h); have h6 := less_asymm (h3 x e); rw [hyx] at h6; cases h6
        refine ⟨i1.trans ⟨fun e => ?_, fun e f => e (by simp [T.items, f])⟩, ?_⟩
        · simp only [T.items, List.mem_append, List.mem_cons, not_or]
          exact ⟨hnl, fun f => hxy f.symm, e⟩
        · rw [i2, rankL, rankL, T.items, List.filter_append, filter_all (l := l.items) (fun a ha => less_trans (h3 a ha) hyx), List.filter_cons_of_pos (p := fun z => less z x) hyx, List.length_append, List.length_cons, T.many_items]
          omega
theorem hits_of_mem (x : It) : ∀ t : T, Rises t.items → x ∈ t.items → Hits x t
  | .nil, _, h => by cases h
  | .node k y l r, h, hx => by
    obtain ⟨h1, h2, h3, h4, _⟩ := rises_node h
    simp only [T.items, List.mem_append, List.mem_cons] at hx
    simp only [Hits]
    by_cases hl : less x y = true
    · rw [if_pos hl]
      rcases hx with hx | hx | hx
      · exact hits_of_mem x l h1 hx
      · exact absurd hx (less_ne hl)
      · have := less_trans hl (h4 x hx); rw [less_irrefl] at this; cases this
    · rw [if_neg hl]
      by_cases hy : less y x = true
      · rw [if_pos hy]
        rcases hx with hx | hx | hx
        · have := less_trans hy (h3 x hx); rw [less_irrefl] at this; cases this
        · exact absurd hx.symm (less_ne hy)
        · exact hits_of_mem x r h2 hx
      · rw [if_neg hy]; trivial
/-! ### dropping -/
theorem leastT_items : ∀ t : T, t ≠ .nil → t.items = (leastT t).2.1 :: (leastT t).2.2.items
  | .nil, h => absurd rfl h
  | .node k x .nil r, _ => rfl
  | .node k x (.node a y ll lr) r, _ => by
    have ih := leastT_items (.node a y ll lr) (fun e => by cases e)
    show (T.node a y ll lr).items ++ x :: r.items = _
    rw [ih]
    simp only [leastT]
    rw [evenT_items]
    rfl
theorem joinT_items : ∀ l r : T, (joinT l r).items = l.items ++ r.items
  | .nil, r => rfl
  | .node a y ll lr, .nil => by simp only [joinT, T.items, List.append_nil]
  | .node a y ll lr, .node b z rl rr => by
    have ih := leastT_items (.node b z rl rr) (fun e => by cases e)
    rw [ih]
    simp only [joinT]
    rw [evenT_items]
    rfl
theorem dropT_items (x : It) : ∀ t : T, Rises t.items → x ∈ t.items → (dropT x t).items = t.items.filter fun y => decide (y ≠ x)
  | .nil, _, h => by cases h
  | .node k y l r, h, hx => by
    obtain ⟨h1, h2, h3, h4, _⟩ := rises_node h
    have nl : less x y = true → ∀ a ∈ r.items, a ≠ x := fun hl a ha e => by have := less_trans hl (h4 a ha); rw [e, less_irrefl] at this; cases this
    have nr : less y x = true → ∀ a ∈ l.items, a ≠ x := fun hl a ha e => by have := less_trans (h3 a ha) hl; rw [e, less_irrefl] at this; cases this
    simp only [T.items, List.mem_append, List.mem_cons] at hx
    simp only [dropT]
    by_cases hl : less x y = true
    · have hm : x ∈ l.items := by
        rcases hx with hx | hx | hx
        · exact hx
        · exact absurd hx (less_ne hl)
        · exact absurd rfl (nl hl x hx)
      rw [if_pos hl, evenT_items, T.items, T.items, dropT_items x l h1 hm, List.filter_append, List.filter_cons_of_pos (by simpa using fun e => less_ne hl e.symm), filter_all (l := r.items) (fun a ha => by simpa using nl hl a ha)]
    · rw [if_neg hl]
      by_cases hy : less y x = true
      · have hm : x ∈ r.items := by
          rcases hx with hx | hx | hx
          · exact absurd rfl (nr hy x hx)
          · exact absurd hx.symm (less_ne hy)
          · exact hx
        rw [if_pos hy, evenT_items, T.items, T.items, dropT_items x r h2 hm, List.filter_append, List.filter_cons_of_pos (by simpa using less_ne hy), filter_all (l := l.items) (fun a ha => by simpa using nr hy a ha)]
      · have hxy : x = y := less_total (Bool.eq_false_iff.2 hl) (Bool.eq_false_iff.2 hy)
        subst hxy
        rw [if_neg hy, joinT_items, T.items, List.filter_append, List.filter_cons_of_neg (by simp), filter_all (l := l.items) (fun a ha => by simpa using less_ne (h3 a ha)), filter_all (l := r.items) (fun a ha => by simpa using fun e => less_ne (h4 a ha) e.symm)]
theorem filter_rises {l : List It} (h : Rises l) (p : It → Bool) : Rises (l.filter p) := List.Pairwise.filter p h
/-! ### even trees -/
def Even : T → Prop
  | .nil => True
  | .node _ _ l r => Even l ∧ Even r ∧ l.deep ≤ r.deep + 1 ∧ r.deep ≤ l.deep + 1
/-- What even makes of a node whose sides are even, and at most two apart. -/
theorem evenT_even (k : Nat) (x : It) (l r : T) (hl : Even l) (hr : Even r) (h1 : l.deep ≤ r.deep + 2) (h2 : r.deep ≤ l.deep + 2) :
    Even (evenT (.node k x l r)) ∧ max l.deep r.deep ≤ (evenT (.node k x l r)).deep ∧ (evenT (.node k x l r)).deep ≤ max l.deep r.deep + 1 ∧ (l.deep ≤ r.deep + 1 → r.deep ≤ l.deep + 1 → (evenT (.node k x l r)).deep = max l.deep r.deep + 1) := by
  simp only [evenT]
  by_cases q2 : (l.deep : Int) - (r.deep : Int) = 2
  · rw [if_pos q2]
    obtain ⟨a, y, ll, lr, rfl⟩ := T.deep_pos (t := l) (by omega)
    simp only [Even] at hl
    obtain ⟨e1, e2, e3, e4⟩ := hl
    by_cases q3 : (T.node a y ll lr).lean < 0
    · rw [if_pos q3]
      simp only [T.lean] at q3
      obtain ⟨b, z, lm, lr, rfl⟩ := T.deep_pos (t := lr) (by omega)
      simp only [Even] at e2
      obtain ⟨f1, f2, f3, f4⟩ := e2
      simp only [T.deep] at *
      simp only [downT, upT, Even, T.deep]
      refine ⟨⟨⟨e1, f1, ?_, ?_⟩, ⟨f2, hr, ?_, ?_⟩, ?_, ?_⟩, ?_, ?_, fun _ _ => ?_⟩ <;> omega
    · rw [if_neg q3]
      simp only [T.lean] at q3
      simp only [T.deep] at *
      simp only [upT, Even, T.deep]
      refine ⟨⟨e1, ⟨e2, hr, ?_, ?_⟩, ?_, ?_⟩, ?_, ?_, fun _ _ => ?_⟩ <;> omega
  · rw [if_neg q2]
    by_cases q4 : (l.deep : Int) - (r.deep : Int) = -2
    · rw [if_pos q4]
      obtain ⟨a, y, rl, rr, rfl⟩ := T.deep_pos (t := r) (by omega)
      simp only [Even] at hr
      obtain ⟨e1, e2, e3, e4⟩ := hr
      by_cases q3 : 0 < (T.node a y rl rr).lean
      · rw [if_pos q3]
        simp only [T.lean] at q3
        obtain ⟨b, z, rl, rm, rfl⟩ := T.deep_pos (t := rl) (by omega)
        simp only [Even] at e1
        obtain ⟨f1, f2, f3, f4⟩ := e1
        simp only [T.deep] at *
        simp only [downT, upT, Even, T.deep]
        refine ⟨⟨⟨hl, f1, ?_, ?_⟩, ⟨f2, e2, ?_, ?_⟩, ?_, ?_⟩, ?_, ?_, fun _ _ => ?_⟩ <;> omega
      · rw [if_neg q3]
        simp only [T.lean] at q3
        simp only [T.deep] at *
        simp only [downT, Even, T.deep]
        refine ⟨⟨⟨hl, e1, ?_, ?_⟩, e2, ?_, ?_⟩, ?_, ?_, fun _ _ => ?_⟩ <;> omega
    · rw [if_neg q4]
      simp only [Even, T.deep]
      refine ⟨⟨hl, hr, ?_, ?_⟩, ?_, ?_, fun _ _ => ?_⟩ <;> first | omega | trivial
theorem putT_even (n : Nat) (x : It) : ∀ t : T, Even t → Even (putT n x t) ∧ t.deep ≤ (putT n x t).deep ∧ (putT n x t).deep ≤ t.deep + 1
  | .nil, _ => ⟨⟨trivial, trivial, by simp [T.deep], by simp [T.deep]⟩, by simp [T.deep], by simp [putT, T.deep]⟩
  | .node k y l r, h => by
    simp only [Even] at h
    obtain ⟨h1, h2, h3, h4⟩ := h
    simp only [putT]
    split
    · obtain ⟨i1, i2, i3⟩ := putT_even n x l h1
      obtain ⟨j1, j2, j3, j4⟩ := evenT_even k y (putT n x l) r i1 h2 (by omega) (by omega)
      refine ⟨j1, ?_, ?_⟩
      · simp only [T.deep]
        by_cases q : (putT n x l).deep ≤ r.deep + 1
        · rw [j4 q (by omega)]; omega
        · omega
      · simp only [T.deep]; omega
    · obtain ⟨i1, i2, i3⟩ := putT_even n x r h2
      obtain ⟨j1, j2, j3, j4⟩ := evenT_even k y l (putT n x r) h1 i1 (by omega) (by omega)
      refine ⟨j1, ?_, ?_⟩
      · simp only [T.deep]
        by_cases q : (putT n x r).deep ≤ l.deep + 1
        · rw [j4 (by omega) q]; omega
        · omega
      · simp only [T.deep]; omega
/-- One side has become less deep by one at most. -/
theorem shrink (k : Nat) (x : It) (l r l' r' : T) (h1 : l.deep ≤ r.deep + 1) (h2 : r.deep ≤ l.deep + 1) (hl : Even l') (hr : Even r') (a : l'.deep ≤ l.deep) (b : l.deep ≤ l'.deep + 1) (c : r'.deep ≤ r.deep) (d : r.deep ≤ r'.deep + 1) (e : l'.deep = l.deep ∨ r'.deep = r.deep) :
    Even (evenT (.node k x l' r')) ∧ (evenT (.node k x l' r')).deep ≤ max l.deep r.deep + 1 ∧ max l.deep r.deep + 1 ≤ (evenT (.node k x l' r')).deep + 1 := by
  obtain ⟨j1, j2, j3, j4⟩ := evenT_even k x l' r' hl hr (by omega) (by omega)
  refine ⟨j1, by omega, ?_⟩
  by_cases q : l'.deep ≤ r'.deep + 1 ∧ r'.deep ≤ l'.deep + 1
  · rw [j4 q.1 q.2]; omega
  · omega
theorem leastT_even : ∀ t : T, t ≠ .nil → Even t → Even (leastT t).2.2 ∧ (leastT t).2.2.deep ≤ t.deep ∧ t.deep ≤ (leastT t).2.2.deep + 1
  | .nil, h, _ => absurd rfl h
  | .node k x .nil r, _, h => by
    simp only [Even] at h
    refine ⟨h.2.1, ?_, ?_⟩
    · show r.deep ≤ max T.nil.deep r.deep + 1
      omega
    · show max T.nil.deep r.deep + 1 ≤ r.deep + 1
      simp only [T.deep]; omega
  | .node k x (.node a y ll lr) r, _, h => by
    simp only [Even] at h
    obtain ⟨i1, i2, i3⟩ := leastT_even (.node a y ll lr) (fun e => by cases e) h.1
    simp only [leastT]
    exact shrink k x (.node a y ll lr) r _ r h.2.2.1 h.2.2.2 i1 h.2.1 i2 i3 (Nat.le_refl _) (Nat.le_succ _) (.inr rfl)
theorem joinT_even (l r : T) (h1 : Even l) (h2 : Even r) (h3 : l.deep ≤ r.deep + 1) (h4 : r.deep ≤ l.deep + 1) : Even (joinT l r) ∧ (joinT l r).deep ≤ max l.deep r.deep + 1 ∧ max l.deep r.deep + 1 ≤ (joinT l r).deep + 1 := by
  cases l with
  | nil =>
    simp only [joinT]
    simp only [T.deep] at *
    exact ⟨h2, by omega, by omega⟩
  | node a y ll lr =>
    cases r with
    | nil =>
      simp only [joinT]
      have : T.nil.deep = 0 := rfl
      exact ⟨h1, by omega, by omega⟩
    | node b z rl rr =>
      obtain ⟨i1, i2, i3⟩ := leastT_even (.node b z rl rr) (fun e => by cases e) h2
      simp only [joinT]
      exact shrink _ _ (.node a y ll lr) (.node b z rl rr) _ _ h3 h4 h1 i1 (Nat.le_refl _) (Nat.le_succ _) i2 i3 (.inl rfl)
theorem dropT_even (x : It) : ∀ t : T, Even t → Even (dropT x t) ∧ (dropT x t).deep ≤ t.deep ∧ t.deep ≤ (dropT x t).deep + 1
  | .nil, h => ⟨h, Nat.le_refl _, Nat.le_succ _⟩
  | .node k y l r, h => by
    simp only [Even] at h
    obtain ⟨h1, h2, h3, h4⟩ := h
    simp only [dropT]
    split
    · obtain ⟨i1, i2, i3⟩ := dropT_even x l h1
      exact shrink k y l r _ r h3 h4 i1 h2 i2 i3 (Nat.le_refl _) (Nat.le_succ _) (.inr rfl)
    · split
      · obtain ⟨i1, i2, i3⟩ := dropT_even x r h2
        exact shrink k y l r l _ h3 h4 h1 i1 (Nat.le_refl _) (Nat.le_succ _) i2 i3 (.inl rfl)
      · exact joinT_even l r h1 h2 h3 h4
/-- An even tree is deep only if it has many. -/
theorem even_many : ∀ t : T, Even t → 2 ^ ((t.deep + 1) / 2) ≤ t.many + 1 ∧ t.many + 1 ≤ 2 ^ t.deep
  | .nil, _ => ⟨by simp [T.deep, T.many], by simp [T.deep, T.many]⟩
  | .node k y l r, h => by
    simp only [Even] at h
    obtain ⟨h1, h2, h3, h4⟩ := h
    obtain ⟨a1, a2⟩ := even_many l h1
    obtain ⟨b1, b2⟩ := even_many r h2
    simp only [T.deep, T.many]
    constructor
    · have e : (max l.deep r.deep + 1 + 1) / 2 = max l.deep r.deep / 2 + 1 := by omega
      rw [e, Nat.pow_succ]
      have c1 : 2 ^ (max l.deep r.deep / 2) ≤ 2 ^ ((l.deep + 1) / 2) := Nat.pow_le_pow_right (by decide) (by omega)
      have c2 : 2 ^ (max l.deep r.deep / 2) ≤ 2 ^ ((r.deep + 1) / 2) := Nat.pow_le_pow_right (by decide) (by omega)
      omega
    · rw [Nat.pow_succ]
      have c1 : 2 ^ l.deep ≤ 2 ^ (max l.deep r.deep) := Nat.pow_le_pow_right (by decide) (by omega)
      have c2 : 2 ^ r.deep ≤ 2 ^ (max l.deep r.deep) := Nat.pow_le_pow_right (by decide) (by omega)
      omega
end Go.Proofs.Ytpgfenelckonoaa.ShM

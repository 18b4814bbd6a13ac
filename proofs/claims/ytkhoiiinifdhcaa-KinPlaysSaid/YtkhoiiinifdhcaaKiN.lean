/- What is done to groups below groups: plain law. -/
import Derived.Test.YtkhoiiinifdhcaaKiM
namespace Go.Proofs.Ytkhoiiinifdhcaa.KiM
set_option linter.unusedVariables false
set_option linter.unusedSimpArgs false
theorem maxI_ge : ∀ {l : List Int} {x : Int}, x ∈ l → x ≤ maxI l
  | y :: l, x, h => by
    unfold maxI
    rcases List.mem_cons.1 h with rfl | h
    · omega
    · have := maxI_ge h; omega
theorem maxI_le {b : Int} (hb : 0 ≤ b) : ∀ {l : List Int}, (∀ x ∈ l, x ≤ b) → maxI l ≤ b
  | [], _ => hb
  | y :: l, h => by
    unfold maxI
    have h1 := h y (by simp)
    have h2 := maxI_le hb (l := l) fun x hx => h x (List.mem_cons_of_mem _ hx)
    omega
theorem maxI_nonneg : ∀ l : List Int, 0 ≤ maxI l
  | [] => Int.le_refl _
  | y :: l => by unfold maxI; have := maxI_nonneg l; omega
theorem maxI_snoc : ∀ (l : List Int) (x : Int), 0 ≤ maxI l → maxI (l ++ [x]) = max (maxI l) x
  | [], x, _ => by show max x 0 = max 0 x; omega
  | y :: l, x, _ => by
    show max y (maxI (l ++ [x])) = max (max y (maxI l)) x
    rw [maxI_snoc l x (maxI_nonneg l)]
    omega
section
variable {T : Tr}
theorem tall_ge {id x : Int} (hh : has T id = true) (hx : x ∈ under T id) : (dep T x : Int) - (dep T id : Int) ≤ tall T id := by
  unfold tall
  rw [if_pos hh]
  exact maxI_ge (List.mem_map.2 ⟨x, hx, rfl⟩)
theorem tall_le {id : Int} {b : Int} (hh : has T id = true) (hb : 0 ≤ b) (h : ∀ x ∈ under T id, (dep T x : Int) - (dep T id : Int) ≤ b) : tall T id ≤ b := by
  unfold tall
  rw [if_pos hh]
  refine maxI_le hb fun y hy => ?_
  obtain ⟨x, hx, rfl⟩ := List.mem_map.1 hy
  exact h x hx
theorem tall_nonneg {id : Int} (hh : has T id = true) : 0 ≤ tall T id := by
  unfold tall
  rw [if_pos hh]
  exact maxI_nonneg _
theorem WF.not_mem (h : WF T) {id : Int} (hn : get T id = none) : ∀ y ∈ T, y.1 ≠ id := fun y hy e => by
  subst e
  rw [get_of h.rises (show (y.1, y.2) ∈ T from hy)] at hn
  cases hn
theorem has_false {id : Int} (h : ¬ has T id = true) : id ≠ 0 ∧ get T id = none := by
  unfold has at h
  rw [Bool.or_eq_true, decide_eq_true_eq] at h
  refine ⟨fun e => h (.inl e), ?_⟩
  cases hg : get T id with
  | none => rfl
  | some p => rw [hg] at h; exact absurd (.inr rfl) h
/-- One more. -/
theorem WF.add (h : WF T) {id p : Int} (h1 : 1 ≤ id) (h2 : id ≤ 1048576) (hn : get T id = none) (hp : has T p = true) (hd : dep T p < 16) : WF (ins (id, p) T) := by
  have hnm := h.not_mem hn
  have hg := get_ins h.rises (p := p) hnm
  have same : ∀ j q, get T j = some q → get (ins (id, p) T) j = some q := fun j q hj => by
    rw [hg, if_neg (fun e => by subst e; rw [hn] at hj; cases hj), hj]
  have hip : ∀ x l, IsPath T x l → IsPath (ins (id, p) T) x l := fun x l hl => is_congr hl fun y hy => by
    obtain ⟨q, hq⟩ := is_mem hl y hy
    rw [same y q hq, hq]
  refine ⟨ins_rs h.rises hnm, fun x hx => ?_, fun x hx => ?_⟩
  · rcases mem_ins.1 hx with rfl | hx
    · exact ⟨h1, h2⟩
    · exact h.ids x hx
  · rcases mem_ins.1 hx with rfl | hx
    · obtain ⟨k1, k2⟩ := h.is_path hp
      refine ⟨id :: path T p, ⟨rfl, by omega, p, by rw [hg, if_pos rfl], hip _ _ k1⟩, ?_⟩
      unfold dep at hd
      simp; omega
    · obtain ⟨l, k1, k2⟩ := h.deep x hx
      exact ⟨l, hip _ _ k1, k2⟩
/-- One less, that has no kids. -/
theorem WF.drop (h : WF T) {id : Int} (hk : kids T id = []) (h0 : id ≠ 0) : WF (del T id) := by
  have hg := get_del h.rises id
  have hno : ∀ y, get T y ≠ some id := fun y hy => by
    have := (mem_kids h.rises).2 hy
    rw [hk] at this; cases this
  refine ⟨del_rs h.rises id, fun x hx => h.ids x (mem_del.1 hx).1, fun x hx => ?_⟩
  obtain ⟨hx, hne⟩ := mem_del.1 hx
  obtain ⟨l, k1, k2⟩ := h.deep x hx
  refine ⟨l, is_congr k1 fun y hy => ?_, k2⟩
  rw [hg, if_neg]
  intro e
  subst e
  have key : ∀ {l : List Int} {x : Int}, IsPath T x l → x ≠ y → y ∉ l := by
    intro l
    induction l with
    | nil => intro x _ _ hm; cases hm
    | cons z l ih =>
      rintro x ⟨rfl, _, q, hq, hl⟩ hxy hm
      rcases List.mem_cons.1 hm with e | hm
      · exact hxy e.symm
      · exact ih hl (fun e => hno z (by rw [hq, e])) hm
  exact key k1 hne hy
/-- What a move makes. -/
structure Moved (T : Tr) (id old p : Int) (T' : Tr) : Prop where
  eq : T' = ins (id, p) (del T id)
  old_ : get T id = some old
  to_ : has T p = true
  not : id ∉ path T p
  fits : (dep T p : Int) + 1 + tall T id ≤ 16
section
variable {T' : Tr} {id old p : Int}
theorem WF.move_get (h : WF T) (m : Moved T id old p T') (j : Int) : get T' j = if j = id then some p else get T j := by
  rw [m.eq, get_ins (del_rs h.rises id) (fun y hy => (mem_del.1 hy).2), get_del h.rises]
  by_cases e : j = id
  · rw [if_pos e, if_pos e]
  · rw [if_neg e, if_neg e, if_neg e]
theorem WF.move_rs (h : WF T) (m : Moved T id old p T') : Rs T' := by
  rw [m.eq]
  exact ins_rs (del_rs h.rises id) fun y hy => (mem_del.1 hy).2
theorem WF.move_ne (h : WF T) (m : Moved T id old p T') : id ≠ 0 ∧ 1 ≤ id ∧ id ≤ 1048576 := by
  have := h.pos m.old_
  exact ⟨by omega, this⟩
theorem WF.move_old (h : WF T) (m : Moved T id old p T') : path T id = id :: path T old ∧ has T old = true ∧ dep T id = dep T old + 1 ∧ id ∉ path T old := by
  obtain ⟨h1, h2⟩ := h.path_cons m.old_
  refine ⟨h1, h2, h.dep_kid m.old_, fun hm => ?_⟩
  have := (h.dep_mem h2 hm).1
  have := h.dep_kid m.old_
  omega
/-- The new path to the one that is moved. -/
theorem WF.move_self (h : WF T) (m : Moved T id old p T') : IsPath T' id (id :: path T p) := by
  have hg := h.move_get m
  refine ⟨rfl, (h.move_ne m).1, p, by rw [hg, if_pos rfl], is_congr (h.is_path m.to_).1 fun y hy => ?_⟩
  rw [hg, if_neg]
  intro e
  subst e
  exact m.not hy
theorem WF.move_path (h : WF T) (m : Moved T id old p T') {x : Int} (hx : has T x = true) : (id ∉ path T x → IsPath T' x (path T x)) ∧ (id ∈ path T x → ∃ pre, path T x = pre ++ path T id ∧ IsPath T' x (pre ++ id :: path T p) ∧ (pre ++ id :: path T p).length ≤ 16) := by
  have hg := h.move_get m
  obtain ⟨k1, k2⟩ := h.is_path hx
  constructor
  · intro hn
    refine is_congr k1 fun y hy => ?_
    rw [hg, if_neg]
    intro e
    subst e
    exact hn hy
  · intro hm
    obtain ⟨pre, h1, h2, h3⟩ := is_split h.zero k1 k2 hm
    refine ⟨pre, h1, h3 T' _ (fun y hy => ?_) (h.move_self m), ?_⟩
    · rw [hg, if_neg]
      intro e
      subst e
      exact h2 hy
    · have hid : has T id = true := has_iff.2 (.inr ⟨old, m.old_⟩)
      have h4 := tall_ge hid ((h.mem_under hid).2 ⟨hx, .inr hm⟩)
      have h5 := congrArg List.length h1
      rw [List.length_append] at h5
      have h6 := m.fits
      unfold dep at h4 h6
      rw [List.length_append, List.length_cons]
      omega
theorem WF.move (h : WF T) (m : Moved T id old p T') : WF T' := by
  have hg := h.move_get m
  have hrs := h.move_rs m
  have hne := h.move_ne m
  have hhas : ∀ x q, get T' x = some q → has T x = true := fun x q hq => by
    rw [hg] at hq
    split at hq
    · rename_i e
      subst e
      exact has_iff.2 (.inr ⟨old, m.old_⟩)
    · exact has_iff.2 (.inr ⟨q, hq⟩)
  refine ⟨hrs, fun x hx => ?_, fun x hx => ?_⟩
  · obtain ⟨a, b⟩ := x
    have h1 := get_of hrs hx
    rw [hg] at h1
    split at h1
    · rename_i e; subst e; exact hne.2
    · exact h.pos h1
  · obtain ⟨a, b⟩ := x
    have h1 := hhas a b (get_of hrs hx)
    obtain ⟨h2, h3⟩ := h.move_path m h1
    by_cases hm : id ∈ path T a
    · obtain ⟨pre, _, h4, h5⟩ := h3 hm
      exact ⟨_, h4, h5⟩
    · exact ⟨_, h2 hm, (h.is_path h1).2⟩
theorem WF.move_has (h : WF T) (m : Moved T id old p T') (x : Int) : has T' x = has T x := by
  have hg := h.move_get m
  unfold has
  rw [hg]
  by_cases e : x = id
  · rw [if_pos e, e, m.old_]; rfl
  · rw [if_neg e]
/-- How long paths are then. -/
theorem WF.move_dep (h : WF T) (m : Moved T id old p T') {x : Int} (hx : has T x = true) : (id ∉ path T x → path T' x = path T x) ∧ (id ∈ path T x → (dep T' x : Int) = dep T x - dep T id + (dep T p + 1)) := by
  have hw := h.move m
  obtain ⟨h2, h3⟩ := h.move_path m hx
  refine ⟨fun hn => path_of hw.zero (h2 hn) (h.is_path hx).2, fun hm => ?_⟩
  obtain ⟨pre, h1, h4, h5⟩ := h3 hm
  have h6 := congrArg List.length h1
  unfold dep
  rw [path_of hw.zero h4 h5]
  rw [List.length_append] at h6 ⊢
  rw [List.length_cons]
  omega
theorem WF.move_under (h : WF T) (m : Moved T id old p T') : under T' id = under T id := by
  have hg := h.move_get m
  have hw := h.move m
  have hid : has T id = true := has_iff.2 (.inr ⟨old, m.old_⟩)
  have hne := (h.move_ne m).1
  have hk : ∀ x ∈ under T id, kids T' x = kids T x := fun x hx => by
    obtain ⟨hx1, hx2⟩ := (h.mem_under hid).1 hx
    have hx2 := hx2.resolve_left hne
    refine lt_ext (kids_lt hw.rises _) (kids_lt h.rises _) fun k => ?_
    rw [mem_kids hw.rises, mem_kids h.rises, hg]
    by_cases e : k = id
    · subst e
      rw [if_pos rfl, m.old_]
      constructor
      · intro h'
        cases h'
        exact absurd hx2 m.not
      · intro h'
        cases h'
        exact absurd hx2 (h.move_old m).2.2.2
    · rw [if_neg e]
  have key : ∀ (n : Nat) (x : Int), x ∈ under T id → undF T' n x = undF T n x := by
    intro n
    induction n with
    | zero => intro x _; rfl
    | succ n ih =>
      intro x hx
      unfold undF
      rw [hk x hx]
      congr 1
      exact flat_congr fun k hkk => ih k (h.under_close 16 id hid (by omega) x k hx hkk)
  unfold under
  rw [h.move_has m, if_pos hid, if_pos hid]
  exact key 16 id (by rw [h.under_eq hid]; simp)
theorem WF.move_tall (h : WF T) (m : Moved T id old p T') : tall T' id = tall T id := by
  have hid : has T id = true := has_iff.2 (.inr ⟨old, m.old_⟩)
  have hne := (h.move_ne m).1
  unfold tall
  rw [h.move_has m, if_pos hid, if_pos hid, h.move_under m]
  congr 1
  apply List.map_congr_left
  intro x hx
  obtain ⟨hx1, hx2⟩ := (h.mem_under hid).1 hx
  have h1 := (h.move_dep m hx1).2 (hx2.resolve_left hne)
  have h2 := (h.move_dep m hid).2 (h.path_head hid hne)
  unfold dep at h1 h2
  omega
/-- Moved back it is as it was. -/
theorem WF.move_back (h : WF T) (m : Moved T id old p T') : Moved T' id p old T := by
  have hg := h.move_get m
  have hw := h.move m
  obtain ⟨o1, o2, o3, o4⟩ := h.move_old m
  have hid : has T id = true := has_iff.2 (.inr ⟨old, m.old_⟩)
  have hp : path T' old = path T old := (h.move_dep m o2).1 o4
  refine ⟨?_, by rw [hg, if_pos rfl], by rw [h.move_has m]; exact o2, by rw [hp]; exact o4, ?_⟩
  · refine tr_ext h.rises (ins_rs (del_rs hw.rises id) fun y hy => (mem_del.1 hy).2) fun j => ?_
    rw [get_ins (del_rs hw.rises id) (fun y hy => (mem_del.1 hy).2), get_del hw.rises, hg]
    by_cases e : j = id
    · rw [if_pos e, e, m.old_]
    · rw [if_neg e, if_neg e, if_neg e]
  · have h1 : (dep T' old) = dep T old := by unfold dep; rw [hp]
    have h2 : tall T id ≤ 15 - (dep T old : Int) := by
      have h4 := h.dep_le hid
      refine tall_le hid (by omega) fun x hx => ?_
      have h3 := h.dep_le ((h.mem_under hid).1 hx).1
      omega
    rw [h1, h.move_tall m]
    omega
end
/-- What is answered, and what there is then. -/
def addR (T : Tr) (id p : Int) : Int × Tr :=
  if id < 1 ∨ 1048576 < id then (1, T) else if has T id = true then (9, T) else if ¬ has T p = true then (8, T) else if 16 ≤ (path T p).length then (10, T) else (0, ins (id, p) T)
def dropR (T : Tr) (id : Int) : Int × Tr :=
  if id = 0 ∨ ¬ has T id = true then (8, T) else if 0 < (kids T id).length then (12, T) else (0, del T id)
def moveR (T : Tr) (id p : Int) : Int × Tr :=
  if id = 0 ∨ ¬ has T id = true ∨ ¬ has T p = true then (8, T) else if (under T id).contains p = true then (11, T)
  else if 16 < ((path T p).length : Int) + 1 + tall T id then (10, T) else (0, ins (id, p) (del T id))
theorem WF.addR (h : WF T) (id p : Int) : WF (addR T id p).2 := by
  unfold KiM.addR
  split
  · exact h
  split
  · exact h
  split
  · exact h
  split
  · exact h
  · rename_i h1 h2 h3 h4
    exact h.add (by omega) (by omega) (has_false h2).2 (Classical.not_not.1 h3) (by unfold dep; omega)
theorem WF.dropR (h : WF T) (id : Int) : WF (dropR T id).2 := by
  unfold KiM.dropR
  split
  · exact h
  split
  · exact h
  · rename_i h1 h2
    exact h.drop (List.eq_nil_of_length_eq_zero (by omega)) fun e => h1 (.inl e)
theorem moveR_cases (h : WF T) (id p : Int) : (moveR T id p).1 ≠ 0 ∧ (moveR T id p).2 = T ∨ (∃ old, Moved T id old p (ins (id, p) (del T id))) ∧ moveR T id p = (0, ins (id, p) (del T id)) := by
  unfold moveR
  split
  · exact .inl ⟨by simp, rfl⟩
  split
  · exact .inl ⟨by simp, rfl⟩
  split
  · exact .inl ⟨by simp, rfl⟩
  · rename_i h1 h2 h3
    have h0 : id ≠ 0 := fun e => h1 (.inl e)
    have hid : has T id = true := Classical.byContradiction fun e => h1 (.inr (.inl e))
    have hp : has T p = true := Classical.byContradiction fun e => h1 (.inr (.inr e))
    obtain ⟨old, ho⟩ := h.has_get hid h0
    refine .inr ⟨⟨old, rfl, ho, hp, fun hm => h2 ?_, ?_⟩, rfl⟩
    · rw [List.contains_iff_mem]
      exact (h.mem_under hid).2 ⟨hp, .inr hm⟩
    · unfold dep; omega
theorem WF.moveR (h : WF T) (id p : Int) : WF (moveR T id p).2 := by
  rcases moveR_cases h id p with ⟨_, e⟩ | ⟨⟨old, m⟩, e⟩
  · rw [e]; exact h
  · rw [e]; exact h.move m
theorem Moved.run {T' : Tr} {id old p : Int} (h : WF T) (m : Moved T id old p T') : KiM.moveR T id p = (0, T') := by
  have hne := (h.move_ne m).1
  have hid : has T id = true := has_iff.2 (.inr ⟨old, m.old_⟩)
  have hf := m.fits
  unfold KiM.moveR
  rw [if_neg, if_neg, if_neg, m.eq]
  · unfold dep at hf; omega
  · rw [List.contains_iff_mem]
    intro hm
    exact m.not (((h.mem_under hid).1 hm).2.resolve_left hne)
  · rintro (e | e | e)
    · exact hne e
    · exact e hid
    · exact e m.to_
end
end Go.Proofs.Ytkhoiiinifdhcaa.KiM

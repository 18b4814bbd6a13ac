/- Groups below groups: plain law. -/
import Derived.Test.YtkhoiiinifdhcaaKit
namespace Go.Proofs.Ytkhoiiinifdhcaa.KiM
set_option linter.unusedVariables false
set_option linter.unusedSimpArgs false
abbrev Tr := List (Int × Int)
def get (T : Tr) (id : Int) : Option Int := (T.find? fun x => decide (x.1 = id)).map (·.2)
def has (T : Tr) (id : Int) : Bool := decide (id = 0) || (get T id).isSome
def parent (T : Tr) (id : Int) : Int := (get T id).getD (-1)
def kids (T : Tr) (id : Int) : List Int := (T.filter fun x => decide (x.2 = id)).map (·.1)
def del (T : Tr) (id : Int) : Tr := T.filter fun x => decide (x.1 ≠ id)
def ins (x : Int × Int) : Tr → Tr
  | [] => [x]
  | y :: l => if x.1 < y.1 then x :: y :: l else y :: ins x l
def pathF (T : Tr) : Nat → Int → List Int
  | 0, _ => []
  | n + 1, id => match get T id with
    | none => []
    | some p => id :: pathF T n p
def path (T : Tr) (id : Int) : List Int := pathF T 17 id
def undF (T : Tr) : Nat → Int → List Int
  | 0, id => [id]
  | n + 1, id => id :: (kids T id).flatMap (undF T n)
def under (T : Tr) (id : Int) : List Int := if has T id = true then undF T 16 id else []
def maxI : List Int → Int
  | [] => 0
  | x :: l => max x (maxI l)
def tall (T : Tr) (id : Int) : Int := if has T id = true then maxI ((under T id).map fun x => ((path T x).length : Int) - ((path T id).length : Int)) else -1
def IsPath (T : Tr) : Int → List Int → Prop
  | id, [] => id = 0
  | id, x :: l => x = id ∧ id ≠ 0 ∧ ∃ p, get T id = some p ∧ IsPath T p l
structure WF (T : Tr) : Prop where
  rises : T.Pairwise fun a b => a.1 < b.1
  ids : ∀ x ∈ T, 1 ≤ x.1 ∧ x.1 ≤ 1048576
  deep : ∀ x ∈ T, ∃ l, IsPath T x.1 l ∧ l.length ≤ 16
theorem WF.nil : WF [] := ⟨List.Pairwise.nil, fun x h => (by cases h), fun x h => (by cases h)⟩
/-! ### lists of numbers, and of pairs -/
theorem lt_ext {l k : List Int} (hl : l.Pairwise (· < ·)) (hk : k.Pairwise (· < ·)) (h : ∀ x, x ∈ l ↔ x ∈ k) : l = k := by
  refine List.Perm.eq_of_pairwise (le := (· < ·)) (fun a b _ _ h1 h2 => by omega) hl hk ?_
  refine (List.perm_ext_iff_of_nodup ?_ ?_).2 h
  · exact hl.imp fun h e => by omega
  · exact hk.imp fun h e => by omega
def Rs (T : Tr) : Prop := T.Pairwise fun a b => a.1 < b.1
theorem get_mem {T : Tr} {id p : Int} (h : get T id = some p) : (id, p) ∈ T := by
  unfold get at h
  obtain ⟨x, hx, rfl⟩ := Option.map_eq_some_iff.1 h
  have h1 := List.mem_of_find?_eq_some hx
  have h2 : x.1 = id := by simpa using List.find?_some hx
  rw [← h2]; exact h1
theorem rs_eq {T : Tr} (h : Rs T) {a b : Int × Int} (ha : a ∈ T) (hb : b ∈ T) (e : a.1 = b.1) : a = b := by
  obtain ⟨i, hi, rfl⟩ := List.getElem_of_mem ha
  obtain ⟨j, hj, rfl⟩ := List.getElem_of_mem hb
  by_cases hij : i = j
  · subst hij; rfl
  · rcases Nat.lt_or_gt_of_ne hij with hlt | hlt
    · have := List.pairwise_iff_getElem.1 h i j hi hj hlt; omega
    · have := List.pairwise_iff_getElem.1 h j i hj hi hlt; omega
theorem get_of {T : Tr} (h : Rs T) {id p : Int} (hm : (id, p) ∈ T) : get T id = some p := by
  cases hg : get T id with
  | none =>
    unfold get at hg
    rw [Option.map_eq_none_iff, List.find?_eq_none] at hg
    have := hg _ hm
    simp at this
  | some q => rw [show q = p from congrArg Prod.snd (rs_eq h (get_mem hg) hm rfl)]
theorem get_iff {T : Tr} (h : Rs T) {id p : Int} : get T id = some p ↔ (id, p) ∈ T := ⟨get_mem, get_of h⟩
theorem opt_ext {a b : Option Int} (h : ∀ m, a = some m ↔ b = some m) : a = b := by
  cases a with
  | none =>
    cases b with
    | none => rfl
    | some b => exact absurd ((h b).2 rfl) (by simp)
  | some a => exact ((h a).1 rfl).symm
theorem mem_ins {x y : Int × Int} : ∀ {T : Tr}, y ∈ ins x T ↔ y = x ∨ y ∈ T
  | [] => by simp [ins]
  | z :: T => by
    unfold ins
    split
    · simp
    · simp only [List.mem_cons, mem_ins (T := T)]
      constructor
      · rintro (h | h | h) <;> simp [h]
      · rintro (h | h | h) <;> simp [h]
theorem ins_rs {x : Int × Int} : ∀ {T : Tr}, Rs T → (∀ y ∈ T, y.1 ≠ x.1) → Rs (ins x T)
  | [], _, _ => List.pairwise_singleton _ _
  | z :: T, h, hn => by
    obtain ⟨h1, h2⟩ := List.pairwise_cons.1 h
    unfold ins
    split
    · rename_i hlt
      refine List.pairwise_cons.2 ⟨fun y hy => ?_, h⟩
      rcases List.mem_cons.1 hy with rfl | hy
      · exact hlt
      · have := h1 y hy; omega
    · rename_i hlt
      refine List.pairwise_cons.2 ⟨fun y hy => ?_, ins_rs h2 fun y hy => hn y (List.mem_cons_of_mem _ hy)⟩
      rcases mem_ins.1 hy with rfl | hy
      · have := hn z (by simp); omega
      · exact h1 y hy
theorem mem_del {T : Tr} {id : Int} {y : Int × Int} : y ∈ del T id ↔ y ∈ T ∧ y.1 ≠ id := by
  unfold del
  rw [List.mem_filter, decide_eq_true_eq]
theorem del_rs {T : Tr} (h : Rs T) (id : Int) : Rs (del T id) := by
  have h' : T.Pairwise (fun a b => a.1 < b.1) := h
  exact h'.sublist List.filter_sublist
theorem get_ins {T : Tr} (h : Rs T) {id p : Int} (hn : ∀ y ∈ T, y.1 ≠ id) (j : Int) : get (ins (id, p) T) j = if j = id then some p else get T j := by
  apply opt_ext
  intro q
  rw [get_iff (ins_rs h hn), mem_ins]
  by_cases e : j = id
  · rw [if_pos e]
    subst e
    constructor
    · rintro (h | h)
      · cases h; rfl
      · exact absurd rfl (hn _ h)
    · rintro ⟨⟩; exact .inl rfl
  · rw [if_neg e, get_iff h]
    constructor
    · rintro (h | h)
      · cases h; exact absurd rfl e
      · exact h
    · exact .inr
theorem get_del {T : Tr} (h : Rs T) (id j : Int) : get (del T id) j = if j = id then none else get T j := by
  apply opt_ext
  intro q
  rw [get_iff (del_rs h id), mem_del]
  by_cases e : j = id
  · rw [if_pos e]
    constructor
    · rintro ⟨_, h⟩; exact absurd e h
    · intro h; cases h
  · rw [if_neg e, get_iff h]
    exact ⟨fun h => h.1, fun h => ⟨h, e⟩⟩
theorem tr_ext {T K : Tr} (h : Rs T) (k : Rs K) (e : ∀ j, get T j = get K j) : T = K := by
  have h' : T.Pairwise (fun a b => a.1 < b.1) := h
  have k' : K.Pairwise (fun a b => a.1 < b.1) := k
  refine List.Perm.eq_of_pairwise (le := fun a b => a.1 < b.1) (fun a b _ _ h1 h2 => by omega) h' k' ?_
  refine (List.perm_ext_iff_of_nodup ?_ ?_).2 fun x => ?_
  · exact h'.imp fun h e => by subst e; omega
  · exact k'.imp fun h e => by subst e; omega
  · obtain ⟨a, b⟩ := x
    rw [← get_iff h, ← get_iff k, e]
theorem mem_kids {T : Tr} (h : Rs T) {id x : Int} : x ∈ kids T id ↔ get T x = some id := by
  unfold kids
  rw [List.mem_map, get_iff h]
  constructor
  · rintro ⟨y, hy, rfl⟩
    obtain ⟨h1, h2⟩ := List.mem_filter.1 hy
    rw [← of_decide_eq_true h2]
    exact h1
  · intro hx
    exact ⟨(x, id), List.mem_filter.2 ⟨hx, decide_eq_true rfl⟩, rfl⟩
theorem kids_lt {T : Tr} (h : Rs T) (id : Int) : (kids T id).Pairwise (· < ·) := by
  unfold kids
  rw [List.pairwise_map]
  have h' : T.Pairwise (fun a b => a.1 < b.1) := h
  exact h'.sublist List.filter_sublist
/-- A number laid in among rising ones. -/
def insI (x : Int) : List Int → List Int
  | [] => [x]
  | y :: l => if y < x then y :: insI x l else x :: y :: l
theorem mem_insI {x y : Int} : ∀ {l : List Int}, y ∈ insI x l ↔ y = x ∨ y ∈ l
  | [] => by simp [insI]
  | z :: l => by
    unfold insI
    split
    · simp only [List.mem_cons, mem_insI (l := l)]
      constructor
      · rintro (h | h | h) <;> simp [h]
      · rintro (h | h | h) <;> simp [h]
    · simp
theorem insI_lt {x : Int} : ∀ {l : List Int}, l.Pairwise (· < ·) → x ∉ l → (insI x l).Pairwise (· < ·)
  | [], _, _ => List.pairwise_singleton _ _
  | z :: l, h, hn => by
    obtain ⟨h1, h2⟩ := List.pairwise_cons.1 h
    unfold insI
    split
    · rename_i hlt
      refine List.pairwise_cons.2 ⟨fun y hy => ?_, insI_lt h2 fun hx => hn (List.mem_cons_of_mem _ hx)⟩
      rcases mem_insI.1 hy with rfl | hy
      · exact hlt
      · exact h1 y hy
    · rename_i hlt
      have hne : z ≠ x := fun e => hn (by rw [e]; simp)
      refine List.pairwise_cons.2 ⟨fun y hy => ?_, h⟩
      rcases List.mem_cons.1 hy with rfl | hy
      · omega
      · have := h1 y hy; omega
theorem count_zero {x : Int} {l : List Int} (h : ∀ y ∈ l, ¬ y < x) : l.countP (· < x) = 0 := by
  rw [List.countP_eq_zero]
  intro y hy
  simpa using h y hy
theorem ins_at {x : Int} : ∀ {l : List Int}, l.Pairwise (· < ·) → l.take (l.countP (· < x)) ++ x :: l.drop (l.countP (· < x)) = insI x l
  | [], _ => rfl
  | z :: l, h => by
    obtain ⟨h1, h2⟩ := List.pairwise_cons.1 h
    unfold insI
    by_cases hlt : z < x
    · rw [if_pos hlt, List.countP_cons_of_pos (by simpa using hlt), List.take_succ_cons, List.drop_succ_cons, List.cons_append, ins_at h2]
    · rw [if_neg hlt, count_zero]
      · rfl
      · intro y hy
        rcases List.mem_cons.1 hy with rfl | hy
        · exact hlt
        · have := h1 y hy; omega
theorem del_at {x : Int} : ∀ {l : List Int}, l.Pairwise (· < ·) → x ∈ l → l.take (l.countP (· < x)) ++ l.drop (l.countP (· < x) + 1) = l.filter (fun y => decide (y ≠ x)) ∧ l.countP (· < x) < l.length
  | [], _, hx => by cases hx
  | z :: l, h, hx => by
    obtain ⟨h1, h2⟩ := List.pairwise_cons.1 h
    by_cases e : z = x
    · subst e
      have hc : (z :: l).countP (· < z) = 0 := count_zero fun y hy => by
        rcases List.mem_cons.1 hy with rfl | hy
        · omega
        · have := h1 y hy; omega
      rw [hc]
      refine ⟨?_, by simp⟩
      show l = _
      rw [List.filter_cons, if_neg (by simp)]
      refine (List.filter_eq_self.2 fun y hy => ?_).symm
      have := h1 y hy
      simp; omega
    · have hx : x ∈ l := by
        rcases List.mem_cons.1 hx with h | h
        · exact absurd h.symm e
        · exact h
      obtain ⟨h3, h4⟩ := del_at h2 hx
      rw [List.countP_cons_of_pos (by simpa using h1 x hx), List.take_succ_cons, List.drop_succ_cons, List.cons_append, h3]
      refine ⟨?_, by simp; omega⟩
      rw [List.filter_cons, if_pos (by simpa using e)]
theorem kids_ins {T : Tr} (h : Rs T) {id p : Int} (hn : ∀ y ∈ T, y.1 ≠ id) (j : Int) : kids (ins (id, p) T) j = if j = p then insI id (kids T p) else kids T j := by
  have hg := get_ins h (p := p) hn
  have hni : get T id = none := by
    cases hg : get T id with
    | none => rfl
    | some q => exact absurd rfl (hn _ (get_mem hg))
  have hnk : ∀ j, id ∉ kids T j := fun j hk => by rw [mem_kids h, hni] at hk; cases hk
  refine lt_ext (kids_lt (ins_rs h hn) _) ?_ fun x => ?_
  · split
    · exact insI_lt (kids_lt h _) (hnk _)
    · exact kids_lt h _
  · rw [mem_kids (ins_rs h hn), hg]
    by_cases e : j = p
    · rw [if_pos e, mem_insI, mem_kids h]
      by_cases ex : x = id
      · simp [ex, e]
      · rw [if_neg ex]; simp [ex, e]
    · rw [if_neg e, mem_kids h]
      by_cases ex : x = id
      · rw [if_pos ex, ex, hni]; simp; exact fun h => e h.symm
      · rw [if_neg ex]
theorem kids_del {T : Tr} (id j : Int) : kids (del T id) j = (kids T j).filter fun y => decide (y ≠ id) := by
  unfold kids del
  rw [List.filter_map, List.filter_filter, List.filter_filter]
  congr 1
  apply List.filter_congr
  intro x hx
  simp [Bool.and_comm, Function.comp]
theorem kids_del_other {T : Tr} (h : Rs T) {id j : Int} (hj : get T id ≠ some j) : kids (del T id) j = kids T j := by
  rw [kids_del]
  refine List.filter_eq_self.2 fun y hy => ?_
  rw [mem_kids h] at hy
  simp only [ne_eq, decide_eq_true_eq]
  intro e
  subst e
  exact hj hy
/-! ### paths -/
section
variable {T : Tr}
theorem WF.zero (h : WF T) : get T 0 = none := by
  cases hg : get T 0 with
  | none => rfl
  | some p => have := (h.ids _ (get_mem hg)).1; simp at this
theorem WF.pos (h : WF T) {id p : Int} (hg : get T id = some p) : 1 ≤ id ∧ id ≤ 1048576 := h.ids _ (get_mem hg)
theorem pathF_of (h0 : get T 0 = none) : ∀ {l : List Int} {id : Int} {n : Nat}, IsPath T id l → l.length ≤ n → pathF T n id = l
  | [], id, n, h, _ => by
    have h : id = 0 := h
    subst h
    cases n with
    | zero => rfl
    | succ n => unfold pathF; rw [h0]
  | x :: l, id, 0, _, hn => by simp at hn
  | x :: l, id, n + 1, h, hn => by
    obtain ⟨rfl, hne, p, hp, hl⟩ := h
    unfold pathF
    rw [hp]
    show x :: pathF T n p = x :: l
    rw [pathF_of h0 hl (by simpa using hn)]
theorem path_of (h0 : get T 0 = none) {l : List Int} {id : Int} (h : IsPath T id l) (hn : l.length ≤ 16) : path T id = l := pathF_of h0 h (by omega)
theorem has_iff {id : Int} : has T id = true ↔ id = 0 ∨ ∃ p, get T id = some p := by
  unfold has
  rw [Bool.or_eq_true, decide_eq_true_eq, Option.isSome_iff_exists]
theorem path_none {id : Int} (h : get T id = none) : path T id = [] := by
  unfold path pathF
  rw [h]
theorem WF.path_zero (h : WF T) : path T 0 = [] := path_none h.zero
theorem WF.is_path (h : WF T) {id : Int} (hh : has T id = true) : IsPath T id (path T id) ∧ (path T id).length ≤ 16 := by
  rcases has_iff.1 hh with rfl | ⟨p, hp⟩
  · rw [h.path_zero]; exact ⟨rfl, by simp⟩
  · obtain ⟨l, hl, hn⟩ := h.deep _ (get_mem hp)
    rw [path_of h.zero hl hn]; exact ⟨hl, hn⟩
theorem is_has {l : List Int} {id : Int} (h : IsPath T id l) : has T id = true := by
  cases l with
  | nil => exact has_iff.2 (.inl h)
  | cons x l => obtain ⟨_, _, p, hp, _⟩ := h; exact has_iff.2 (.inr ⟨p, hp⟩)
theorem WF.path_cons (h : WF T) {id p : Int} (hg : get T id = some p) : path T id = id :: path T p ∧ has T p = true := by
  obtain ⟨h1, h2⟩ := h.is_path (has_iff.2 (.inr ⟨p, hg⟩))
  cases hp : path T id with
  | nil =>
    rw [hp] at h1
    have h1 : id = 0 := h1
    rw [h1, h.zero] at hg
    cases hg
  | cons x l =>
    rw [hp] at h1 h2
    obtain ⟨rfl, _, q, hq, hl⟩ := h1
    rw [hg] at hq
    cases hq
    rw [path_of h.zero hl (by simp at h2; omega)]
    exact ⟨rfl, is_has hl⟩
theorem WF.has_get (h : WF T) {id : Int} (hh : has T id = true) (hn : id ≠ 0) : ∃ p, get T id = some p := by
  rcases has_iff.1 hh with h | h
  · exact absurd h hn
  · exact h
/-- How deep a group lies. -/
def dep (T : Tr) (id : Int) : Nat := (path T id).length
theorem WF.dep_le (h : WF T) {id : Int} (hh : has T id = true) : dep T id ≤ 16 := (h.is_path hh).2
theorem WF.dep_kid (h : WF T) {id p : Int} (hg : get T id = some p) : dep T id = dep T p + 1 := by
  unfold dep
  rw [(h.path_cons hg).1]
  rfl
theorem WF.has_kid (h : WF T) {id k : Int} (hk : k ∈ kids T id) : get T k = some id ∧ has T k = true ∧ k ≠ 0 ∧ dep T k = dep T id + 1 := by
  have hg := (mem_kids h.rises).1 hk
  refine ⟨hg, has_iff.2 (.inr ⟨id, hg⟩), ?_, h.dep_kid hg⟩
  have := (h.pos hg).1
  omega
theorem WF.no_kids (h : WF T) {id : Int} (hd : 16 ≤ dep T id) : kids T id = [] := by
  cases hk : kids T id with
  | nil => rfl
  | cons k l =>
    obtain ⟨_, h2, _, h4⟩ := h.has_kid (id := id) (k := k) (by rw [hk]; simp)
    have := h.dep_le h2
    omega
theorem flat_congr {l : List Int} {f g : Int → List Int} (h : ∀ x ∈ l, f x = g x) : l.flatMap f = l.flatMap g := by
  induction l with
  | nil => rfl
  | cons x l ih => rw [List.flatMap_cons, List.flatMap_cons, h x (by simp), ih fun y hy => h y (List.mem_cons_of_mem _ hy)]
theorem WF.und_stable (h : WF T) : ∀ (n m : Nat) (id : Int), 16 ≤ n + dep T id → 16 ≤ m + dep T id → undF T n id = undF T m id
  | 0, 0, _, _, _ => rfl
  | 0, m + 1, id, h1, _ => by unfold undF; rw [h.no_kids (by omega)]; rfl
  | n + 1, 0, id, _, h1 => by unfold undF; rw [h.no_kids (by omega)]; rfl
  | n + 1, m + 1, id, h1, h2 => by
    unfold undF
    congr 1
    refine flat_congr fun k hk => ?_
    have := (h.has_kid hk).2.2.2
    exact h.und_stable n m k (by omega) (by omega)
theorem WF.under_eq (h : WF T) {id : Int} (hh : has T id = true) : under T id = id :: (kids T id).flatMap (under T) := by
  unfold under
  rw [if_pos hh]
  show id :: (kids T id).flatMap (undF T 15) = _
  congr 1
  refine flat_congr fun k hk => ?_
  obtain ⟨_, h2, _, h4⟩ := h.has_kid hk
  rw [if_pos h2]
  exact h.und_stable 15 16 k (by omega) (by omega)
theorem under_none {id : Int} (h : has T id = false) : under T id = [] := by unfold under; rw [if_neg (by rw [h]; simp)]
theorem is_up {l : List Int} : ∀ {x : Int}, IsPath T x l → ∀ {k p : Int}, k ∈ l → get T k = some p → p = 0 ∨ p ∈ l := by
  induction l with
  | nil => intro x h k p hk; cases hk
  | cons y l ih =>
    rintro x ⟨rfl, hne, q, hq, hl⟩ k p hk hg
    rcases List.mem_cons.1 hk with rfl | hk
    · rw [hq] at hg
      cases hg
      cases l with
      | nil => exact .inl hl
      | cons z l => obtain ⟨rfl, _⟩ := hl; exact .inr (by simp)
    · rcases ih hl hk hg with h | h
      · exact .inl h
      · exact .inr (List.mem_cons_of_mem _ h)
/-- Where a group stands on a path, all above it follows; a tree that is alike ahead of it has such a path too. -/
theorem is_split (h0 : get T 0 = none) {l : List Int} : ∀ {x : Int}, IsPath T x l → l.length ≤ 16 → ∀ {k : Int}, k ∈ l → ∃ pre, l = pre ++ path T k ∧ k ∉ pre ∧ (∀ (T' : Tr) (m : List Int), (∀ y ∈ pre, get T' y = get T y) → IsPath T' k m → IsPath T' x (pre ++ m)) := by
  induction l with
  | nil => intro x h _ k hk; cases hk
  | cons y l ih =>
    rintro x ⟨rfl, hne, q, hq, hl⟩ hn k hk
    by_cases e : k = y
    · subst e
      exact ⟨[], (path_of h0 (id := k) (l := k :: l) ⟨rfl, hne, q, hq, hl⟩ hn).symm, by simp, fun T' m _ hm => hm⟩
    · have hk : k ∈ l := by
        rcases List.mem_cons.1 hk with h | h
        · exact absurd h e
        · exact h
      obtain ⟨pre, h1, h2, h3⟩ := ih hl (by simp at hn; omega) hk
      refine ⟨y :: pre, by rw [h1]; rfl, by simp [e, h2], fun T' m hs hm => ?_⟩
      exact ⟨rfl, hne, q, by rw [hs y (by simp), hq], h3 T' m (fun z hz => hs z (List.mem_cons_of_mem _ hz)) hm⟩
theorem is_congr {T' : Tr} {l : List Int} : ∀ {x : Int}, IsPath T x l → (∀ y ∈ l, get T' y = get T y) → IsPath T' x l := by
  induction l with
  | nil => intro x h _; exact h
  | cons y l ih =>
    rintro x ⟨rfl, hne, q, hq, hl⟩ hs
    exact ⟨rfl, hne, q, by rw [hs y (by simp), hq], ih hl fun z hz => hs z (List.mem_cons_of_mem _ hz)⟩
theorem is_mem {l : List Int} : ∀ {x : Int}, IsPath T x l → ∀ y ∈ l, ∃ p, get T y = some p := by
  induction l with
  | nil => intro x _ y hy; cases hy
  | cons z l ih =>
    rintro x ⟨rfl, _, q, hq, hl⟩ y hy
    rcases List.mem_cons.1 hy with rfl | hy
    · exact ⟨q, hq⟩
    · exact ih hl y hy
theorem WF.dep_mem (h : WF T) {x k : Int} (hx : has T x = true) (hk : k ∈ path T x) : dep T k ≤ dep T x ∧ (dep T k = dep T x → path T k = path T x) := by
  obtain ⟨h1, h2⟩ := h.is_path hx
  obtain ⟨pre, h3, _⟩ := is_split h.zero h1 h2 hk
  unfold dep
  rw [h3, List.length_append]
  refine ⟨by omega, fun e => ?_⟩
  have : pre = [] := List.eq_nil_of_length_eq_zero (by omega)
  rw [this]; rfl
theorem WF.path_head (h : WF T) {x : Int} (hx : has T x = true) (hn : x ≠ 0) : x ∈ path T x := by
  obtain ⟨p, hp⟩ := h.has_get hx hn
  rw [(h.path_cons hp).1]; simp
theorem is_nodup (h : WF T) {l : List Int} : ∀ {x : Int}, IsPath T x l → l.length ≤ 16 → l.Nodup := by
  induction l with
  | nil => intro x _ _; exact List.nodup_nil
  | cons y l ih =>
    rintro x ⟨rfl, hne, q, hq, hl⟩ hn
    have hn' : l.length ≤ 15 := by simp at hn; omega
    refine List.nodup_cons.2 ⟨fun hy => ?_, ih hl (by omega)⟩
    obtain ⟨pre, h1, _⟩ := is_split h.zero hl (by omega) hy
    have h2 := path_of h.zero (id := y) (l := y :: l) ⟨rfl, hne, q, hq, hl⟩ hn
    have h3 := congrArg List.length h1
    rw [List.length_append, h2] at h3
    simp at h3
    omega
theorem WF.nodup_path (h : WF T) {x : Int} (hx : has T x = true) : (path T x).Nodup := is_nodup h (h.is_path hx).1 (h.is_path hx).2
/-! ### what is below a group -/
theorem WF.und_has (h : WF T) : ∀ (n : Nat) (id x : Int), has T id = true → x ∈ undF T n id → has T x = true ∧ (id = 0 ∨ id ∈ path T x)
  | n, id, x, hh, hx => by
    have self : has T id = true ∧ (id = 0 ∨ id ∈ path T id) := ⟨hh, by
      by_cases e : id = 0
      · exact .inl e
      · exact .inr (h.path_head hh e)⟩
    cases n with
    | zero => rw [List.mem_singleton.1 (show x ∈ [id] from hx)]; exact self
    | succ n =>
      rcases List.mem_cons.1 (show x ∈ id :: (kids T id).flatMap (undF T n) from hx) with rfl | hx
      · exact self
      · obtain ⟨k, hk, hx⟩ := List.mem_flatMap.1 hx
        obtain ⟨h1, h2, h3, h4⟩ := h.has_kid hk
        obtain ⟨h5, h6⟩ := h.und_has n k x h2 hx
        refine ⟨h5, ?_⟩
        rcases h6 with h6 | h6
        · exact absurd h6 h3
        · exact is_up (h.is_path h5).1 h6 h1
theorem WF.under_close (h : WF T) : ∀ (n : Nat) (id : Int), has T id = true → 16 ≤ n + dep T id → ∀ p x, p ∈ under T id → x ∈ kids T p → x ∈ under T id
  | n, id, hh, hn, p, x, hp, hx => by
    rw [h.under_eq hh] at hp ⊢
    rcases List.mem_cons.1 hp with rfl | hp
    · obtain ⟨_, h2, _, _⟩ := h.has_kid hx
      refine List.mem_cons_of_mem _ (List.mem_flatMap.2 ⟨x, hx, ?_⟩)
      rw [h.under_eq h2]; simp
    · obtain ⟨k, hk, hp⟩ := List.mem_flatMap.1 hp
      obtain ⟨_, h2, _, h4⟩ := h.has_kid hk
      have h5 := h.dep_le h2
      cases n with
      | zero => omega
      | succ n => exact List.mem_cons_of_mem _ (List.mem_flatMap.2 ⟨k, hk, h.under_close n k h2 (by omega) p x hp hx⟩)
theorem WF.mem_under (h : WF T) {id x : Int} (hh : has T id = true) : x ∈ under T id ↔ has T x = true ∧ (id = 0 ∨ id ∈ path T x) := by
  constructor
  · intro hx
    unfold under at hx
    rw [if_pos hh] at hx
    exact h.und_has 16 id x hh hx
  · rintro ⟨hx, hid⟩
    have h1 := (h.is_path hx).1
    generalize path T x = l at h1 hid
    induction l generalizing x with
    | nil =>
      have h1 : x = 0 := h1
      subst h1
      rcases hid with rfl | h2
      · rw [h.under_eq hh]; simp
      · cases h2
    | cons y l ih =>
      obtain ⟨rfl, hne, q, hq, hl⟩ := h1
      by_cases e : y = id
      · subst e; rw [h.under_eq hh]; simp
      · have h3 := ih (is_has hl) hl (hid.imp (fun h => h) fun h => by
          rcases List.mem_cons.1 h with h | h
          · exact absurd h.symm e
          · exact h)
        exact h.under_close 16 id hh (by omega) q y h3 ((mem_kids h.rises).2 hq)
theorem WF.nodup_und (h : WF T) : ∀ (n : Nat) (id : Int), has T id = true → 16 ≤ n + dep T id → (under T id).Nodup
  | n, id, hh, hn => by
    rw [h.under_eq hh]
    refine List.nodup_cons.2 ⟨fun hx => ?_, ?_⟩
    · obtain ⟨k, hk, hx⟩ := List.mem_flatMap.1 hx
      obtain ⟨_, h2, h3, h4⟩ := h.has_kid hk
      rcases ((h.mem_under h2).1 hx).2 with h5 | h5
      · exact h3 h5
      · have := (h.dep_mem hh h5).1; omega
    · show List.Pairwise _ _
      rw [List.pairwise_flatMap]
      refine ⟨fun k hk => ?_, (kids_lt h.rises id).imp_of_mem ?_⟩
      · obtain ⟨_, h2, _, h4⟩ := h.has_kid hk
        have h5 := h.dep_le h2
        cases n with
        | zero => omega
        | succ n => exact h.nodup_und n k h2 (by omega)
      · intro a b ha hb hab x hxa y hyb e
        subst e
        obtain ⟨a1, a2, a3, a4⟩ := h.has_kid ha
        obtain ⟨b1, b2, b3, b4⟩ := h.has_kid hb
        obtain ⟨hx, ca⟩ := (h.mem_under a2).1 hxa
        obtain ⟨_, cb⟩ := (h.mem_under b2).1 hyb
        have ca := ca.resolve_left a3
        have cb := cb.resolve_left b3
        obtain ⟨p1, p2⟩ := h.is_path hx
        obtain ⟨pa, e1, _⟩ := is_split h.zero p1 p2 ca
        obtain ⟨pb, e2, _⟩ := is_split h.zero p1 p2 cb
        have hl : (path T a).length = (path T b).length := by unfold dep at a4 b4; omega
        have hpl : pa.length = pb.length := by
          have e3 := congrArg List.length e1
          have e4 := congrArg List.length e2
          rw [List.length_append] at e3 e4
          omega
        have e5 := (List.append_inj (e1.symm.trans e2) hpl).2
        rw [(h.path_cons a1).1, (h.path_cons b1).1] at e5
        have := (List.cons.inj e5).1
        omega
theorem WF.nodup_under (h : WF T) {id : Int} (hh : has T id = true) : (under T id).Nodup := h.nodup_und 16 id hh (by omega)
end
end Go.Proofs.Ytkhoiiinifdhcaa.KiM

/- The plain law of shelves: a tree in an array, and what the program does to it; no program in sight. -/
namespace Go.Proofs.Ytpgfenelckonoaa.ShM
set_option linter.unusedVariables false
set_option linter.unusedSimpArgs false
/-- An item. -/
structure It where
  key : Int
  id : Int
  deriving DecidableEq, Inhabited
/-- An item stands ahead of another one. -/
def less (a b : It) : Bool := decide (a.key < b.key) || (decide (a.key = b.key) && decide (a.id < b.id))
/-- A node, as the array has it. -/
structure Nd where
  x : It
  low : Nat
  high : Nat
  many : Nat
  deep : Nat
  deriving DecidableEq, Inhabited
def zeroN : Nd := ⟨⟨0, 0⟩, 0, 0, 0, 0⟩
/-- A tree, with where each node lies. -/
inductive T where
  | nil : T
  | node (k : Nat) (x : It) (l r : T) : T
  deriving Inhabited
def T.root : T → Nat
  | .nil => 0
  | .node k _ _ _ => k
def T.many : T → Nat
  | .nil => 0
  | .node _ _ l r => l.many + r.many + 1
def T.deep : T → Nat
  | .nil => 0
  | .node _ _ l r => max l.deep r.deep + 1
def T.idx : T → List Nat
  | .nil => []
  | .node k _ l r => k :: (l.idx ++ r.idx)
def T.items : T → List It
  | .nil => []
  | .node _ x l r => l.items ++ x :: r.items
def ndOf (x : It) (l r : T) : Nd := ⟨x, l.root, r.root, l.many + r.many + 1, max l.deep r.deep + 1⟩
/-- The array holds the tree. -/
def Holds (L : List Nd) : T → Prop
  | .nil => True
  | .node k x l r => L[k]? = some (ndOf x l r) ∧ Holds L l ∧ Holds L r
/-- What a tree in the array is: no node twice, none at 0. -/
structure Fit (L : List Nd) (t : T) : Prop where
  holds : Holds L t
  nodup : t.idx.Nodup
  pos : ∀ i ∈ t.idx, 0 < i
theorem T.many_idx : ∀ t : T, t.idx.length = t.many
  | .nil => rfl
  | .node k x l r => by simp [T.idx, T.many, many_idx l, many_idx r]
theorem T.many_items : ∀ t : T, t.items.length = t.many
  | .nil => rfl
  | .node k x l r => by simp [T.items, T.many, many_items l, many_items r]; omega
theorem T.deep_many : ∀ t : T, t.deep ≤ t.many
  | .nil => Nat.le_refl _
  | .node k x l r => by
    have := deep_many l
    have := deep_many r
    simp only [T.deep, T.many]
    omega
theorem Holds.lt {L : List Nd} : ∀ {t : T}, Holds L t → ∀ i ∈ t.idx, i < L.length
  | .nil, _, i, hi => by cases hi
  | .node k x l r, h, i, hi => by
    simp only [T.idx, List.mem_cons, List.mem_append] at hi
    rcases hi with rfl | hi | hi
    · exact (List.getElem?_eq_some_iff.1 h.1).1
    · exact h.2.1.lt i hi
    · exact h.2.2.lt i hi
theorem Holds.off {L L' : List Nd} : ∀ {t : T}, Holds L t → (∀ i ∈ t.idx, L'[i]? = L[i]?) → Holds L' t
  | .nil, _, _ => trivial
  | .node k x l r, h, ho => by
    refine ⟨(ho k (by simp [T.idx])).trans h.1, h.2.1.off fun i hi => ho i (by simp [T.idx, hi]), h.2.2.off fun i hi => ho i (by simp [T.idx, hi])⟩
theorem nodup_len : ∀ (n : Nat) (l : List Nat), l.Nodup → (∀ x ∈ l, x < n) → l.length ≤ n
  | 0, l, _, h => by
    cases l with
    | nil => exact Nat.le_refl _
    | cons a l => exact absurd (h a List.mem_cons_self) (Nat.not_lt_zero _)
  | n + 1, l, hn, h => by
    by_cases hm : n ∈ l
    · have := nodup_len n (l.erase n) (hn.erase n) (fun x hx => by
        have h1 := (hn.mem_erase_iff.1 hx)
        have := h x h1.2
        have := h1.1
        omega)
      rw [List.length_erase_of_mem hm] at this
      omega
    · have := nodup_len n l hn (fun x hx => by
        have := h x hx
        have : x ≠ n := fun e => hm (e ▸ hx)
        omega)
      omega
theorem Fit.many_lt {L : List Nd} {t : T} (h : Fit L t) : t.many ≤ L.length := by
  rw [← T.many_idx]
  exact nodup_len _ _ h.nodup h.holds.lt
/-- What is cached at the top of a tree. -/
theorem Holds.top {L : List Nd} (hz : L[0]? = some zeroN) : ∀ {t : T}, Holds L t → ∃ nd, L[t.root]? = some nd ∧ nd.many = t.many ∧ nd.deep = t.deep
  | .nil, _ => ⟨zeroN, hz, rfl, rfl⟩
  | .node k x l r, h => ⟨_, h.1, rfl, rfl⟩
theorem T.root_ne {t : T} {k : Nat} (h : k ∉ t.idx) (hk : 0 < k) : t.root ≠ k := by
  cases t with
  | nil => exact fun e => by simp only [T.root] at e; omega
  | node j x l r => exact fun e => h (by simp only [T.root] at e; simp [T.idx, e])
theorem Fit.nil (L : List Nd) : Fit L .nil := ⟨trivial, List.nodup_nil, fun i h => by cases h⟩
theorem Fit.off {L L' : List Nd} {t : T} (h : Fit L t) (ho : ∀ i ∈ t.idx, L'[i]? = L[i]?) : Fit L' t := ⟨h.holds.off ho, h.nodup, h.pos⟩
theorem Fit.set {L : List Nd} {t : T} (h : Fit L t) {k : Nat} (hk : k ∉ t.idx) (n : Nd) : Fit (L.set k n) t :=
  h.off fun i hi => by
    have hne : k ≠ i := fun e => hk (by rw [e]; exact hi)
    rw [List.getElem?_set_ne hne]
theorem Fit.left {L : List Nd} {k : Nat} {x : It} {l r : T} (h : Fit L (.node k x l r)) : Fit L l :=
  ⟨h.holds.2.1, by have := h.nodup; simp only [T.idx, List.nodup_cons, List.nodup_append] at this; exact this.2.1, fun i hi => h.pos i (by simp [T.idx, hi])⟩
theorem Fit.right {L : List Nd} {k : Nat} {x : It} {l r : T} (h : Fit L (.node k x l r)) : Fit L r :=
  ⟨h.holds.2.2, by have := h.nodup; simp only [T.idx, List.nodup_cons, List.nodup_append] at this; exact this.2.2.1, fun i hi => h.pos i (by simp [T.idx, hi])⟩
/-- A rotation: two nodes are others. -/
structure Rot (L L' : List Nd) (i a : Nat) (ni na : Nd) : Prop where
  len : L'.length = L.length
  ati : L'[i]? = some ni
  ata : L'[a]? = some na
  off : ∀ j, j ≠ i → j ≠ a → L'[j]? = L[j]?
theorem Rot.trans {L L' L'' : List Nd} {i a : Nat} {ni na : Nd} (h : L.length = L'.length) (ho : ∀ j, j ≠ i → j ≠ a → L'[j]? = L[j]?) (k : Rot L' L'' i a ni na) : Rot L L'' i a ni na :=
  ⟨k.len.trans h.symm, k.ati, k.ata, fun j h1 h2 => (k.off j h1 h2).trans (ho j h1 h2)⟩
def T.lean : T → Int
  | .nil => 0
  | .node _ _ l r => (l.deep : Int) - (r.deep : Int)
def upT : T → T
  | .node i x (.node a y ll lr) r => .node a y ll (.node i x lr r)
  | t => t
def downT : T → T
  | .node i x l (.node a y rl rr) => .node a y (.node i x l rl) rr
  | t => t
def evenT : T → T
  | .nil => .nil
  | .node i x l r =>
    if (l.deep : Int) - (r.deep : Int) = 2 then upT (.node i x (if l.lean < 0 then downT l else l) r)
    else if (l.deep : Int) - (r.deep : Int) = -2 then downT (.node i x l (if 0 < r.lean then upT r else r))
    else .node i x l r
theorem T.deep_pos {t : T} (h : 0 < t.deep) : ∃ k x l r, t = .node k x l r := by
  cases t with
  | nil => exact absurd h (Nat.lt_irrefl _)
  | node k x l r => exact ⟨k, x, l, r, rfl⟩
theorem Holds.node {L : List Nd} {k : Nat} {x : It} {l r : T} (h : Holds L (.node k x l r)) : L[k]? = some (ndOf x l r) := h.1
theorem upT_idx (t : T) : (upT t).idx.Perm t.idx := by
  cases t with
  | nil => exact List.Perm.refl _
  | node i x l r =>
    cases l with
    | nil => exact List.Perm.refl _
    | node a y ll lr =>
      refine List.perm_iff_count.2 fun c => ?_
      simp only [upT, T.idx, List.count_cons, List.count_append]
      omega
theorem downT_idx (t : T) : (downT t).idx.Perm t.idx := by
  cases t with
  | nil => exact List.Perm.refl _
  | node i x l r =>
    cases r with
    | nil => exact List.Perm.refl _
    | node a y rl rr =>
      refine List.perm_iff_count.2 fun c => ?_
      simp only [downT, T.idx, List.count_cons, List.count_append]
      omega
theorem node_idx {i : Nat} {x : It} {l l' r r' : T} (hl : l'.idx.Perm l.idx) (hr : r'.idx.Perm r.idx) : (T.node i x l' r').idx.Perm (T.node i x l r).idx :=
  List.Perm.cons _ (hl.append hr)
theorem evenT_idx (t : T) : (evenT t).idx.Perm t.idx := by
  cases t with
  | nil => exact List.Perm.refl _
  | node i x l r =>
    simp only [evenT]
    split
    · refine (upT_idx _).trans (node_idx ?_ (List.Perm.refl _))
      split
      · exact downT_idx l
      · exact List.Perm.refl _
    · split
      · refine (downT_idx _).trans (node_idx (List.Perm.refl _) ?_)
        split
        · exact upT_idx r
        · exact List.Perm.refl _
      · exact List.Perm.refl _
/-- Put: a new node n for the item x. -/
def putT (n : Nat) (x : It) : T → T
  | .nil => .node n x .nil .nil
  | .node k y l r => if less x y = true then evenT (.node k y (putT n x l) r) else evenT (.node k y l (putT n x r))
theorem putT_idx (n : Nat) (x : It) : ∀ t : T, (putT n x t).idx.Perm (n :: t.idx)
  | .nil => List.Perm.refl _
  | .node k y l r => by
    simp only [putT]
    split
    · refine (evenT_idx _).trans ((List.Perm.cons _ ((putT_idx n x l).append (List.Perm.refl _))).trans ?_)
      refine List.perm_iff_count.2 fun c => ?_
      simp only [T.idx, List.count_cons, List.count_append]
      omega
    · refine (evenT_idx _).trans ((List.Perm.cons _ ((List.Perm.refl _).append (putT_idx n x r))).trans ?_)
      refine List.perm_iff_count.2 fun c => ?_
      simp only [T.idx, List.count_cons, List.count_append]
      omega
theorem Fit.of_perm {L : List Nd} {t : T} {I : List Nat} (h : Holds L t) (hp : t.idx.Perm I) (hn : I.Nodup) (hpos : ∀ i ∈ I, 0 < i) : Fit L t :=
  ⟨h, hp.nodup_iff.2 hn, fun i hi => hpos i (hp.mem_iff.1 hi)⟩
/-- The free nodes: in the array, none twice, none of the tree. -/
structure Free (L : List Nd) (F I : List Nat) : Prop where
  nodup : F.Nodup
  lt : ∀ k ∈ F, 0 < k ∧ k < L.length
  off : ∀ k ∈ F, k ∉ I
/-- Where a new node comes to lie. -/
def fresh (n : Nat) (F : List Nat) : Nat := F.getLast?.getD n
theorem Free.sub {L : List Nd} {F I J : List Nat} (h : Free L F I) (hs : ∀ k ∈ J, k ∈ I) : Free L F J := ⟨h.nodup, h.lt, fun k hk hj => h.off k hk (hs k hj)⟩
theorem Free.fresh_not {L : List Nd} {F I : List Nat} (h : Free L F I) (hI : ∀ i ∈ I, i < L.length) : fresh L.length F ∉ I := by
  unfold fresh
  cases hF : F.getLast? with
  | none => exact fun hi => Nat.lt_irrefl _ (hI _ hi)
  | some k => exact h.off k (List.mem_of_getLast? hF)
theorem Free.fresh_pos {L : List Nd} {F I : List Nat} (h : Free L F I) (hL : 0 < L.length) : 0 < fresh L.length F := by
  unfold fresh
  cases hF : F.getLast? with
  | none => exact hL
  | some k => exact (h.lt k (List.mem_of_getLast? hF)).1
/-- The least one taken away: where it lies, which one it is, and what is left. -/
def leastT : T → Nat × It × T
  | .nil => (0, ⟨0, 0⟩, .nil)
  | .node k x .nil r => (k, x, r)
  | .node k x (.node a y ll lr) r => ((leastT (.node a y ll lr)).1, (leastT (.node a y ll lr)).2.1, evenT (.node k x (leastT (.node a y ll lr)).2.2 r))
theorem leastT_idx : ∀ (t : T), t ≠ .nil → ((leastT t).1 :: (leastT t).2.2.idx).Perm t.idx
  | .nil, h => absurd rfl h
  | .node k x .nil r, _ => List.Perm.refl _
  | .node k x (.node a y ll lr) r, _ => by
    have ih := leastT_idx (.node a y ll lr) (fun e => by cases e)
    simp only [leastT]
    refine (List.Perm.cons _ (evenT_idx _)).trans ?_
    refine List.perm_iff_count.2 fun c => ?_
    have := List.perm_iff_count.1 ih c
    simp only [T.idx, List.count_cons, List.count_append] at this ⊢
    omega
/-- Whether a search finds an item, and where. -/
def Hits (x : It) : T → Prop
  | .nil => False
  | .node _ y l r => if less x y = true then Hits x l else if less y x = true then Hits x r else True
def dropK (x : It) : T → Nat
  | .nil => 0
  | .node k y l r => if less x y = true then dropK x l else if less y x = true then dropK x r else k
/-- Two sides made one, the node between them gone. -/
def joinT : T → T → T
  | .nil, r => r
  | l, .nil => l
  | l, r => evenT (.node (leastT r).1 (leastT r).2.1 l (leastT r).2.2)
def dropT (x : It) : T → T
  | .nil => .nil
  | .node k y l r => if less x y = true then evenT (.node k y (dropT x l) r) else if less y x = true then evenT (.node k y l (dropT x r)) else joinT l r
theorem joinT_idx : ∀ l r : T, (joinT l r).idx.Perm (l.idx ++ r.idx)
  | .nil, r => List.Perm.refl _
  | .node a y ll lr, .nil => by simp only [joinT, T.idx, List.append_nil]; exact List.Perm.refl _
  | .node a y ll lr, .node b z rl rr => by
    have ih := leastT_idx (.node b z rl rr) (fun e => by cases e)
    simp only [joinT]
    refine (evenT_idx _).trans ?_
    refine List.perm_iff_count.2 fun c => ?_
    have := List.perm_iff_count.1 ih c
    simp only [T.idx, List.count_cons, List.count_append] at this ⊢
    omega
theorem dropT_idx (x : It) : ∀ t : T, Hits x t → (dropK x t :: (dropT x t).idx).Perm t.idx
  | .nil, h => h.elim
  | .node k y l r, h => by
    simp only [Hits, dropK, dropT] at h ⊢
    by_cases h1 : less x y = true
    · rw [if_pos h1] at h ⊢
      rw [if_pos h1]
      refine (List.Perm.cons _ (evenT_idx _)).trans ?_
      refine List.perm_iff_count.2 fun c => ?_
      have := List.perm_iff_count.1 (dropT_idx x l h) c
      simp only [T.idx, List.count_cons, List.count_append] at this ⊢
      omega
    · rw [if_neg h1] at h ⊢
      rw [if_neg h1]
      by_cases h2 : less y x = true
      · rw [if_pos h2] at h ⊢
        rw [if_pos h2]
        refine (List.Perm.cons _ (evenT_idx _)).trans ?_
        refine List.perm_iff_count.2 fun c => ?_
        have := List.perm_iff_count.1 (dropT_idx x r h) c
        simp only [T.idx, List.count_cons, List.count_append] at this ⊢
        omega
      · rw [if_neg h2, if_neg h2]
        exact List.Perm.cons _ (joinT_idx l r)
end Go.Proofs.Ytpgfenelckonoaa.ShM

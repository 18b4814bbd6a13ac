/- The plain law of shelves, on: searches. -/
import Derived.Test.YtpgfenelckonoaaShM
namespace Go.Proofs.Ytpgfenelckonoaa.ShM
set_option linter.unusedVariables false
set_option linter.unusedSimpArgs false
/-- A search: where the item is (0: nowhere), and how many are less, from r on. -/
def findT (x : It) : T → Nat → Nat × Nat
  | .nil, r => (0, r)
  | .node k y l rr, r => if y = x then (k, r + l.many) else if less x y = true then findT x l r else findT x rr (r + l.many + 1)
/-- A tree stands in another one. -/
def Sub (s : T) : T → Prop
  | .nil => s = .nil
  | .node j x l r => s = .node j x l r ∨ Sub s l ∨ Sub s r
theorem Sub.refl : ∀ t : T, Sub t t
  | .nil => rfl
  | .node _ _ _ _ => .inl rfl
theorem Sub.left {k : Nat} {x : It} {l r : T} : ∀ {t : T}, Sub (.node k x l r) t → Sub l t
  | .nil, h => by cases h
  | .node j y a b, h => by
    rcases h with h | h | h
    · cases h; exact .inr (.inl (Sub.refl _))
    · exact .inr (.inl (Sub.left h))
    · exact .inr (.inr (Sub.left h))
theorem Sub.right {k : Nat} {x : It} {l r : T} : ∀ {t : T}, Sub (.node k x l r) t → Sub r t
  | .nil, h => by cases h
  | .node j y a b, h => by
    rcases h with h | h | h
    · cases h; exact .inr (.inr (Sub.refl _))
    · exact .inr (.inl (Sub.right h))
    · exact .inr (.inr (Sub.right h))
theorem Sub.idx {s : T} : ∀ {t : T}, Sub s t → ∀ i ∈ s.idx, i ∈ t.idx
  | .nil, h, i, hi => by cases h; exact hi
  | .node j y a b, h, i, hi => by
    rcases h with h | h | h
    · rw [← h]; exact hi
    · simp [T.idx, Sub.idx h i hi]
    · simp [T.idx, Sub.idx h i hi]
theorem Sub.fit {L : List Nd} {s : T} : ∀ {t : T}, Sub s t → Fit L t → Fit L s
  | .nil, h, hf => by cases h; exact hf
  | .node j y a b, h, hf => by
    rcases h with h | h | h
    · rw [h]; exact hf
    · exact Sub.fit h hf.left
    · exact Sub.fit h hf.right
/-- How many there are from the node k on. -/
def T.big (k : Nat) : T → Nat
  | .nil => 0
  | .node j _ l r => if j = k then l.many + r.many + 1 else if k ∈ l.idx then T.big k l else T.big k r
theorem T.big_zero : ∀ {t : T}, (∀ i ∈ t.idx, 0 < i) → t.big 0 = 0
  | .nil, _ => rfl
  | .node j y a b, h => by
    have h1 := h j (by simp [T.idx])
    rw [T.big, if_neg (by omega), if_neg (fun e => Nat.lt_irrefl 0 (h 0 (by simp [T.idx, e])))]
    exact T.big_zero fun i hi => h i (by simp [T.idx, hi])
theorem Sub.big {k : Nat} {x : It} {l r : T} : ∀ {t : T}, t.idx.Nodup → Sub (.node k x l r) t → t.big k = l.many + r.many + 1
  | .nil, _, h => by cases h
  | .node j y a b, hn, h => by
    simp only [T.idx, List.nodup_cons, List.nodup_append, List.mem_append, not_or] at hn
    obtain ⟨⟨h1, h2⟩, h3, h4, h5⟩ := hn
    rcases h with h | h | h
    · cases h; rw [T.big, if_pos rfl]
    · have hk := Sub.idx h k (by simp [T.idx])
      rw [T.big, if_neg (fun e => h1 (by rw [e]; exact hk)), if_pos hk]
      exact Sub.big h3 h
    · have hk := Sub.idx h k (by simp [T.idx])
      rw [T.big, if_neg (fun e => h2 (by rw [e]; exact hk)), if_neg (fun e => h5 k e k hk rfl)]
      exact Sub.big h4 h
theorem Sub.big_root {s t : T} (hn : t.idx.Nodup) (hp : ∀ i ∈ t.idx, 0 < i) (h : Sub s t) : t.big s.root = s.many := by
  cases s with
  | nil => exact T.big_zero hp
  | node k x l r => exact Sub.big hn h
end Go.Proofs.Ytpgfenelckonoaa.ShM

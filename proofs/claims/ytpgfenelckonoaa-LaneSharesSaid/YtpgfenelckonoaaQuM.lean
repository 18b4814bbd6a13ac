/- A queue's members in order: plain law. -/
import Derived.Test.YtpgfenelckonoaaShY
namespace Go.Proofs.Ytpgfenelckonoaa.QuM
open Go.Proofs.Ytpgfenelckonoaa.ShM
set_option linter.unusedVariables false
set_option linter.unusedSimpArgs false
/-- A member: its number, its weight, how far it is. -/
structure Mem where
  id : Int
  wt : Int
  v : Int
  rem : Int
  deriving DecidableEq, Inhabited
def Mem.it (m : Mem) : It := ⟨m.v, m.id⟩
def get (L : List Mem) (id : Int) : Option Mem := L.find? fun m => decide (m.id = id)
def del (L : List Mem) (id : Int) : List Mem := L.filter fun m => decide (m.id ≠ id)
def insM (m : Mem) : List Mem → List Mem
  | [] => [m]
  | y :: l => if less m.it y.it then m :: y :: l else y :: insM m l
def putM (m : Mem) (L : List Mem) : List Mem := insM m (del L m.id)
/-- In order, each number once. -/
structure WQ (L : List Mem) : Prop where
  rises : Rises (L.map Mem.it)
  uniq : L.Pairwise fun a b => a.id ≠ b.id
theorem WQ.nil : WQ [] := ⟨List.Pairwise.nil, List.Pairwise.nil⟩
theorem ins_mem {m y : Mem} : ∀ {L : List Mem}, y ∈ insM m L ↔ y = m ∨ y ∈ L
  | [] => by simp [insM]
  | x :: L => by
    unfold insM
    split
    · simp
    · simp only [List.mem_cons, ins_mem (L := L)]
      constructor
      · rintro (h | h | h) <;> simp [h]
      · rintro (h | h | h) <;> simp [h]
theorem del_mem {L : List Mem} {id : Int} {y : Mem} : y ∈ del L id ↔ y ∈ L ∧ y.id ≠ id := by
  unfold del
  rw [List.mem_filter, decide_eq_true_eq]
theorem put_mem {L : List Mem} {m y : Mem} : y ∈ putM m L ↔ y = m ∨ (y ∈ L ∧ y.id ≠ m.id) := by
  unfold putM
  rw [ins_mem, del_mem]
theorem get_mem {L : List Mem} {id : Int} {m : Mem} (h : get L id = some m) : m ∈ L ∧ m.id = id := by
  unfold get at h
  exact ⟨List.mem_of_find?_eq_some h, by simpa using List.find?_some h⟩
theorem uniq_eq {L : List Mem} (h : WQ L) {a b : Mem} (ha : a ∈ L) (hb : b ∈ L) (e : a.id = b.id) : a = b := by
  obtain ⟨i, hi, rfl⟩ := List.getElem_of_mem ha
  obtain ⟨j, hj, rfl⟩ := List.getElem_of_mem hb
  by_cases hij : i = j
  · subst hij; rfl
  · rcases Nat.lt_or_gt_of_ne hij with hlt | hlt
    · exact absurd e (List.pairwise_iff_getElem.1 h.uniq i j hi hj hlt)
    · exact absurd e.symm (List.pairwise_iff_getElem.1 h.uniq j i hj hi hlt)
theorem get_of {L : List Mem} (h : WQ L) {m : Mem} (hm : m ∈ L) : get L m.id = some m := by
  cases hg : get L m.id with
  | none =>
    unfold get at hg
    have := List.find?_eq_none.1 hg m hm
    simp at this
  | some y =>
    obtain ⟨h1, h2⟩ := get_mem hg
    rw [uniq_eq h h1 hm h2]
theorem get_iff {L : List Mem} (h : WQ L) {id : Int} {m : Mem} : get L id = some m ↔ m ∈ L ∧ m.id = id :=
  ⟨get_mem, fun ⟨h1, h2⟩ => by rw [← h2]; exact get_of h h1⟩
theorem get_none {L : List Mem} {id : Int} : get L id = none ↔ ∀ y ∈ L, y.id ≠ id := by
  unfold get
  rw [List.find?_eq_none]
  simp
theorem opt_ext {a b : Option Mem} (h : ∀ m, a = some m ↔ b = some m) : a = b := by
  cases a with
  | none =>
    cases b with
    | none => rfl
    | some b => exact absurd ((h b).2 rfl) (by simp)
  | some a => exact ((h a).1 rfl).symm
theorem ins_items (m : Mem) : ∀ L : List Mem, (insM m L).map Mem.it = insL m.it (L.map Mem.it)
  | [] => rfl
  | y :: L => by
    simp only [insM, List.map_cons, insL]
    split
    · simp
    · simp [ins_items m L]
theorem del_wq {L : List Mem} (h : WQ L) (id : Int) : WQ (del L id) := by
  refine ⟨?_, h.uniq.sublist List.filter_sublist⟩
  exact List.Pairwise.sublist (List.Sublist.map _ List.filter_sublist) h.rises
theorem ins_uniq {m : Mem} : ∀ {L : List Mem}, (∀ y ∈ L, y.id ≠ m.id) → L.Pairwise (fun a b => a.id ≠ b.id) → (insM m L).Pairwise fun a b => a.id ≠ b.id
  | [], _, _ => by simp [insM]
  | y :: L, hn, h => by
    obtain ⟨h1, h2⟩ := List.pairwise_cons.1 h
    unfold insM
    split
    · exact List.pairwise_cons.2 ⟨fun z hz => (hn z hz).symm, h⟩
    · refine List.pairwise_cons.2 ⟨fun z hz => ?_, ins_uniq (fun z hz => hn z (List.mem_cons_of_mem _ hz)) h2⟩
      rcases ins_mem.1 hz with rfl | hz
      · exact hn y (by simp)
      · exact h1 z hz
theorem ins_wq {L : List Mem} (h : WQ L) {m : Mem} (hn : ∀ y ∈ L, y.id ≠ m.id) : WQ (insM m L) := by
  refine ⟨?_, ins_uniq hn h.uniq⟩
  rw [ins_items]
  refine insL_rises _ _ h.rises fun hm => ?_
  obtain ⟨y, hy, e⟩ := List.mem_map.1 hm
  exact hn y hy (by have := congrArg It.id e; exact this)
theorem put_wq {L : List Mem} (h : WQ L) (m : Mem) : WQ (putM m L) := ins_wq (del_wq h _) fun y hy => (del_mem.1 hy).2
theorem get_put {L : List Mem} (h : WQ L) (m : Mem) (j : Int) : get (putM m L) j = if j = m.id then some m else get L j := by
  apply opt_ext
  intro x
  rw [get_iff (put_wq h m), put_mem]
  by_cases hj : j = m.id
  · rw [if_pos hj]
    subst hj
    constructor
    · rintro ⟨rfl | ⟨_, h2⟩, h3⟩
      · rfl
      · exact absurd h3 h2
    · rintro ⟨rfl⟩
      exact ⟨.inl rfl, rfl⟩
  · rw [if_neg hj, get_iff h]
    constructor
    · rintro ⟨rfl | ⟨h1, h2⟩, h3⟩
      · exact absurd h3.symm hj
      · exact ⟨h1, h3⟩
    · rintro ⟨h1, h2⟩
      exact ⟨.inr ⟨h1, by rw [h2]; exact hj⟩, h2⟩
theorem get_del {L : List Mem} (h : WQ L) (id j : Int) : get (del L id) j = if j = id then none else get L j := by
  apply opt_ext
  intro x
  rw [get_iff (del_wq h id), del_mem]
  by_cases hj : j = id
  · rw [if_pos hj]
    subst hj
    constructor
    · rintro ⟨⟨_, h2⟩, h3⟩
      exact absurd h3 h2
    · intro h; cases h
  · rw [if_neg hj, get_iff h]
    constructor
    · rintro ⟨⟨h1, h2⟩, h3⟩
      exact ⟨h1, h3⟩
    · rintro ⟨h1, h2⟩
      exact ⟨⟨h1, by rw [h2]; exact hj⟩, h2⟩
theorem del_items {L : List Mem} (h : WQ L) {m : Mem} (hm : m ∈ L) : (del L m.id).map Mem.it = dropL m.it (L.map Mem.it) := by
  have key : ∀ K : List Mem, (∀ y ∈ K, y ∈ L) → (del K m.id).map Mem.it = dropL m.it (K.map Mem.it) := by
    intro K
    induction K with
    | nil => intro _; rfl
    | cons y K ih =>
      intro hK
      have ih := ih fun z hz => hK z (List.mem_cons_of_mem _ hz)
      unfold del dropL at ih ⊢
      simp only [List.filter_cons, List.map_cons]
      by_cases e : y.id = m.id
      · have : y = m := uniq_eq h (hK y (by simp)) hm e
        subst this
        simpa using ih
      · have : y.it ≠ m.it := fun e2 => e (congrArg It.id e2)
        simpa [e, this] using ih
  exact key L fun y hy => hy
theorem del_none {L : List Mem} {id : Int} (h : get L id = none) : del L id = L := by
  unfold del
  rw [List.filter_eq_self]
  intro y hy
  exact decide_eq_true (get_none.1 h y hy)
theorem it_not {L : List Mem} {m : Mem} (h : ∀ y ∈ L, y.id ≠ m.id) : m.it ∉ L.map Mem.it := by
  intro hm
  obtain ⟨y, hy, e⟩ := List.mem_map.1 hm
  exact h y hy (congrArg It.id e)
theorem put_items {L : List Mem} (m : Mem) : (putM m L).map Mem.it = putL m.it ((del L m.id).map Mem.it) := by
  unfold putM
  rw [ins_items, putL, if_neg (it_not fun y hy => (del_mem.1 hy).2)]
theorem ins_length (m : Mem) : ∀ L : List Mem, (insM m L).length = L.length + 1
  | [] => rfl
  | y :: L => by
    unfold insM
    split
    · rfl
    · simp [ins_length m L]
theorem del_le (L : List Mem) (id : Int) : (del L id).length ≤ L.length := List.length_filter_le _ _
theorem put_le (m : Mem) (L : List Mem) : (putM m L).length ≤ L.length + 1 := by
  unfold putM
  rw [ins_length]
  have := del_le L m.id
  omega
/-- Two lists in order with the same members are one. -/
theorem wq_ext {L K : List Mem} (h : WQ L) (k : WQ K) (e : ∀ y, y ∈ L ↔ y ∈ K) : L = K := by
  have hi : L.map Mem.it = K.map Mem.it := rises_ext _ _ h.rises k.rises fun z => by
    simp only [List.mem_map, e]
  have hlen : L.length = K.length := by have := congrArg List.length hi; simpa using this
  apply List.ext_getElem hlen
  intro i h1 h2
  have hid : (L[i]).id = (K[i]).id := by
    have e1 : (L.map Mem.it)[i]'(by simpa using h1) = (K.map Mem.it)[i]'(by simpa using h2) := by simp only [hi]
    simp only [List.getElem_map] at e1
    exact congrArg It.id e1
  exact uniq_eq k ((e _).1 (List.getElem_mem h1)) (List.getElem_mem h2) hid
end Go.Proofs.Ytpgfenelckonoaa.QuM

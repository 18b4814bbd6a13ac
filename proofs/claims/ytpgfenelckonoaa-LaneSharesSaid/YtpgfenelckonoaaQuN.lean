/- What is done in a queue: plain law. -/
import Derived.Test.YtpgfenelckonoaaQuF
namespace Go.Proofs.Ytpgfenelckonoaa.QuM
open Go.Proofs.Ytpgfenelckonoaa.ShM Go.Proofs.Ytpgfenelckonoaa.Qu
set_option linter.unusedVariables false
set_option linter.unusedSimpArgs false
theorem QB.nil : QB [] 0 := ⟨by omega, by omega, fun m h => by cases h⟩
theorem QB.del {L : List Mem} {base : Int} (h : QB L base) (id : Int) : QB (QuM.del L id) base := ⟨h.b0, h.b1, fun m hm => h.each m (del_mem.1 hm).1⟩
theorem QB.put {L : List Mem} {base : Int} (h : QB L base) {m : Mem} (hm : 1 ≤ m.id ∧ m.id ≤ 1048576 ∧ 1 ≤ m.wt ∧ m.wt ≤ 1048576 ∧ 0 ≤ m.rem ∧ m.rem < m.wt ∧ base ≤ m.v ∧ m.v ≤ 2305843009213693952) : QB (putM m L) base :=
  ⟨h.b0, h.b1, fun y hy => by
    rcases put_mem.1 hy with rfl | ⟨hy, _⟩
    · exact hm
    · exact h.each y hy⟩
theorem join_ok {m : Mem} {L : List Mem} {base : Int} (h : joinC m L base = 0) : 1 ≤ m.id ∧ m.id ≤ 1048576 ∧ 1 ≤ m.wt ∧ m.wt ≤ 1048576 ∧ 0 ≤ m.rem ∧ m.rem < m.wt ∧ 0 ≤ m.v ∧ m.v ≤ 2305843009213693952 - base ∧ get L m.id = none := by
  unfold joinC at h
  split at h
  · cases h
  · rename_i h1
    split at h
    · cases h
    · rename_i h2
      split at h
      · cases h
      · rename_i h3
        refine ⟨by omega, by omega, by omega, by omega, by omega, by omega, by omega, by omega, ?_⟩
        cases hg : get L m.id with
        | none => rfl
        | some y => rw [hg] at h2; simp at h2
theorem QB.join {L : List Mem} {base : Int} (h : QB L base) (m : Mem) : QB (joinL m L base) base := by
  unfold joinL
  split
  · rename_i hc
    obtain ⟨h1, h2, h3, h4, h5, h6, h7, h8, _⟩ := join_ok hc
    exact h.put ⟨h1, h2, h3, h4, h5, h6, by show base ≤ base + m.v; omega, by show base + m.v ≤ _; omega⟩
  · exact h
theorem first_le : ∀ {L : List Mem}, WQ L → ∀ m ∈ L, firstV L ≤ m.v
  | [], _, m, h => by cases h
  | x :: L, hw, m, h => by
    rcases List.mem_cons.1 h with rfl | h
    · exact Int.le_refl _
    · have h1 := (List.pairwise_cons.1 (show Rises (x.it :: L.map Mem.it) from hw.rises)).1 m.it (List.mem_map.2 ⟨m, h, rfl⟩)
      rw [less_iff] at h1
      have h2 : x.v < m.v ∨ (x.v = m.v ∧ x.id < m.id) := h1
      show x.v ≤ m.v
      omega
theorem first_mem {L : List Mem} (h : L ≠ []) : ∃ m ∈ L, firstV L = m.v := by
  cases L with
  | nil => exact absurd rfl h
  | cons x L => exact ⟨x, by simp, rfl⟩
theorem ran_ok {m : Mem} {t : Int} (h3 : 1 ≤ m.wt) (h5 : 0 ≤ m.rem) (ht : 0 ≤ t) : m.v ≤ (ranM m t).v ∧ 0 ≤ (ranM m t).rem ∧ (ranM m t).rem < m.wt := by
  have h1 : 0 ≤ (1048576 * t + m.rem) / m.wt := Int.ediv_nonneg (by omega) (by omega)
  refine ⟨?_, Int.emod_nonneg _ (by omega), Int.emod_lt_of_pos _ (by omega)⟩
  show m.v ≤ m.v + (1048576 * t + m.rem) / m.wt
  omega
theorem run_cases (L : List Mem) (base id t : Int) : (runR L base id t).1 ≠ 0 ∧ (runR L base id t).2 = (L, base) ∨
    ∃ m, get L id = some m ∧ 0 ≤ t ∧ t ≤ 1099511627776 ∧ (ranM m t).v ≤ 2305843009213693952 ∧ runR L base id t = (0, putM (ranM m t) L, max base (firstV (putM (ranM m t) L))) := by
  unfold runR
  cases hg : get L id with
  | none => exact .inl ⟨by simp, rfl⟩
  | some m =>
    dsimp only
    split
    · exact .inl ⟨by simp, rfl⟩
    · split
      · exact .inl ⟨by simp, rfl⟩
      · exact .inr ⟨m, rfl, by omega, by omega, by omega, rfl⟩
theorem QB.run {L : List Mem} {base : Int} (h : QB L base) (hw : WQ L) (id t : Int) : QB (runR L base id t).2.1 (runR L base id t).2.2 := by
  rcases run_cases L base id t with ⟨_, e⟩ | ⟨m, hg, ht0, ht1, hv, e⟩
  · rw [e]; exact h
  · rw [e]
    obtain ⟨hm, hid⟩ := get_mem hg
    obtain ⟨b1, b2, b3, b4, b5, b6, b7, b8⟩ := h.each m hm
    obtain ⟨r1, r2, r3⟩ := ran_ok (t := t) b3 b5 ht0
    have hp : QB (putM (ranM m t) L) base := h.put ⟨b1, b2, b3, b4, r2, r3, by omega, hv⟩
    have hne : putM (ranM m t) L ≠ [] := by
      obtain ⟨z, K, hz⟩ := Qu.put_ne (ranM m t) L
      rw [hz]; simp
    obtain ⟨z, hz, hf⟩ := first_mem hne
    have hzb := hp.each z hz
    refine ⟨?_, ?_, fun y hy => ?_⟩
    · have := h.b0; show 0 ≤ max base _; omega
    · have := h.b1; show max base _ ≤ _; omega
    · obtain ⟨c1, c2, c3, c4, c5, c6, c7, c8⟩ := hp.each y hy
      have := first_le (put_wq hw (ranM m t)) y hy
      exact ⟨c1, c2, c3, c4, c5, c6, by show max base _ ≤ y.v; omega, c8⟩
theorem weigh_cases (L : List Mem) (id u : Int) : (weighR L id u).1 ≠ 0 ∧ (weighR L id u).2 = L ∨ ∃ m, get L id = some m ∧ 1 ≤ u ∧ u ≤ 1048576 ∧ weighR L id u = (0, putM (weighM m u) L) := by
  unfold weighR
  cases hg : get L id with
  | none => exact .inl ⟨by simp, rfl⟩
  | some m =>
    dsimp only
    split
    · exact .inl ⟨by simp, rfl⟩
    · rename_i h
      have h' := Classical.not_not.1 h
      exact .inr ⟨m, rfl, h'.1, h'.2, rfl⟩
theorem weigh_ok {m : Mem} {u : Int} (h3 : 1 ≤ m.wt) (h5 : 0 ≤ m.rem) (h6 : m.rem < m.wt) (hu : 1 ≤ u) : 0 ≤ (weighM m u).rem ∧ (weighM m u).rem < u := by
  have h1 : 0 ≤ m.rem * u := Int.mul_nonneg h5 (by omega)
  refine ⟨Int.ediv_nonneg h1 (by omega), ?_⟩
  show m.rem * u / m.wt < u
  apply Int.ediv_lt_of_lt_mul (by omega)
  rw [Int.mul_comm u]
  exact Int.mul_lt_mul_of_pos_right h6 (by omega)
theorem QB.weigh {L : List Mem} {base : Int} (h : QB L base) (id u : Int) : QB (weighR L id u).2 base := by
  rcases weigh_cases L id u with ⟨_, e⟩ | ⟨m, hg, hu0, hu1, e⟩
  · rw [e]; exact h
  · rw [e]
    obtain ⟨hm, hid⟩ := get_mem hg
    obtain ⟨b1, b2, b3, b4, b5, b6, b7, b8⟩ := h.each m hm
    obtain ⟨r1, r2⟩ := weigh_ok b3 b5 b6 hu0
    exact h.put ⟨b1, b2, hu0, hu1, r1, r2, b7, b8⟩
/-- One thing that is done. -/
structure QOp where
  d : Int
  m : Mem
  n : Int
  deriving Inhabited
/-- What is answered (whose value; the number of what is wrong), and what there is then. -/
def doR (L : List Mem) (base : Int) (o : QOp) : Option Mem × Int × List Mem × Int :=
  if o.d = 1 then (none, joinC o.m L base, joinL o.m L base, base)
  else if o.d = 2 then (get L o.m.id, (if (get L o.m.id).isSome = true then 0 else 8), del L o.m.id, base)
  else if o.d = 3 then (none, runR L base o.m.id o.n)
  else if o.d = 4 then (none, (weighR L o.m.id o.n).1, (weighR L o.m.id o.n).2, base)
  else if o.d = 5 then match L with
    | [] => (none, 0, L, base)
    | x :: _ => (some x, runR L base x.id 1)
  else (none, 0, L, base)
def stL (x : Option Mem × Int × List Mem × Int) : List Mem := x.2.2.1
def stB (x : Option Mem × Int × List Mem × Int) : Int := x.2.2.2
theorem run_wq {L : List Mem} (h : WQ L) (base id t : Int) : WQ (runR L base id t).2.1 := by
  rcases run_cases L base id t with ⟨_, e⟩ | ⟨m, _, _, _, _, e⟩
  · rw [e]; exact h
  · rw [e]; exact put_wq h _
theorem join_wq {L : List Mem} (h : WQ L) (m : Mem) (base : Int) : WQ (joinL m L base) := by
  unfold joinL
  split
  · exact put_wq h _
  · exact h
theorem weigh_wq {L : List Mem} (h : WQ L) (id u : Int) : WQ (weighR L id u).2 := by
  rcases weigh_cases L id u with ⟨_, e⟩ | ⟨m, _, _, _, e⟩
  · rw [e]; exact h
  · rw [e]; exact put_wq h _
theorem QB.doR {L : List Mem} {base : Int} (h : QB L base) (hw : WQ L) (o : QOp) : QB (stL (QuM.doR L base o)) (stB (QuM.doR L base o)) := by
  unfold QuM.doR stL stB
  split
  · exact h.join o.m
  split
  · exact h.del _
  split
  · exact h.run hw _ _
  split
  · exact h.weigh _ _
  split
  · split
    · exact h
    · exact h.run hw _ _
  · exact h
/-- A queue behind things that were done. -/
def walkedQ (ops : List QOp) : List Mem × Int := ops.foldl (fun s o => (stL (doR s.1 s.2 o), stB (doR s.1 s.2 o))) ([], 0)
theorem walkedQ_snoc (ops : List QOp) (i : Nat) (o : QOp) (h : ops[i]? = some o) : walkedQ (ops.take (i + 1)) = (stL (doR (walkedQ (ops.take i)).1 (walkedQ (ops.take i)).2 o), stB (doR (walkedQ (ops.take i)).1 (walkedQ (ops.take i)).2 o)) := by
  obtain ⟨h1, rfl⟩ := List.getElem?_eq_some_iff.1 h
  rw [List.take_succ_eq_append_getElem h1]
  unfold walkedQ
  rw [List.foldl_append]
  rfl
end Go.Proofs.Ytpgfenelckonoaa.QuM

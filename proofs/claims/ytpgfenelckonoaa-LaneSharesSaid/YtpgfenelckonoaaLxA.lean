/- Lanes: what their functions make, and what always holds: plain law. -/
import Derived.Test.YtpgfenelckonoaaQuN
namespace Go.Proofs.Ytpgfenelckonoaa.LaM
open Go.Proofs.Ytpgfenelckonoaa.ShM Go.Proofs.Ytpgfenelckonoaa.QuM
set_option linter.unusedVariables false
/-- A lane: each group's queue (members in order, base), in whose queue each one is, the tasks, the lags that were kept. -/
structure LS where
  Q : Int → List Mem × Int
  home : Int → Option Int
  tasks : List Int
  kept : Int → Option Mem
structure St where
  id : Int
  wt : Int
def upd {α : Type} (f : Int → α) (j : Int) (v : α) : Int → α := fun x => if x = j then v else f x
theorem upd_at {α : Type} (f : Int → α) (j : Int) (v : α) : upd f j v j = v := by simp [upd]
theorem upd_ne {α : Type} (f : Int → α) {j x : Int} (v : α) (h : x ≠ j) : upd f j v x = f x := by simp [upd, h]
theorem upd_self {α : Type} (f : Int → α) (j : Int) : upd f j (f j) = f := by
  funext x
  unfold upd
  split
  · rename_i h; rw [h]
  · rfl
theorem upd_upd {α : Type} (f : Int → α) (j : Int) (u v : α) : upd (upd f j u) j v = upd f j v := by
  funext x
  unfold upd
  split <;> rfl
def LS.new : LS := ⟨fun _ => ([], 0), fun _ => none, [], fun _ => none⟩
def clampW (w : Int) : Int := if w < 1 then 1 else if 1048576 < w then 1048576 else w
def firstS : List St → Int
  | [] => 0
  | s :: _ => s.id
/-- A group as it joins its parent's queue. -/
def memberS (S : LS) (s : St) : Mem := match S.kept s.id with
  | none => ⟨s.id, s.wt, 0, 0⟩
  | some k => ⟨s.id, s.wt, k.v, k.rem * clampW s.wt / k.wt⟩
def joinS (S : LS) (g : Int) (m : Mem) : Int × LS :=
  if joinC m (S.Q g).1 (S.Q g).2 = 0 then (0, { S with Q := upd S.Q g (joinL m (S.Q g).1 (S.Q g).2, (S.Q g).2), home := upd S.home m.id (some g) })
  else (joinC m (S.Q g).1 (S.Q g).2, S)
def quitS (S : LS) (id : Int) : LS :=
  { S with Q := upd S.Q ((S.home id).getD 0) (del (S.Q ((S.home id).getD 0)).1 id, (S.Q ((S.home id).getD 0)).2), home := upd S.home id none }
/-- A member's value as it was told. -/
def memS (S : LS) (g id : Int) : Mem := match get (S.Q g).1 id with
  | none => ⟨0, 0, 0, 0⟩
  | some m => { m with v := m.v - (S.Q g).2 }
def oddGo (S : LS) : List St → List Int → Bool
  | [], _ => false
  | s :: p, seen => if s.id < 1 ∨ s.id ∈ seen ∨ s.id ∈ S.tasks ∨ ((S.home s.id).isSome = true ∧ S.home s.id ≠ some (firstS p)) then true else oddGo S p (seen ++ [s.id])
def oddS (S : LS) (p : List St) (id : Int) : Bool := oddGo S p [id] || (S.home id).isSome
def enterGo : LS → List St → Mem → Int × LS
  | S, [], x => joinS S 0 x
  | S, s :: p, x => if (joinS S s.id x).1 ≠ 0 then joinS S s.id x else if (S.Q s.id).1 = [] then enterGo (joinS S s.id x).2 p (memberS S s) else joinS S s.id x
/-- A number is put into a rising list. -/
def insT (x : Int) : List Int → List Int
  | [] => [x]
  | y :: l => if y < x then y :: insT x l else x :: y :: l
def enterS (S : LS) (p : List St) (m : Mem) : Int × LS :=
  if m.id ∈ S.tasks then (9, S) else if oddS S p m.id = true then (11, S) else
  if (enterGo S p m).1 ≠ 0 then ((enterGo S p m).1, S) else (0, { (enterGo S p m).2 with tasks := insT m.id (enterGo S p m).2.tasks })
/-- Groups without members leave, one above the other. -/
def leaveGo : Nat → LS → Int → LS
  | 0, S, _ => S
  | n + 1, S, g => if g ≠ 0 ∧ (S.Q g).1 = [] then leaveGo n { (quitS S g) with kept := upd S.kept g (some (memS S ((S.home g).getD 0) g)) } ((S.home g).getD 0) else S
def leaveS (S : LS) (id : Int) : Option Mem × Int × LS :=
  if id ∈ S.tasks then (some (memS S ((S.home id).getD 0) id), 0, { (leaveGo 16 (quitS S id) ((S.home id).getD 0)) with tasks := S.tasks.filter fun x => decide (x ≠ id) }) else (none, 8, S)
/-- The groups on a way up. -/
def wayF (S : LS) : Nat → Int → List Int
  | 0, _ => []
  | n + 1, id => match S.home id with
    | none => []
    | some g => if g = 0 then [] else g :: wayF S n g
def wayS (S : LS) (id : Int) : List Int := wayF S 16 id
def farS (S : LS) (id : Int) : Bool := match get (S.Q ((S.home id).getD 0)).1 id with
  | none => false
  | some m => decide (2305843009213693952 < (ranM m 1).v)
def run1 (S : LS) (id : Int) : LS :=
  { S with Q := upd S.Q ((S.home id).getD 0) ((runR (S.Q ((S.home id).getD 0)).1 (S.Q ((S.home id).getD 0)).2 id 1).2) }
def runS (S : LS) (id : Int) : Int × LS :=
  if id ∈ S.tasks then if (id :: wayS S id).any (farS S) = true then (6, S) else (0, (id :: wayS S id).foldl run1 S) else (8, S)
def weighS (S : LS) (id u : Int) : Int × LS := match S.home id with
  | none => (8, S)
  | some g => ((weighR (S.Q g).1 id u).1, { S with Q := upd S.Q g ((weighR (S.Q g).1 id u).2, (S.Q g).2) })
def forgetS (S : LS) (g : Int) : Int × LS := if (S.Q g).1 = [] then (0, { S with Q := upd S.Q g ([], 0), kept := upd S.kept g none }) else (12, S)
/-- Who is next in a group's queue: 0 is nobody. -/
def nextF (S : LS) (shut : List Int) : Nat → Int → Int
  | 0, _ => 0
  | n + 1, g => go (S.Q g).1 n
where go : List Mem → Nat → Int
  | [], _ => 0
  | m :: l, n => if m.id ∈ S.tasks then m.id else if m.id ∈ shut then go l n else if 0 < nextF S shut n m.id then nextF S shut n m.id else go l n
/-- One way up: from a member's group on, to 0. -/
def IsWay (S : LS) : Int → List Int → Prop
  | g, [] => g = 0
  | g, x :: l => x = g ∧ g ≠ 0 ∧ g ∉ S.tasks ∧ ∃ h, S.home g = some h ∧ IsWay S h l
/-- What always holds of a lane. -/
structure WL (S : LS) : Prop where
  wq : ∀ g, WQ (S.Q g).1
  qb : ∀ g, QB (S.Q g).1 (S.Q g).2
  home : ∀ x g, S.home x = some g ↔ (get (S.Q g).1 x).isSome = true
  tasks : S.tasks.Pairwise (· < ·)
  isHome : ∀ t ∈ S.tasks, (S.home t).isSome = true
  noGroup : ∀ t ∈ S.tasks, (S.Q t).1 = []
  full : ∀ x g, S.home x = some g → x ∉ S.tasks → (S.Q x).1 ≠ []
  way : ∀ x g, S.home x = some g → ∃ l, IsWay S g l ∧ l.length ≤ 8
  kept : ∀ g k, S.kept g = some k → 1 ≤ k.wt ∧ k.wt ≤ 1048576 ∧ 0 ≤ k.rem ∧ k.rem < k.wt ∧ 0 ≤ k.v ∧ k.v ≤ 2305843009213693952
theorem WL.new : WL LS.new :=
  ⟨fun _ => WQ.nil, fun _ => QB.nil, fun x g => (by show (none : Option Int) = some g ↔ _; simp [LS.new, QuM.get]), List.Pairwise.nil, fun t h => (by cases h), fun t h => rfl, fun x g h => (by cases h), fun x g h => (by cases h), fun g k h => (by cases h)⟩
/-- Joined and let go again is as it was. -/
theorem del_put {L : List Mem} {m : Mem} (h : get L m.id = none) : del (putM m L) m.id = L := by
  have hd : del L m.id = L := List.filter_eq_self.2 fun x hx => by
    have := List.find?_eq_none.1 h x hx
    simpa using this
  unfold putM
  rw [hd]
  have key : ∀ K : List Mem, (∀ x ∈ K, x.id ≠ m.id) → del (insM m K) m.id = K := by
    intro K
    induction K with
    | nil => intro _; simp [insM, del]
    | cons y K ih =>
      intro hK
      unfold insM
      split
      · unfold del
        rw [List.filter_cons_of_neg (by simp)]
        exact List.filter_eq_self.2 fun x hx => by simpa using hK x hx
      · have := ih fun x hx => hK x (List.mem_cons_of_mem _ hx)
        unfold del at this ⊢
        rw [List.filter_cons_of_pos (by simpa using hK y (by simp)), this]
  exact key L fun x hx e => by
    have := List.find?_eq_none.1 h x hx
    simp [e] at this
theorem join_quit {S : LS} {g : Int} {m : Mem} (hj : (joinS S g m).1 = 0) (hh : S.home m.id = none) : quitS (joinS S g m).2 m.id = S := by
  unfold joinS at hj ⊢
  by_cases hc : joinC m (S.Q g).1 (S.Q g).2 = 0
  · rw [if_pos hc]
    obtain ⟨_, _, _, _, _, _, _, _, hg⟩ := join_ok hc
    unfold quitS
    simp only [upd_at, Option.getD_some, upd_upd]
    have e1 : del (joinL m (S.Q g).1 (S.Q g).2) m.id = (S.Q g).1 := by
      unfold joinL
      rw [if_pos hc]
      exact del_put (m := { m with v := (S.Q g).2 + m.v }) hg
    rw [e1]
    have e2 : upd S.Q g ((S.Q g).1, (S.Q g).2) = S.Q := upd_self S.Q g
    have e3 : upd S.home m.id none = S.home := by
      have := upd_self S.home m.id
      rwa [hh] at this
    rw [e2, e3]
  · rw [if_neg hc] at hj
    exact absurd hj hc
end Go.Proofs.Ytpgfenelckonoaa.LaM
namespace Go.Proofs.Ytpgfenelckonoaa.LaM
open Go.Proofs.Ytpgfenelckonoaa.ShM Go.Proofs.Ytpgfenelckonoaa.QuM
set_option linter.unusedVariables false
variable {S : LS}
/-- From a member up to a group, by groups in between. -/
def Chain (S : LS) : Int → List Int → Int → Prop
  | t, [], g => S.home t = some g
  | t, x :: l, g => S.home t = some x ∧ x ∉ S.tasks ∧ Chain S x l g
theorem chain_snoc : ∀ {l : List Int} {t x g : Int}, Chain S t l x → x ∉ S.tasks → S.home x = some g → Chain S t (l ++ [x]) g
  | [], t, x, g, h, hx, hg => ⟨h, hx, hg⟩
  | y :: l, t, x, g, h, hx, hg => ⟨h.1, h.2.1, chain_snoc h.2.2 hx hg⟩
theorem chain_top : ∀ {l : List Int} {t x g : Int}, Chain S t (l ++ [x]) g → Chain S t l x ∧ x ∉ S.tasks ∧ S.home x = some g
  | [], t, x, g, h => ⟨h.1, h.2.1, h.2.2⟩
  | y :: l, t, x, g, h => by
    obtain ⟨h1, h2, h3⟩ := h
    obtain ⟨k1, k2, k3⟩ := chain_top h3
    exact ⟨⟨h1, h2, k1⟩, k2, k3⟩
theorem home_mem (w : WL S) {x g : Int} (h : S.home x = some g) : ∃ m ∈ (S.Q g).1, m.id = x := by
  have h1 := (w.home x g).1 h
  cases hg : get (S.Q g).1 x with
  | none => rw [hg] at h1; cases h1
  | some m => exact ⟨m, (get_mem hg).1, (get_mem hg).2⟩
theorem mem_home (w : WL S) {m : Mem} {g : Int} (h : m ∈ (S.Q g).1) : S.home m.id = some g := by
  apply (w.home m.id g).2
  cases hf : get (S.Q g).1 m.id with
  | some y => rfl
  | none =>
    have := List.find?_eq_none.1 hf _ h
    simp at this
theorem go_some (shut : List Int) (n : Nat) (hs : ∀ t ∈ S.tasks, 0 < t) : ∀ {l : List Mem}, (∃ m ∈ l, m.id ∈ S.tasks ∨ (m.id ∉ shut ∧ 0 < nextF S shut n m.id)) → 0 < nextF.go S shut l n
  | [], h => by
    obtain ⟨m, hm, _⟩ := h
    cases hm
  | y :: l, h => by
    unfold nextF.go
    split
    · rename_i ht; exact hs _ ht
    split
    · rename_i ht hsh
      apply go_some shut n hs
      obtain ⟨m, hm, hc⟩ := h
      rcases List.mem_cons.1 hm with rfl | hm
      · rcases hc with hc | hc
        · exact absurd hc ht
        · exact absurd hsh hc.1
      · exact ⟨m, hm, hc⟩
    split
    · rename_i h0; exact h0
    · rename_i ht hsh h0
      apply go_some shut n hs
      obtain ⟨m, hm, hc⟩ := h
      rcases List.mem_cons.1 hm with rfl | hm
      · rcases hc with hc | hc
        · exact absurd hc ht
        · exact absurd hc.2 h0
      · exact ⟨m, hm, hc⟩
theorem go_is (shut : List Int) (n : Nat) : ∀ {l : List Mem}, 0 < nextF.go S shut l n → ∃ m ∈ l, (m.id ∈ S.tasks ∧ nextF.go S shut l n = m.id) ∨ (m.id ∉ S.tasks ∧ m.id ∉ shut ∧ 0 < nextF S shut n m.id ∧ nextF.go S shut l n = nextF S shut n m.id)
  | [], h => by
    unfold nextF.go at h
    omega
  | y :: l, h => by
    unfold nextF.go at h ⊢
    by_cases h1 : y.id ∈ S.tasks
    · rw [if_pos h1]
      exact ⟨y, by simp, .inl ⟨h1, rfl⟩⟩
    rw [if_neg h1] at h ⊢
    by_cases h2 : y.id ∈ shut
    · rw [if_pos h2] at h ⊢
      obtain ⟨m, hm, hc⟩ := go_is shut n h
      exact ⟨m, List.mem_cons_of_mem _ hm, hc⟩
    rw [if_neg h2] at h ⊢
    by_cases h3 : 0 < nextF S shut n y.id
    · rw [if_pos h3]
      exact ⟨y, by simp, .inr ⟨h1, h2, h3, rfl⟩⟩
    rw [if_neg h3] at h ⊢
    obtain ⟨m, hm, hc⟩ := go_is shut n h
    exact ⟨m, List.mem_cons_of_mem _ hm, hc⟩
theorem task_pos (w : WL S) : ∀ t ∈ S.tasks, 0 < t := fun t ht => by
  have h1 := w.isHome t ht
  cases hg : S.home t with
  | none => rw [hg] at h1; cases h1
  | some g =>
    obtain ⟨m, hm, rfl⟩ := home_mem w hg
    have := (w.qb g).each m hm
    omega
/-- Whoever is in no group that is shut, below a group: somebody is next there. -/
theorem next_some (w : WL S) {shut : List Int} : ∀ (n : Nat) (l : List Int) (t g : Int), l.length < n → Chain S t l g → (∀ x ∈ l, x ∉ shut) → t ∈ S.tasks → 0 < nextF S shut n g
  | 0, l, t, g, hn, _, _, _ => by omega
  | n + 1, l, t, g, hn, hc, hs, ht => by
    unfold nextF
    apply go_some shut n (task_pos w)
    rcases List.eq_nil_or_concat l with rfl | ⟨l', x, rfl⟩
    · obtain ⟨m, hm, rfl⟩ := home_mem w hc
      exact ⟨m, hm, .inl ht⟩
    · rw [List.concat_eq_append] at hn hc hs
      obtain ⟨h1, h2, h3⟩ := chain_top hc
      obtain ⟨m, hm, rfl⟩ := home_mem w h3
      refine ⟨m, hm, .inr ⟨hs _ (by simp), next_some w n l' t m.id (by simp at hn; omega) h1 (fun x hx => hs x (List.mem_append_left _ hx)) ht⟩⟩
/-- Who is next is a task, in no group that is shut. -/
theorem next_is (w : WL S) {shut : List Int} : ∀ (n : Nat) (g : Int), 0 < nextF S shut n g → nextF S shut n g ∈ S.tasks ∧ ∃ l, Chain S (nextF S shut n g) l g ∧ ∀ x ∈ l, x ∉ shut
  | 0, g, h => by
    unfold nextF at h
    omega
  | n + 1, g, h => by
    unfold nextF at h ⊢
    obtain ⟨m, hm, hc⟩ := go_is shut n h
    rcases hc with ⟨h1, h2⟩ | ⟨h1, h2, h3, h4⟩
    · rw [h2]
      exact ⟨h1, [], mem_home w hm, fun x hx => by cases hx⟩
    · rw [h4]
      obtain ⟨k1, l, k2, k3⟩ := next_is w n m.id h3
      refine ⟨k1, l ++ [m.id], chain_snoc k2 h1 (mem_home w hm), fun x hx => ?_⟩
      rcases List.mem_append.1 hx with hx | hx
      · exact k3 x hx
      · simp at hx; rw [hx]; exact h2
/-- The way up is the only chain to 0. -/
theorem chain_way (h0 : S.home 0 = none) : ∀ {l : List Int} {t : Int} {n : Nat}, Chain S t l 0 → l.length < n → wayF S n t = l
  | [], t, 0, h, hn => absurd hn (Nat.lt_irrefl _)
  | [], t, n + 1, h, hn => by
    unfold wayF
    have h : S.home t = some 0 := h
    rw [h]
    rfl
  | x :: l, t, 0, h, hn => absurd hn (Nat.not_lt_zero _)
  | x :: l, t, n + 1, h, hn => by
    obtain ⟨h1, h2, h3⟩ := h
    have hx : x ≠ 0 := by
      rintro rfl
      cases l with
      | nil =>
        have h3 : S.home 0 = some 0 := h3
        rw [h0] at h3; cases h3
      | cons y l =>
        have := h3.1
        rw [h0] at this; cases this
    unfold wayF
    rw [h1]
    dsimp only
    rw [if_neg hx, chain_way h0 h3 (by simp at hn; omega)]
theorem way_chain : ∀ {l : List Int} {t g : Int}, S.home t = some g → IsWay S g l → Chain S t l 0
  | [], t, g, h, hw => by
    have hw : g = 0 := hw
    subst hw
    exact h
  | x :: l, t, g, h, hw => by
    obtain ⟨rfl, _, h2, k, hk, hl⟩ := hw
    exact ⟨h, h2, way_chain hk hl⟩
theorem zero_home (w : WL S) : S.home 0 = none := by
  cases h : S.home 0 with
  | none => rfl
  | some g =>
    obtain ⟨m, hm, he⟩ := home_mem w h
    have := (w.qb g).each m hm
    omega
/-- The law LanePicks, of what the functions make. -/
theorem picks_law (w : WL S) (shut : List Int) :
    (0 < nextF S shut 16 0 → nextF S shut 16 0 ∈ S.tasks ∧ ∀ x ∈ wayS S (nextF S shut 16 0), x ∉ shut) ∧
    (∀ t ∈ S.tasks, (∀ x ∈ wayS S t, x ∉ shut) → 0 < nextF S shut 16 0) := by
  have key : ∀ t ∈ S.tasks, ∃ l, Chain S t l 0 ∧ l.length ≤ 8 ∧ wayS S t = l := fun t ht => by
    have h1 := w.isHome t ht
    cases hg : S.home t with
    | none => rw [hg] at h1; cases h1
    | some g =>
      obtain ⟨l, hl, hn⟩ := w.way t g hg
      have hc := way_chain hg hl
      exact ⟨l, hc, hn, chain_way (zero_home w) hc (by omega)⟩
  constructor
  · intro h
    obtain ⟨h1, l, h2, h3⟩ := next_is w 16 0 h
    obtain ⟨l', h4, h5, h6⟩ := key _ h1
    refine ⟨h1, ?_⟩
    have e : wayF S (l.length + 17) (nextF S shut 16 0) = l := chain_way (zero_home w) h2 (by omega)
    have e2 : wayF S (l.length + 17) (nextF S shut 16 0) = l' := chain_way (zero_home w) h4 (by omega)
    rw [h6, ← e2, e]
    exact h3
  · intro t ht hs
    obtain ⟨l, h1, h2, h3⟩ := key t ht
    rw [h3] at hs
    exact next_some w 16 l t 0 (by omega) h1 hs ht
end Go.Proofs.Ytpgfenelckonoaa.LaM
namespace Go.Proofs.Ytpgfenelckonoaa.LaM
open Go.Proofs.Ytpgfenelckonoaa.ShM Go.Proofs.Ytpgfenelckonoaa.QuM
set_option linter.unusedVariables false
variable {S : LS}
def ids (L : List Mem) (L' : List Mem) : Prop := ∀ x, (QuM.get L' x).isSome = (QuM.get L x).isSome
theorem ids_nil {L L' : List Mem} (h : ids L L') (hn : L = []) : L' = [] := by
  cases L' with
  | nil => rfl
  | cons m l =>
    have := h m.id
    rw [hn] at this
    simp [QuM.get] at this
theorem ids_symm {L L' : List Mem} (h : ids L L') : ids L' L := fun x => (h x).symm
/-- Another queue with the same members. -/
theorem WL.setQ (w : WL S) {g : Int} {L' : List Mem} {b' : Int} (h1 : WQ L') (h2 : QB L' b') (h3 : ids (S.Q g).1 L') : WL { S with Q := upd S.Q g (L', b') } := by
  have hQ : ∀ j, ids (S.Q j).1 (upd S.Q g (L', b') j).1 := fun j x => by
    unfold upd
    split
    · rename_i h; rw [h]; exact h3 x
    · rfl
  have hn : ∀ j, (upd S.Q g (L', b') j).1 = [] ↔ (S.Q j).1 = [] := fun j => ⟨fun h => ids_nil (ids_symm (hQ j)) h, fun h => ids_nil (hQ j) h⟩
  have hw : ∀ {l : List Int} {x : Int}, IsWay S x l → IsWay { S with Q := upd S.Q g (L', b') } x l := by
    intro l
    induction l with
    | nil => intro x h; exact h
    | cons y l ih =>
      intro x h
      obtain ⟨k1, k2, k3, k, k4, k5⟩ := h
      exact ⟨k1, k2, k3, k, k4, ih k5⟩
  refine ⟨fun j => ?_, fun j => ?_, fun x j => ?_, w.tasks, w.isHome, fun t ht => (hn t).2 (w.noGroup t ht), fun x j hj hx => fun e => w.full x j hj hx ((hn x).1 e), fun x j hj => ?_, w.kept⟩
  · show WQ (upd S.Q g (L', b') j).1
    unfold upd
    split
    · exact h1
    · exact w.wq j
  · show QB (upd S.Q g (L', b') j).1 (upd S.Q g (L', b') j).2
    unfold upd
    split
    · exact h2
    · exact w.qb j
  · show S.home x = some j ↔ (QuM.get (upd S.Q g (L', b') j).1 x).isSome = true
    rw [hQ j x]
    exact w.home x j
  · obtain ⟨l, hl, hn⟩ := w.way x j hj
    exact ⟨l, hw hl, hn⟩
theorem ids_put {L : List Mem} (h : WQ L) {m m0 : Mem} (hg : QuM.get L m.id = some m0) : ids L (putM m L) := fun x => by
  rw [get_put h]
  by_cases e : x = m.id
  · rw [if_pos e, e, hg]; rfl
  · rw [if_neg e]
theorem ids_refl (L : List Mem) : ids L L := fun _ => rfl
theorem ids_run {L : List Mem} (h : WQ L) (b id t : Int) : ids L (runR L b id t).2.1 := by
  rcases run_cases L b id t with ⟨_, e⟩ | ⟨m, hg, _, _, _, e⟩
  · rw [e]; exact ids_refl L
  · rw [e]
    have hid : (ranM m t).id = id := (get_mem hg).2
    exact ids_put h (m := ranM m t) (by rw [hid]; exact hg)
theorem ids_weigh {L : List Mem} (h : WQ L) (id u : Int) : ids L (weighR L id u).2 := by
  rcases weigh_cases L id u with ⟨_, e⟩ | ⟨m, hg, _, _, e⟩
  · rw [e]; exact ids_refl L
  · rw [e]
    have hid : (weighM m u).id = id := (get_mem hg).2
    exact ids_put h (m := weighM m u) (by rw [hid]; exact hg)
theorem WL.run1 (w : WL S) (id : Int) : WL (run1 S id) := by
  unfold LaM.run1
  exact w.setQ (run_wq (w.wq _) _ _ _) ((w.qb _).run (w.wq _) _ _) (ids_run (w.wq _) _ _ _)
theorem run1_rest (id : Int) : (run1 S id).home = S.home ∧ (run1 S id).tasks = S.tasks ∧ (run1 S id).kept = S.kept := ⟨rfl, rfl, rfl⟩
theorem WL.runs (l : List Int) : ∀ {S : LS}, WL S → WL (l.foldl LaM.run1 S) := by
  induction l with
  | nil => intro S w; exact w
  | cons x l ih => intro S w; exact ih (w.run1 x)
theorem WL.run (w : WL S) (id : Int) : WL (runS S id).2 := by
  unfold runS
  split
  · split
    · exact w
    · exact WL.runs _ w
  · exact w
theorem WL.weigh (w : WL S) (id u : Int) : WL (weighS S id u).2 := by
  unfold weighS
  split
  · exact w
  · exact w.setQ (weigh_wq (w.wq _) _ _) ((w.qb _).weigh _ _) (ids_weigh (w.wq _) _ _)
theorem WL.setKept (w : WL S) {K : Int → Option Mem} (h : ∀ g k, K g = some k → 1 ≤ k.wt ∧ k.wt ≤ 1048576 ∧ 0 ≤ k.rem ∧ k.rem < k.wt ∧ 0 ≤ k.v ∧ k.v ≤ 2305843009213693952) : WL { S with kept := K } := by
  have hw : ∀ {l : List Int} {x : Int}, IsWay S x l → IsWay { S with kept := K } x l := by
    intro l
    induction l with
    | nil => intro x h; exact h
    | cons y l ih =>
      intro x h
      obtain ⟨k1, k2, k3, k, k4, k5⟩ := h
      exact ⟨k1, k2, k3, k, k4, ih k5⟩
  exact ⟨w.wq, w.qb, w.home, w.tasks, w.isHome, w.noGroup, w.full, fun x j hj => by
    obtain ⟨l, hl, hn⟩ := w.way x j hj
    exact ⟨l, hw hl, hn⟩, h⟩
theorem WL.forget (w : WL S) (g : Int) : WL (forgetS S g).2 := by
  unfold forgetS
  split
  · rename_i h
    refine (w.setQ (g := g) (L' := []) (b' := 0) WQ.nil QB.nil (by rw [h]; exact ids_refl [])).setKept (K := upd S.kept g none) fun j k hk => ?_
    unfold upd at hk
    split at hk
    · cases hk
    · exact w.kept j k hk
  · exact w
/-- What fails changes nothing. -/
theorem run_fails (S : LS) (id : Int) (h : (runS S id).1 ≠ 0) : (runS S id).2 = S := by
  unfold runS at h ⊢
  split
  · rename_i h1
    rw [if_pos h1] at h
    split
    · rfl
    · rename_i h2
      rw [if_neg h2] at h
      exact absurd rfl h
  · rfl
theorem enter_fails (S : LS) (p : List St) (m : Mem) (h : (enterS S p m).1 ≠ 0) : (enterS S p m).2 = S := by
  unfold enterS at h ⊢
  split
  · rfl
  · rename_i h1
    rw [if_neg h1] at h
    split
    · rfl
    · rename_i h2
      rw [if_neg h2] at h
      split
      · rfl
      · rename_i h3
        rw [if_neg h3] at h
        exact absurd rfl h
end Go.Proofs.Ytpgfenelckonoaa.LaM
namespace Go.Proofs.Ytpgfenelckonoaa.LaM
open Go.Proofs.Ytpgfenelckonoaa.ShM Go.Proofs.Ytpgfenelckonoaa.QuM
set_option linter.unusedVariables false
variable {S : LS}
/-- A way up that ends at a group which has not joined yet. -/
def Up (S : LS) (x : Int) : Int → List Int → Prop
  | g, [] => False
  | g, [y] => y = g ∧ g = x
  | g, y :: z :: l => y = g ∧ S.home g = some z ∧ Up S x z (z :: l)
/-- What holds while one enters: t comes, x is to join next. -/
structure WP (S : LS) (t x : Int) (k : Nat) (sn : List Int) : Prop where
  wq : ∀ g, WQ (S.Q g).1
  qb : ∀ g, QB (S.Q g).1 (S.Q g).2
  home : ∀ y g, S.home y = some g ↔ (QuM.get (S.Q g).1 y).isSome = true
  tasks : S.tasks.Pairwise (· < ·)
  isHome : ∀ u ∈ S.tasks, (S.home u).isSome = true
  noGroup : ∀ u ∈ S.tasks, (S.Q u).1 = []
  full : ∀ y g, S.home y = some g → y ∉ S.tasks → y ≠ t → (S.Q y).1 ≠ []
  way : ∀ y g, S.home y = some g → (∃ l, IsWay S g l ∧ l.length ≤ 8 ∧ t ∉ l) ∨ (∃ l, Up S x g l ∧ l.length ≤ k ∧ (∀ z ∈ l, z ∈ sn ∧ z ≠ 0 ∧ z ∉ S.tasks ∧ z ≠ t))
  kept : ∀ g k, S.kept g = some k → 1 ≤ k.wt ∧ k.wt ≤ 1048576 ∧ 0 ≤ k.rem ∧ k.rem < k.wt ∧ 0 ≤ k.v ∧ k.v ≤ 2305843009213693952
  new : t ∉ S.tasks ∧ (S.Q t).1 = []
  next : S.home x = none ∧ x ∈ sn ∧ (x = t ∨ (S.Q x).1 ≠ [] ∧ x ∉ S.tasks ∧ (S.home t).isSome = true)
theorem way_home {l : List Int} : ∀ {g : Int}, IsWay S g l → ∀ z ∈ l, (S.home z).isSome = true ∧ z ≠ 0 ∧ z ∉ S.tasks := by
  induction l with
  | nil => intro g h z hz; cases hz
  | cons y l ih =>
    intro g h z hz
    obtain ⟨rfl, h2, h3, k, h4, h5⟩ := h
    rcases List.mem_cons.1 hz with rfl | hz
    · exact ⟨by rw [h4]; rfl, h2, h3⟩
    · exact ih h5 z hz
theorem wp_start (w : WL S) {t : Int} (ht : t ∉ S.tasks) (hh : S.home t = none) (h0 : t ≠ 0) : WP S t t 0 [t] := by
  have hq : (S.Q t).1 = [] := by
    cases hL : (S.Q t).1 with
    | nil => rfl
    | cons m l =>
      have hm : S.home m.id = some t := mem_home w (by rw [hL]; simp)
      obtain ⟨l', hl, _⟩ := w.way _ _ hm
      cases l' with
      | nil => exact absurd hl h0
      | cons z l' =>
        obtain ⟨_, _, _, k, hk, _⟩ := hl
        rw [hh] at hk
        cases hk
  refine ⟨w.wq, w.qb, w.home, w.tasks, w.isHome, w.noGroup, fun y g hy hn _ => w.full y g hy hn, fun y g hy => ?_, w.kept, ⟨ht, hq⟩, hh, by simp, .inl rfl⟩
  obtain ⟨l, hl, hn⟩ := w.way y g hy
  refine .inl ⟨l, hl, hn, fun hm => ?_⟩
  have := (way_home hl t hm).1
  rw [hh] at this
  cases this
theorem way_upd {x g : Int} {Q : Int → List Mem × Int} (hx : S.home x = none) : ∀ {l : List Int} {a : Int}, IsWay S a l → IsWay { S with Q := Q, home := upd S.home x (some g) } a l
  | [], a, h => h
  | y :: l, a, h => by
    obtain ⟨rfl, h2, h3, k, h4, h5⟩ := h
    refine ⟨rfl, h2, h3, k, ?_, way_upd hx h5⟩
    show upd S.home x (some g) y = some k
    rw [upd_ne _ _ (fun e => by rw [e, hx] at h4; cases h4)]
    exact h4
theorem up_snoc {x g : Int} {Q : Int → List Mem × Int} (hx : S.home x = none) : ∀ {l : List Int} {a : Int}, Up S x a l → Up { S with Q := Q, home := upd S.home x (some g) } g a (l ++ [g])
  | [], a, h => h.elim
  | [y], a, h => by
    obtain ⟨rfl, rfl⟩ := h
    exact ⟨rfl, upd_at _ _ _, rfl, rfl⟩
  | y :: z :: l, a, h => by
    obtain ⟨rfl, h2, h3⟩ := h
    refine ⟨rfl, ?_, up_snoc hx h3⟩
    show upd S.home x (some g) y = some z
    rw [upd_ne _ _ (fun e => by rw [e, hx] at h2; cases h2)]
    exact h2
/-- A way that was open is closed: above its last group there is a way. -/
theorem up_way {x g : Int} {Q : Int → List Mem × Int} (hx : S.home x = none) {r : List Int} (hr : IsWay { S with Q := Q, home := upd S.home x (some g) } g r) : ∀ {l : List Int} {a : Int}, Up S x a l → (∀ z ∈ l, z ≠ 0 ∧ z ∉ S.tasks) → IsWay { S with Q := Q, home := upd S.home x (some g) } a (l ++ r)
  | [], a, h, _ => h.elim
  | [y], a, h, hz => by
    obtain ⟨rfl, rfl⟩ := h
    exact ⟨rfl, (hz y (by simp)).1, (hz y (by simp)).2, g, upd_at _ _ _, hr⟩
  | y :: z :: l, a, h, hz => by
    obtain ⟨rfl, h2, h3⟩ := h
    refine ⟨rfl, (hz y (by simp)).1, (hz y (by simp)).2, z, ?_, up_way hx hr h3 (fun q hq => hz q (List.mem_cons_of_mem _ hq))⟩
    show upd S.home x (some g) y = some z
    rw [upd_ne _ _ (fun e => by rw [e, hx] at h2; cases h2)]
    exact h2
theorem join_is {g : Int} {m : Mem} (h : (joinS S g m).1 = 0) : ∃ L', (joinS S g m).2 = { S with Q := upd S.Q g (L', (S.Q g).2), home := upd S.home m.id (some g) } ∧ L' = joinL m (S.Q g).1 (S.Q g).2 ∧ joinC m (S.Q g).1 (S.Q g).2 = 0 := by
  unfold joinS at h ⊢
  by_cases hc : joinC m (S.Q g).1 (S.Q g).2 = 0
  · rw [if_pos hc]
    exact ⟨_, rfl, rfl, hc⟩
  · rw [if_neg hc] at h
    exact absurd h hc
theorem join_get {L : List Mem} {b : Int} (hw : WQ L) {m : Mem} (hc : joinC m L b = 0) (y : Int) : (QuM.get (joinL m L b) y).isSome = true ↔ y = m.id ∨ (QuM.get L y).isSome = true := by
  unfold joinL
  rw [if_pos hc, get_put hw]
  by_cases e : y = m.id
  · rw [if_pos e]
    simp [e]
  · rw [if_neg e]
    simp [e]
/-- What all joins have in common. -/
theorem join_home {t x g : Int} {k : Nat} {sn : List Int} (w : WP S t x k sn) {m : Mem} (hm : m.id = x) (hc : joinC m (S.Q g).1 (S.Q g).2 = 0) (y j : Int) :
    upd S.home x (some g) y = some j ↔ (QuM.get (upd S.Q g (joinL m (S.Q g).1 (S.Q g).2, (S.Q g).2) j).1 y).isSome = true := by
  unfold upd
  by_cases hj : j = g
  · subst hj
    rw [if_pos rfl]
    dsimp only
    rw [join_get (w.wq j) hc, hm]
    by_cases hy : y = x
    · rw [if_pos hy]
      simp [hy]
    · rw [if_neg hy, w.home y j]
      simp [hy]
  · rw [if_neg hj]
    by_cases hy : y = x
    · subst hy
      rw [if_pos rfl, ← w.home y j, w.next.1]
      constructor
      · intro h
        exact absurd (Option.some.inj h).symm hj
      · intro h
        cases h
    · rw [if_neg hy]
      exact w.home y j
theorem join_ne {L : List Mem} {b : Int} {m : Mem} (hw : WQ L) (hc : joinC m L b = 0) : joinL m L b ≠ [] := fun e => by
  have := (join_get hw hc m.id).2 (.inl rfl)
  rw [e] at this
  simp [QuM.get] at this
theorem joinQ_full {g : Int} {m : Mem} (hw : WQ (S.Q g).1) (hc : joinC m (S.Q g).1 (S.Q g).2 = 0) (y : Int) (h : (S.Q y).1 ≠ []) : (upd S.Q g (joinL m (S.Q g).1 (S.Q g).2, (S.Q g).2) y).1 ≠ [] := by
  unfold upd
  split
  · exact join_ne hw hc
  · exact h
theorem upd_some {x g y : Int} (h : (S.home y).isSome = true) : (upd S.home x (some g) y).isSome = true := by
  unfold upd
  split
  · rfl
  · exact h
theorem wp_join {t x g : Int} {k : Nat} {sn : List Int} (w : WP S t x k sn) {m : Mem} (hm : m.id = x) (hc : joinC m (S.Q g).1 (S.Q g).2 = 0) (hgs : g ∉ sn) (hg : S.home g = none) (hg0 : g ≠ 0) (hgt : g ∉ S.tasks) (hgn : g ≠ t) :
    WP { S with Q := upd S.Q g (joinL m (S.Q g).1 (S.Q g).2, (S.Q g).2), home := upd S.home x (some g) } t g (k + 1) (sn ++ [g]) := by
  have hgx : g ≠ x := fun e => hgs (by rw [e]; exact w.next.2.1)
  refine ⟨fun j => ?_, fun j => ?_, fun y j => join_home w hm hc y j, w.tasks, fun u hu => upd_some (w.isHome u hu), fun u hu => ?_, fun y j hy hn ht => ?_, fun y j hy => ?_, w.kept, ⟨w.new.1, ?_⟩, ?_, by simp, .inr ⟨?_, hgt, ?_⟩⟩
  · show WQ (upd S.Q g _ j).1
    unfold upd
    split
    · exact join_wq (w.wq g) _ _
    · exact w.wq j
  · show QB (upd S.Q g _ j).1 (upd S.Q g _ j).2
    unfold upd
    split
    · exact (w.qb g).join m
    · exact w.qb j
  · show (upd S.Q g _ u).1 = []
    rw [upd_ne _ _ (fun e => hgt (by rw [← e]; exact hu))]
    exact w.noGroup u hu
  · have hy : upd S.home x (some g) y = some j := hy
    apply joinQ_full (w.wq g) hc
    by_cases e : y = x
    · rcases w.next.2.2 with h | h
      · exact absurd (e.trans h) ht
      · rw [e]; exact h.1
    · rw [upd_ne _ _ e] at hy
      exact w.full y j hy hn ht
  · have hy : upd S.home x (some g) y = some j := hy
    by_cases e : y = x
    · rw [e, upd_at] at hy
      obtain rfl := Option.some.inj hy
      exact .inr ⟨[g], ⟨rfl, rfl⟩, by simp, fun z hz => by simp at hz; rw [hz]; exact ⟨by simp, hg0, hgt, hgn⟩⟩
    · rw [upd_ne _ _ e] at hy
      rcases w.way y j hy with ⟨l, h1, h2, h3⟩ | ⟨l, h1, h2, h3⟩
      · exact .inl ⟨l, way_upd w.next.1 h1, h2, h3⟩
      · refine .inr ⟨l ++ [g], up_snoc w.next.1 h1, by simp; omega, fun z hz => ?_⟩
        rcases List.mem_append.1 hz with hz | hz
        · obtain ⟨k1, k2, k3, k4⟩ := h3 z hz
          exact ⟨List.mem_append_left _ k1, k2, k3, k4⟩
        · simp at hz
          rw [hz]
          exact ⟨by simp, hg0, hgt, hgn⟩
  · show (upd S.Q g _ t).1 = []
    rw [upd_ne _ _ (fun e => hgn e.symm)]
    exact w.new.2
  · show upd S.home x (some g) g = none
    rw [upd_ne _ _ hgx]
    exact hg
  · show (upd S.Q g _ g).1 ≠ []
    rw [upd_at]
    exact join_ne (w.wq g) hc
  · show (upd S.home x (some g) t).isSome = true
    rcases w.next.2.2 with h | h
    · rw [h, upd_at]; rfl
    · exact upd_some h.2.2
theorem mem_insT {x y : Int} : ∀ {l : List Int}, y ∈ insT x l ↔ y = x ∨ y ∈ l
  | [] => by simp [insT]
  | z :: l => by
    unfold insT
    split
    · simp only [List.mem_cons, mem_insT (l := l)]
      constructor
      · rintro (h | h | h)
        · exact .inr (.inl h)
        · exact .inl h
        · exact .inr (.inr h)
      · rintro (h | h | h)
        · exact .inr (.inl h)
        · exact .inl h
        · exact .inr (.inr h)
    · simp
theorem insT_lt {x : Int} : ∀ {l : List Int}, l.Pairwise (· < ·) → x ∉ l → (insT x l).Pairwise (· < ·)
  | [], _, _ => by simp [insT]
  | y :: l, h, hx => by
    obtain ⟨h1, h2⟩ := List.pairwise_cons.1 h
    have hy : x ≠ y := fun e => hx (by rw [e]; simp)
    unfold insT
    split
    · rename_i hlt
      refine List.pairwise_cons.2 ⟨fun z hz => ?_, insT_lt h2 (fun hm => hx (List.mem_cons_of_mem _ hm))⟩
      rcases mem_insT.1 hz with rfl | hz
      · exact hlt
      · exact h1 z hz
    · refine List.pairwise_cons.2 ⟨fun z hz => ?_, h⟩
      rcases List.mem_cons.1 hz with rfl | hz
      · omega
      · have := h1 z hz; omega
theorem way_task {t : Int} : ∀ {l : List Int} {a : Int}, IsWay S a l → t ∉ l → IsWay { S with tasks := insT t S.tasks } a l
  | [], a, h, _ => h
  | y :: l, a, h, ht => by
    obtain ⟨rfl, h2, h3, k, h4, h5⟩ := h
    refine ⟨rfl, h2, fun hm => ?_, k, h4, way_task h5 (fun hm => ht (List.mem_cons_of_mem _ hm))⟩
    rcases mem_insT.1 hm with e | hm
    · exact ht (by rw [← e]; simp)
    · exact h3 hm
theorem wp_last {t x g : Int} {k : Nat} {sn : List Int} (w : WP S t x k sn) {m : Mem} (hm : m.id = x) (hc : joinC m (S.Q g).1 (S.Q g).2 = 0) (ht0 : t ≠ 0) {r : List Int} (hr : IsWay S g r) (hk : k + r.length ≤ 8) (htr : t ∉ r) :
    WL { S with Q := upd S.Q g (joinL m (S.Q g).1 (S.Q g).2, (S.Q g).2), home := upd S.home x (some g), tasks := insT t S.tasks } := by
  have hg : g ≠ t ∧ g ∉ S.tasks := by
    cases r with
    | nil =>
      have hr : g = 0 := hr
      subst hr
      refine ⟨fun e => ht0 e.symm, fun h => ?_⟩
      have h1 := w.isHome 0 h
      cases hh : S.home 0 with
      | none => rw [hh] at h1; cases h1
      | some j =>
        have h2 := (w.home 0 j).1 hh
        cases hq : QuM.get (S.Q j).1 0 with
        | none => rw [hq] at h2; cases h2
        | some y =>
          obtain ⟨h3, h4⟩ := get_mem hq
          have := (w.qb j).each y h3
          omega
    | cons y r =>
      obtain ⟨rfl, _, h3, _⟩ := hr
      exact ⟨fun e => htr (by rw [← e]; simp), h3⟩
  have hQ : ∀ u, u ∈ S.tasks ∨ u = t → (upd S.Q g (joinL m (S.Q g).1 (S.Q g).2, (S.Q g).2) u).1 = [] := fun u hu => by
    rcases hu with hu | rfl
    · rw [upd_ne _ _ (fun e => hg.2 (by rw [← e]; exact hu))]
      exact w.noGroup u hu
    · rw [upd_ne _ _ (fun e => hg.1 e.symm)]
      exact w.new.2
  refine ⟨fun j => ?_, fun j => ?_, fun y j => join_home w hm hc y j, insT_lt w.tasks w.new.1, fun u hu => ?_, fun u hu => ?_, fun y j hy hn => ?_, fun y j hy => ?_, w.kept⟩
  · show WQ (upd S.Q g _ j).1
    unfold upd
    split
    · exact join_wq (w.wq g) _ _
    · exact w.wq j
  · show QB (upd S.Q g _ j).1 (upd S.Q g _ j).2
    unfold upd
    split
    · exact (w.qb g).join m
    · exact w.qb j
  · rcases mem_insT.1 hu with rfl | hu
    · show (upd S.home x (some g) u).isSome = true
      rcases w.next.2.2 with h | h
      · rw [h, upd_at]; rfl
      · exact upd_some h.2.2
    · exact upd_some (w.isHome u hu)
  · rcases mem_insT.1 hu with h | h
    · exact hQ u (.inr h)
    · exact hQ u (.inl h)
  · have hy : upd S.home x (some g) y = some j := hy
    have hn1 : y ≠ t := fun e => hn (mem_insT.2 (.inl e))
    have hn2 : y ∉ S.tasks := fun h => hn (mem_insT.2 (.inr h))
    apply joinQ_full (w.wq g) hc
    by_cases e : y = x
    · rcases w.next.2.2 with h | h
      · exact absurd (e.trans h) hn1
      · rw [e]; exact h.1
    · rw [upd_ne _ _ e] at hy
      exact w.full y j hy hn2 hn1
  · have hy : upd S.home x (some g) y = some j := hy
    have hr' : IsWay { S with Q := upd S.Q g (joinL m (S.Q g).1 (S.Q g).2, (S.Q g).2), home := upd S.home x (some g) } g r := way_upd w.next.1 hr
    by_cases e : y = x
    · rw [e, upd_at] at hy
      obtain rfl := Option.some.inj hy
      exact ⟨r, way_task hr' htr, by omega⟩
    · rw [upd_ne _ _ e] at hy
      rcases w.way y j hy with ⟨l, h1, h2, h3⟩ | ⟨l, h1, h2, h3⟩
      · exact ⟨l, way_task (way_upd (x := x) (g := g) (Q := upd S.Q g (joinL m (S.Q g).1 (S.Q g).2, (S.Q g).2)) w.next.1 h1) h3, h2⟩
      · refine ⟨l ++ r, way_task (up_way w.next.1 hr' h1 (fun z hz => ⟨(h3 z hz).2.1, (h3 z hz).2.2.1⟩)) ?_, by simp; omega⟩
        intro hm
        rcases List.mem_append.1 hm with hm | hm
        · exact (h3 t hm).2.2.2 rfl
        · exact htr hm
theorem odd_cons {s : St} {p : List St} {sn : List Int} (h : oddGo S (s :: p) sn = false) : 1 ≤ s.id ∧ s.id ∉ sn ∧ s.id ∉ S.tasks ∧ ((S.home s.id).isSome = true → S.home s.id = some (firstS p)) ∧ oddGo S p (sn ++ [s.id]) = false := by
  unfold oddGo at h
  split at h
  · cases h
  · rename_i hc
    refine ⟨?_, fun hm => hc (.inr (.inl hm)), fun hm => hc (.inr (.inr (.inl hm))), fun hs => ?_, h⟩
    · by_cases h1 : s.id < 1
      · exact absurd (.inl h1) hc
      · omega
    · by_cases he : S.home s.id = some (firstS p)
      · exact he
      · exact absurd (.inr (.inr (.inr ⟨hs, he⟩))) hc
theorem odd_notin : ∀ {p : List St} {sn : List Int}, oddGo S p sn = false → ∀ s ∈ p, s.id ∉ sn
  | [], sn, h, s, hs => by cases hs
  | a :: p, sn, h, s, hs => by
    obtain ⟨h1, h2, h3, h4, h5⟩ := odd_cons h
    rcases List.mem_cons.1 hs with rfl | hs
    · exact h2
    · exact fun hm => odd_notin h5 s hs (List.mem_append_left _ hm)
theorem odd_same {S' : LS} (ht : S'.tasks = S.tasks) : ∀ {p : List St} {sn : List Int}, (∀ s ∈ p, S'.home s.id = S.home s.id) → oddGo S' p sn = oddGo S p sn
  | [], sn, h => rfl
  | a :: p, sn, h => by
    unfold oddGo
    rw [ht, h a (by simp), odd_same ht (p := p) (sn := sn ++ [a.id]) (fun s hs => h s (List.mem_cons_of_mem _ hs))]
theorem up_head {x g : Int} : ∀ {l : List Int}, Up S x g l → g ∈ l
  | [], h => h.elim
  | [y], h => by rw [h.1]; simp
  | y :: z :: l, h => by rw [h.1]; simp
/-- A group with members, that was not seen, has its own queue. -/
theorem active_home {t x : Int} {k : Nat} {sn : List Int} (w : WP S t x k sn) {g y : Int} (hy : S.home y = some g) (hg0 : g ≠ 0) (hgs : g ∉ sn) : (S.home g).isSome = true := by
  rcases w.way y g hy with ⟨l, h1, _, _⟩ | ⟨l, h1, _, h3⟩
  · cases l with
    | nil => exact absurd h1 hg0
    | cons z l =>
      obtain ⟨_, _, _, k, hk, _⟩ := h1
      rw [hk]; rfl
  · exact absurd (h3 g (up_head h1)).1 hgs
/-- The way of an active group is the rest of the path. -/
theorem path_way {t x : Int} {k : Nat} {sn : List Int} (w : WP S t x k sn) : ∀ {p : List St} {sn' : List Int}, oddGo S p sn' = false → (∀ z ∈ sn, z ∈ sn') → (∀ s q, p = s :: q → (S.home s.id).isSome = true) → IsWay S (firstS p) (p.map St.id)
  | [], sn', _, _, _ => rfl
  | s :: p, sn', h, hsub, ha => by
    obtain ⟨h1, h2, h3, h4, h5⟩ := odd_cons h
    have hh := h4 (ha s p rfl)
    refine ⟨rfl, by show s.id ≠ 0; omega, h3, firstS p, hh, path_way w h5 (fun z hz => List.mem_append_left _ (hsub z hz)) fun s2 q e => ?_⟩
    subst e
    obtain ⟨k1, k2, k3, k4, k5⟩ := odd_cons h5
    exact active_home w hh (by show s2.id ≠ 0; omega) (fun hm => k2 (List.mem_append_left _ (hsub _ hm)))
theorem memberS_id (S : LS) (s : St) : (memberS S s).id = s.id := by
  unfold memberS
  split <;> rfl
theorem queue_home {t x : Int} {k : Nat} {sn : List Int} (w : WP S t x k sn) {g : Int} (h : (S.Q g).1 ≠ []) : ∃ y, S.home y = some g := by
  cases hL : (S.Q g).1 with
  | nil => exact absurd hL h
  | cons m l =>
    refine ⟨m.id, (w.home m.id g).2 ?_⟩
    cases hf : QuM.get (S.Q g).1 m.id with
    | some y => rfl
    | none =>
      have := get_none.1 hf m (by rw [hL]; simp)
      exact absurd rfl this
theorem enter_go {t : Int} (ht0 : t ≠ 0) : ∀ (p : List St) (S : LS) (x : Int) (k : Nat) (sn : List Int) (m : Mem), WP S t x k sn → m.id = x → oddGo S p sn = false → t ∈ sn → k + p.length ≤ 8 → (enterGo S p m).1 = 0 →
    WL { (enterGo S p m).2 with tasks := insT t (enterGo S p m).2.tasks }
  | [], S, x, k, sn, m, w, hm, ho, hts, hk, h => by
    unfold enterGo at h ⊢
    obtain ⟨L', e, hL, hc⟩ := join_is h
    rw [e, hL, hm]
    exact wp_last w hm hc ht0 (r := []) rfl (by simpa using hk) (by simp)
  | s :: p, S, x, k, sn, m, w, hm, ho, hts, hk, h => by
    unfold enterGo at h ⊢
    obtain ⟨h1, h2, h3, h4, h5⟩ := odd_cons ho
    have hne : s.id ≠ t := fun e => h2 (by rw [e]; exact hts)
    by_cases hj : (joinS S s.id m).1 = 0
    · rw [if_neg (by simpa using hj)] at h ⊢
      obtain ⟨L', e, hL, hc⟩ := join_is hj
      by_cases hq : (S.Q s.id).1 = []
      · rw [if_pos hq] at h ⊢
        have hh : S.home s.id = none := by
          cases hh : S.home s.id with
          | none => rfl
          | some j => exact absurd hq (w.full s.id j hh h3 hne)
        rw [e, hL, hm] at h ⊢
        have w' := wp_join w hm hc h2 hh (by omega) h3 hne
        refine enter_go ht0 p _ s.id (k + 1) (sn ++ [s.id]) (memberS S s) w' (memberS_id S s) ?_ (List.mem_append_left _ hts) (by simp at hk; omega) h
        rw [← h5]
        refine odd_same (S := S) (S' := { S with Q := upd S.Q s.id (joinL m (S.Q s.id).1 (S.Q s.id).2, (S.Q s.id).2), home := upd S.home x (some s.id) }) rfl (fun a ha => ?_)
        show upd S.home x (some s.id) a.id = S.home a.id
        exact upd_ne _ _ (fun e => odd_notin h5 a ha (by rw [e]; exact List.mem_append_left _ w.next.2.1))
      · rw [if_neg hq] at h ⊢
        rw [e, hL, hm]
        obtain ⟨y, hy⟩ := queue_home w hq
        have ha := active_home w hy (by omega) h2
        have hr := path_way w ho (fun z hz => hz) (fun s' q e => by cases e; exact ha)
        exact wp_last w hm hc ht0 (r := (s :: p).map St.id) hr (by simpa using hk) (fun hmm => by
          obtain ⟨a, ha, he⟩ := List.mem_map.1 hmm
          exact odd_notin ho a ha (by rw [he]; exact hts))
    · rw [if_pos hj] at h
      exact absurd h hj
theorem enter_first {p : List St} {m : Mem} (h : (enterGo S p m).1 = 0) : (joinS S (firstS p) m).1 = 0 := by
  cases p with
  | nil => exact h
  | cons s p =>
    unfold enterGo at h
    by_cases hj : (joinS S s.id m).1 = 0
    · exact hj
    · rw [if_pos hj] at h
      exact absurd h hj
/-- What always holds outlasts Enter. -/
theorem WL.enter (w : WL S) (p : List St) (hp : p.length ≤ 8) (m : Mem) : WL (enterS S p m).2 := by
  unfold enterS
  by_cases h1 : m.id ∈ S.tasks
  · rw [if_pos h1]; exact w
  rw [if_neg h1]
  by_cases h2 : oddS S p m.id = true
  · rw [if_pos h2]; exact w
  rw [if_neg h2]
  by_cases h3 : (enterGo S p m).1 = 0
  · rw [if_neg (by simpa using h3)]
    have ho : oddGo S p [m.id] = false ∧ (S.home m.id).isSome = false := by
      unfold oddS at h2
      simpa using h2
    have hh : S.home m.id = none := by
      cases hh : S.home m.id with
      | none => rfl
      | some j => rw [hh] at ho; cases ho.2
    obtain ⟨_, _, _, hc⟩ := join_is (enter_first h3)
    have h0 : m.id ≠ 0 := by
      have := (join_ok hc).1
      omega
    exact enter_go h0 p S m.id 0 [m.id] m (wp_start w h1 hh h0) rfl ho.1 (by simp) (by omega) h3
  · rw [if_pos h3]; exact w
end Go.Proofs.Ytpgfenelckonoaa.LaM
namespace Go.Proofs.Ytpgfenelckonoaa.LaM
open Go.Proofs.Ytpgfenelckonoaa.ShM Go.Proofs.Ytpgfenelckonoaa.QuM
set_option linter.unusedVariables false
variable {S : LS}
/-- What holds while groups leave: all, but that g may be without members. -/
structure WE (S : LS) (g : Int) : Prop where
  wq : ∀ j, WQ (S.Q j).1
  qb : ∀ j, QB (S.Q j).1 (S.Q j).2
  home : ∀ y j, S.home y = some j ↔ (QuM.get (S.Q j).1 y).isSome = true
  tasks : S.tasks.Pairwise (· < ·)
  isHome : ∀ u ∈ S.tasks, (S.home u).isSome = true
  noGroup : ∀ u ∈ S.tasks, (S.Q u).1 = []
  full : ∀ y j, S.home y = some j → y ∉ S.tasks → y ≠ g → (S.Q y).1 ≠ []
  way : ∀ y j, S.home y = some j → ∃ l, IsWay S j l ∧ l.length ≤ 8
  kept : ∀ j k, S.kept j = some k → 1 ≤ k.wt ∧ k.wt ≤ 1048576 ∧ 0 ≤ k.rem ∧ k.rem < k.wt ∧ 0 ≤ k.v ∧ k.v ≤ 2305843009213693952
  grp : g ∉ S.tasks
theorem we_zero {g : Int} (w : WE S g) : S.home 0 = none := by
  cases h : S.home 0 with
  | none => rfl
  | some j =>
    have h2 := (w.home 0 j).1 h
    cases hq : QuM.get (S.Q j).1 0 with
    | none => rw [hq] at h2; cases h2
    | some y =>
      obtain ⟨h3, h4⟩ := get_mem hq
      have := (w.qb j).each y h3
      omega
theorem we_end {g : Int} (w : WE S g) (h : ¬ (g ≠ 0 ∧ (S.Q g).1 = [])) : WL S :=
  ⟨w.wq, w.qb, w.home, w.tasks, w.isHome, w.noGroup, fun y j hy hn => by
    by_cases e : y = g
    · subst e
      intro hq
      refine h ⟨fun e => ?_, hq⟩
      rw [e, we_zero w] at hy
      cases hy
    · exact w.full y j hy hn e, w.way, w.kept⟩
theorem way_past {g : Int} (w : WE S g) (hq : (S.Q g).1 = []) : ∀ {l : List Int} {y j : Int}, S.home y = some j → IsWay S j l → g ∉ l
  | [], y, j, _, _ => by simp
  | x :: l, y, j, hy, h => by
    obtain ⟨rfl, h2, h3, k, h4, h5⟩ := h
    intro hm
    rcases List.mem_cons.1 hm with e | hm
    · have h6 := (w.home y x).1 hy
      rw [← e, hq] at h6
      simp [QuM.get] at h6
    · exact way_past w hq h4 h5 hm
theorem way_quit {g : Int} {Q : Int → List Mem × Int} {K : Int → Option Mem} : ∀ {l : List Int} {a : Int}, IsWay S a l → g ∉ l → IsWay { S with Q := Q, home := upd S.home g none, kept := K } a l
  | [], a, h, _ => h
  | y :: l, a, h, hn => by
    obtain ⟨rfl, h2, h3, k, h4, h5⟩ := h
    refine ⟨rfl, h2, h3, k, ?_, way_quit h5 (fun hm => hn (List.mem_cons_of_mem _ hm))⟩
    show upd S.home g none y = some k
    rw [upd_ne _ _ (fun e => hn (by rw [e]; simp))]
    exact h4
theorem we_quit {g h : Int} {K : Int → Option Mem} (w : WE S g) (hq : (S.Q g).1 = []) (hh : S.home g = some h) (hK : ∀ j k, K j = some k → 1 ≤ k.wt ∧ k.wt ≤ 1048576 ∧ 0 ≤ k.rem ∧ k.rem < k.wt ∧ 0 ≤ k.v ∧ k.v ≤ 2305843009213693952) :
    WE { S with Q := upd S.Q h (del (S.Q h).1 g, (S.Q h).2), home := upd S.home g none, kept := K } h := by
  obtain ⟨r, hr, hr8⟩ := w.way g h hh
  have hht : h ∉ S.tasks := by
    cases r with
    | nil =>
      have hr : h = 0 := hr
      subst hr
      intro hm
      have := w.isHome 0 hm
      rw [we_zero w] at this
      cases this
    | cons z r =>
      obtain ⟨rfl, _, h3, _⟩ := hr
      exact h3
  refine ⟨fun j => ?_, fun j => ?_, fun y j => ?_, w.tasks, fun u hu => ?_, fun u hu => ?_, fun y j hy hn ht => ?_, fun y j hy => ?_, hK, hht⟩
  · show WQ (upd S.Q h _ j).1
    unfold upd
    split
    · exact del_wq (w.wq h) _
    · exact w.wq j
  · show QB (upd S.Q h _ j).1 (upd S.Q h _ j).2
    unfold upd
    split
    · exact (w.qb h).del _
    · exact w.qb j
  · show upd S.home g none y = some j ↔ (QuM.get (upd S.Q h (del (S.Q h).1 g, (S.Q h).2) j).1 y).isSome = true
    unfold upd
    by_cases hj : j = h
    · subst hj
      rw [if_pos rfl]
      dsimp only
      rw [get_del (w.wq j)]
      by_cases hy : y = g
      · rw [if_pos hy, if_pos hy]; simp
      · rw [if_neg hy, if_neg hy]
        exact w.home y j
    · rw [if_neg hj]
      by_cases hy : y = g
      · rw [if_pos hy]
        constructor
        · intro h; cases h
        · intro h2
          have := (w.home y j).2 h2
          rw [hy, hh] at this
          exact absurd (Option.some.inj this).symm hj
      · rw [if_neg hy]
        exact w.home y j
  · show (upd S.home g none u).isSome = true
    rw [upd_ne _ _ (fun e => w.grp (by rw [← e]; exact hu))]
    exact w.isHome u hu
  · show (upd S.Q h _ u).1 = []
    rw [upd_ne _ _ (fun e => hht (by rw [← e]; exact hu))]
    exact w.noGroup u hu
  · have hy : upd S.home g none y = some j := hy
    have hyg : y ≠ g := fun e => by rw [e, upd_at] at hy; cases hy
    rw [upd_ne _ _ hyg] at hy
    show (upd S.Q h _ y).1 ≠ []
    rw [upd_ne _ _ ht]
    exact w.full y j hy hn hyg
  · have hy : upd S.home g none y = some j := hy
    have hyg : y ≠ g := fun e => by rw [e, upd_at] at hy; cases hy
    rw [upd_ne _ _ hyg] at hy
    obtain ⟨l, hl, hn⟩ := w.way y j hy
    exact ⟨l, way_quit hl (way_past w hq hy hl), hn⟩
theorem memS_ok {g h : Int} (w : WE S g) (hh : S.home g = some h) : 1 ≤ (memS S h g).wt ∧ (memS S h g).wt ≤ 1048576 ∧ 0 ≤ (memS S h g).rem ∧ (memS S h g).rem < (memS S h g).wt ∧ 0 ≤ (memS S h g).v ∧ (memS S h g).v ≤ 2305843009213693952 := by
  have h1 := (w.home g h).1 hh
  cases hq : QuM.get (S.Q h).1 g with
  | none => rw [hq] at h1; cases h1
  | some m =>
    obtain ⟨e1, e2, e3, e4, e5, e6, e7, e8⟩ := (w.qb h).each m (get_mem hq).1
    have hb := (w.qb h).b0
    have e : memS S h g = { m with v := m.v - (S.Q h).2 } := by unfold memS; rw [hq]
    rw [e]
    refine ⟨e3, e4, e5, e6, ?_, ?_⟩
    · show 0 ≤ m.v - (S.Q h).2; omega
    · show m.v - (S.Q h).2 ≤ _; omega
theorem leave_go : ∀ (n : Nat) (S : LS) (g : Int), WE S g → (g = 0 ∨ ∃ h l, S.home g = some h ∧ IsWay S h l ∧ l.length + 1 < n) → 0 < n → WL (leaveGo n S g)
  | 0, S, g, w, hl, hn => absurd hn (Nat.lt_irrefl _)
  | n + 1, S, g, w, hl, hn => by
    unfold leaveGo
    by_cases hc : g ≠ 0 ∧ (S.Q g).1 = []
    · rw [if_pos hc]
      rcases hl with h0 | ⟨h, l, hh, hw, hln⟩
      · exact absurd h0 hc.1
      · have w' := we_quit (K := upd S.kept g (some (memS S h g))) w hc.2 hh (fun j k hk => by
          unfold upd at hk
          split at hk
          · cases hk
            exact memS_ok w hh
          · exact w.kept j k hk)
        have e : ({ (quitS S g) with kept := upd S.kept g (some (memS S ((S.home g).getD 0) g)) } : LS) = { S with Q := upd S.Q h (del (S.Q h).1 g, (S.Q h).2), home := upd S.home g none, kept := upd S.kept g (some (memS S h g)) } := by
          unfold quitS
          rw [hh]
          rfl
        rw [e, hh]
        refine leave_go n _ h w' ?_ (by omega)
        cases l with
        | nil => exact .inl hw
        | cons z l =>
          obtain ⟨rfl, h2, h3, k, h4, h5⟩ := hw
          have hgz : z ≠ g := fun e => by
            subst e
            have := (w.home z z).1 hh
            rw [hc.2] at this
            simp [QuM.get] at this
          refine .inr ⟨k, l, ?_, way_quit h5 (way_past w hc.2 h4 h5), by simp at hln; omega⟩
          show upd S.home g none z = some k
          rw [upd_ne _ _ hgz]
          exact h4
    · rw [if_neg hc]
      exact we_end w hc
theorem leave_tasks (T : List Int) : ∀ (n : Nat) (S : LS) (g : Int), ({ (leaveGo n S g) with tasks := T } : LS) = leaveGo n { S with tasks := T } g
  | 0, S, g => rfl
  | n + 1, S, g => by
    unfold leaveGo
    by_cases hc : g ≠ 0 ∧ (S.Q g).1 = []
    · rw [if_pos hc, if_pos hc]
      exact leave_tasks T n _ _
    · rw [if_neg hc, if_neg hc]
theorem way_less {T : List Int} (hT : ∀ u ∈ T, u ∈ S.tasks) : ∀ {l : List Int} {a : Int}, IsWay S a l → IsWay { S with tasks := T } a l
  | [], a, h => h
  | y :: l, a, h => by
    obtain ⟨rfl, h2, h3, k, h4, h5⟩ := h
    exact ⟨rfl, h2, fun hm => h3 (hT _ hm), k, h4, way_less hT h5⟩
/-- What always holds outlasts Leave. -/
theorem WL.leave (w : WL S) (id : Int) : WL (leaveS S id).2.2 := by
  unfold leaveS
  by_cases ht : id ∈ S.tasks
  · rw [if_pos ht]
    dsimp only
    rw [leave_tasks]
    have hT : ∀ u, u ∈ S.tasks.filter (fun x => decide (x ≠ id)) ↔ u ∈ S.tasks ∧ u ≠ id := fun u => by simp
    have w0 : WE { S with tasks := S.tasks.filter fun x => decide (x ≠ id) } id :=
      ⟨w.wq, w.qb, w.home, w.tasks.filter _, fun u hu => w.isHome u ((hT u).1 hu).1, fun u hu => w.noGroup u ((hT u).1 hu).1, fun y j hy hn hne => w.full y j hy (fun hm => hn ((hT y).2 ⟨hm, hne⟩)), fun y j hy => by
        obtain ⟨l, hl, hn⟩ := w.way y j hy
        exact ⟨l, way_less (fun u hu => ((hT u).1 hu).1) hl, hn⟩, w.kept, fun hm => ((hT id).1 hm).2 rfl⟩
    have h1 := w.isHome id ht
    cases hh : S.home id with
    | none => rw [hh] at h1; cases h1
    | some g =>
      obtain ⟨r, hr, hr8⟩ := w0.way id g hh
      have hq := w.noGroup id ht
      have w1 := we_quit (K := S.kept) w0 hq hh w.kept
      have e : ({ (quitS S id) with tasks := S.tasks.filter fun x => decide (x ≠ id) } : LS) = { S with tasks := S.tasks.filter fun x => decide (x ≠ id), Q := upd S.Q g (del (S.Q g).1 id, (S.Q g).2), home := upd S.home id none } := by
        unfold quitS
        rw [hh]
        rfl
      rw [e]
      refine leave_go 16 _ g w1 ?_ (by omega)
      cases r with
      | nil => exact .inl hr
      | cons z r =>
        obtain ⟨rfl, h2, h3, k, h4, h5⟩ := hr
        have hgz : z ≠ id := fun e => by
          subst e
          have := (w.home z z).1 hh
          rw [hq] at this
          simp [QuM.get] at this
        refine .inr ⟨k, r, ?_, way_quit (K := S.kept) h5 (way_past w0 hq h4 h5), by simp at hr8; omega⟩
        show upd S.home id none z = some k
        rw [upd_ne _ _ hgz]
        exact h4
  · rw [if_neg ht]
    exact w
end Go.Proofs.Ytpgfenelckonoaa.LaM
namespace Go.Proofs.Ytpgfenelckonoaa.LaM
open Go.Proofs.Ytpgfenelckonoaa.ShM Go.Proofs.Ytpgfenelckonoaa.QuM
set_option linter.unusedVariables false
variable {S : LS}
/-- What is done: 1 m enters by p, 2 m's number leaves, 3 it runs, 4 it has the weight n, 5 who is picked runs, 6 the group n is forgotten. -/
structure LOp where
  d : Int
  m : Mem
  p : List St
  n : Int
  shut : List Int
def pickS (S : LS) (shut : List Int) : Int := nextF S shut 16 0
/-- Whose value is answered, what number, and what there is then. -/
def doS (S : LS) (o : LOp) : Option Mem × Int × LS :=
  if o.d = 1 then (none, enterS S o.p o.m)
  else if o.d = 2 then leaveS S o.m.id
  else if o.d = 3 then (none, runS S o.m.id)
  else if o.d = 4 then (none, weighS S o.m.id o.n)
  else if o.d = 5 then (some ⟨pickS S o.shut, 0, 0, 0⟩, runS S (pickS S o.shut))
  else if o.d = 6 then (none, forgetS S o.n)
  else (none, 0, S)
theorem WL.doS (w : WL S) (o : LOp) (hp : o.p.length ≤ 8) : WL (doS S o).2.2 := by
  unfold LaM.doS
  split
  · exact w.enter o.p hp o.m
  split
  · exact w.leave o.m.id
  split
  · exact w.run o.m.id
  split
  · exact w.weigh o.m.id o.n
  split
  · exact w.run _
  split
  · exact w.forget o.n
  · exact w
def walkedS (l : List LOp) : LS := l.foldl (fun S o => (LaM.doS S o).2.2) LS.new
theorem walkedS_snoc (l : List LOp) (i : Nat) (o : LOp) (h : l[i]? = some o) : walkedS (l.take (i + 1)) = (LaM.doS (walkedS (l.take i)) o).2.2 := by
  obtain ⟨h1, rfl⟩ := List.getElem?_eq_some_iff.1 h
  unfold walkedS
  rw [List.take_add_one, List.getElem?_eq_getElem h1, List.foldl_append]
  rfl
theorem walkedS_ok (l : List LOp) (h : ∀ o ∈ l, o.p.length ≤ 8) : WL (walkedS l) := by
  have key : ∀ (l : List LOp) (S : LS), WL S → (∀ o ∈ l, o.p.length ≤ 8) → WL (l.foldl (fun S o => (LaM.doS S o).2.2) S) := by
    intro l
    induction l with
    | nil => intro S w _; exact w
    | cons o l ih => intro S w h; exact ih _ (w.doS o (h o (by simp))) (fun o' ho => h o' (List.mem_cons_of_mem _ ho))
  exact key l LS.new WL.new h
theorem weigh_fails (S : LS) (id u : Int) (h : (weighS S id u).1 ≠ 0) : (weighS S id u).2 = S := by
  unfold weighS at h ⊢
  cases hh : S.home id with
  | none => rfl
  | some g =>
    rw [hh] at h
    dsimp only at h ⊢
    rcases weigh_cases (S.Q g).1 id u with ⟨_, e⟩ | ⟨m, _, _, _, e⟩
    · have e2 : ((weighR (S.Q g).1 id u).2, (S.Q g).2) = S.Q g := by rw [e]
      rw [e2, upd_self]
    · rw [e] at h
      exact absurd rfl h
theorem forget_fails (S : LS) (g : Int) (h : (forgetS S g).1 ≠ 0) : (forgetS S g).2 = S := by
  unfold forgetS at h ⊢
  split
  · rename_i hq
    rw [if_pos hq] at h
    exact absurd rfl h
  · rfl
/-- What fails changes nothing. -/
theorem do_fails (S : LS) (o : LOp) (h : (doS S o).2.1 ≠ 0) : (doS S o).2.2 = S := by
  unfold doS at h ⊢
  by_cases h1 : o.d = 1
  · rw [if_pos h1] at h ⊢; exact enter_fails S _ _ h
  rw [if_neg h1] at h ⊢
  by_cases h2 : o.d = 2
  · rw [if_pos h2] at h ⊢
    unfold leaveS at h ⊢
    split
    · rename_i ht
      rw [if_pos ht] at h
      exact absurd rfl h
    · rfl
  rw [if_neg h2] at h ⊢
  by_cases h3 : o.d = 3
  · rw [if_pos h3] at h ⊢; exact run_fails S _ h
  rw [if_neg h3] at h ⊢
  by_cases h4 : o.d = 4
  · rw [if_pos h4] at h ⊢; exact weigh_fails S _ _ h
  rw [if_neg h4] at h ⊢
  by_cases h5 : o.d = 5
  · rw [if_pos h5] at h ⊢; exact run_fails S _ h
  rw [if_neg h5] at h ⊢
  by_cases h6 : o.d = 6
  · rw [if_pos h6] at h ⊢; exact forget_fails S _ h
  rw [if_neg h6] at h
  exact absurd rfl h
end Go.Proofs.Ytpgfenelckonoaa.LaM

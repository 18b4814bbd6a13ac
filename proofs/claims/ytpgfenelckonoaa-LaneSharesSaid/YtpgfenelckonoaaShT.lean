/- A range over a function whose iterator ranges over functions itself: what it promises, and the statement. -/
import Derived.RangeFuncNested
import Derived.RangeFuncBound
import Derived.RangeFuncLeaves
import Derived.Test.YtpgfenelckonoaaShQ
namespace Go.Proofs.Ytpgfenelckonoaa.Seq
open Go.RowKit
set_option linter.unusedVariables false
set_option linter.unusedSimpArgs false
/-- The blocks that are not of M lie as they lay. -/
structure Lie (M : Nat → Prop) (W W' : World) : Prop where
  size : W.heap.size ≤ W'.heap.size
  same : ∀ k, k < W.heap.size → ¬ M k → W'.heap[k]? = W.heap[k]?
/-- The blocks of S lie as they lay, and so do the streams. -/
structure Agree (S : Nat → Prop) (W W' : World) : Prop where
  os : W'.os = W.os
  tape : W'.tape = W.tape
  output : W'.output = W.output
  size : W.heap.size ≤ W'.heap.size
  same : ∀ k, k < W.heap.size → S k → W'.heap[k]? = W.heap[k]?
def Abide {α : Type} (B : Nat) (J : (Nat → Prop) → List α → World → Prop) : Prop := ∀ M s A A', J M s A → Agree (fun k => k < B ∨ M k) A A' → J M s A'
/-- What a round may have come to own. -/
def Grows (M M' : Nat → Prop) (W W' : World) : Prop := ∀ k, M' k → k < W'.heap.size ∧ (M k ∨ W.heap.size ≤ k)
def RoundPost {α : Type} (J Jx : (Nat → Prop) → List α → World → Prop) (M : Nat → Prop) (xs : List α) (W : World) (e : Ending) (W' : World) : Prop :=
  Lie M W W' ∧ ∃ M', Grows M M' W W' ∧ ((e = .returned (.bool true) ∧ J M' xs W') ∨ (e = .returned (.bool false) ∧ Jx M' xs W'))
def SeqEnd {α : Type} (J Jx : (Nat → Prop) → List α → World → Prop) (xs : List α) (e : Ending) (W' : World) : Prop :=
  (∃ v, e = .returned v) ∧ ∃ M', J M' xs W' ∨ ∃ pre, pre <+: xs ∧ Jx M' pre W'
/-- The function value g, at lb, walks xs; it reads the blocks of Rd. -/
def SeqAt {α : Type} (P : Program) (g : Nat) (lb : Array Value) (encs : α → Array Value) (xs : List α) (Rd : Nat → Prop) (W : World) : Prop :=
  ∀ (l : Nat) (J Jx : (Nat → Prop) → List α → World → Prop) (M : Nat → Prop), Abide W.heap.size J → Abide W.heap.size Jx → (∀ k, M k → k < W.heap.size ∧ ¬ Rd k) → J M [] W →
    (∀ M pre x W1, J M pre W1 → (∀ k, M k → k < W1.heap.size) → pre ++ [x] <+: xs → ∀ m, YieldAt Fence.wide m P l (encs x) W1 (RoundPost J Jx M (pre ++ [x]) W1)) →
    Calls P g (#[.func (.yield l) #[] #[]] ++ lb) W (SeqEnd J Jx xs)
theorem Agree.refl (S : Nat → Prop) (W : World) : Agree S W W := ⟨rfl, rfl, rfl, Nat.le_refl _, fun _ _ _ => rfl⟩
theorem Agree.trans {S : Nat → Prop} {A B C : World} (h : Agree S A B) (k : Agree S B C) : Agree S A C :=
  ⟨k.os.trans h.os, k.tape.trans h.tape, k.output.trans h.output, Nat.le_trans h.size k.size, fun i hi hs => (k.same i (Nat.lt_of_lt_of_le hi h.size) hs).trans (h.same i hi hs)⟩
theorem Agree.mono {S S' : Nat → Prop} {A B : World} (h : Agree S A B) (hs : ∀ k, S' k → S k) : Agree S' A B := ⟨h.os, h.tape, h.output, h.size, fun k hk h' => h.same k hk (hs k h')⟩
theorem Agree.of_below {S : Nat → Prop} {A B : World} (h : Below A.heap.size A B) : Agree S A B := ⟨h.os, h.tape, h.output, h.size, fun k hk _ => h.block k hk⟩
theorem Agree.putObj {S : Nat → Prop} (W : World) {l : Nat} (o : Obj) (h : ¬ S l) : Agree S W (W.putObj l o) :=
  ⟨rfl, rfl, rfl, by simp, fun k _ hk => World.putObj_heap_other (fun e => h (by rw [← e]; exact hk))⟩
theorem Lie.refl (M : Nat → Prop) (W : World) : Lie M W W := ⟨Nat.le_refl _, fun _ _ _ => rfl⟩
theorem Lie.trans {M : Nat → Prop} {A B C : World} (h : Lie M A B) (k : Lie M B C) : Lie M A C :=
  ⟨Nat.le_trans h.size k.size, fun i hi hm => (k.same i (Nat.lt_of_lt_of_le hi h.size) hm).trans (h.same i hi hm)⟩
theorem Lie.mono {M M' : Nat → Prop} {A B : World} (h : Lie M A B) (hs : ∀ k, M k → M' k) : Lie M' A B := ⟨h.size, fun k hk h' => h.same k hk (fun e => h' (hs k e))⟩
theorem Lie.of_below {M : Nat → Prop} {A B : World} (h : Below A.heap.size A B) : Lie M A B := ⟨h.size, fun k hk _ => h.block k hk⟩
/-- What a round's body owes, from the world w₂ in which it begins; W is the world at the round's start. -/
def BodyPost {α : Type} (I : (Nat → Prop) → List α → World → Prop) (Ix : Code → (Nat → Prop) → List α → World → Prop) (M : Nat → Prop) (xs : List α) (W w₂ : World) : Exit → Act → World → Prop
  | .normal, _, W' => Lie (fun k => M k ∨ W.heap.size ≤ k) w₂ W' ∧ ∃ M', Grows M M' W W' ∧ I M' xs W'
  | .ret, _, W' => Lie (fun k => M k ∨ W.heap.size ≤ k) w₂ W' ∧ ∃ M', Grows M M' W W' ∧ Ix .ret M' xs W'
  | .exit id, _, W' => Lie (fun k => M k ∨ W.heap.size ≤ k) w₂ W' ∧ ∃ M', Grows M M' W W' ∧ Ix (.exit id) M' xs W'
  | .goto t, _, W' => Lie (fun k => M k ∨ W.heap.size ≤ k) w₂ W' ∧ ∃ M', Grows M M' W W' ∧ Ix (.goto t) M' xs W'
  | .panic _, _, _ => False
  | .outgrown, _, _ => False
def plusL (M : Nat → Prop) (l : Nat) : Nat → Prop := fun k => M k ∨ k = l
theorem wpIn_rangeO {α : Type} {P : Program} {g : Operand} {ps : Array Tmp} {assign body : Code} {Q : Exit → Act → World → Prop} {a : Act} {w : World} {n : Nat}
    {gf : Nat} {lb : Array Value} (hg : a.eval g = .func (.func gf) #[] lb) (eg : ∀ args w, (callFunc gf args).run P w = .ok (.enter gf args) w)
    {encs : α → Array Value} {xs : List α} {Rd : Nat → Prop} (hseq : ∀ W, Below w.heap.size w W → SeqAt P gf lb encs xs Rd W) (hps : ∀ x, (encs x).size = ps.size)
    (I : (Nat → Prop) → List α → World → Prop) (Ix : Code → (Nat → Prop) → List α → World → Prop) (hI : Abide w.heap.size I) (hIx : ∀ c, Abide w.heap.size (Ix c))
    (M0 : Nat → Prop) (hM0 : ∀ k, M0 k → k < w.heap.size ∧ ¬ Rd k) (hRd : ∀ k, Rd k → k < w.heap.size) (h0 : I M0 [] w)
    (hround : ∀ (m l : Nat) (M : Nat → Prop) (pre : List α) (x : α) (W : World), pre ++ [x] <+: xs → I M pre W → (∀ k, M k → k < W.heap.size) → w.heap.size ≤ l → l < W.heap.size → ¬ M l →
      assign.wpIn (Fence.wide.inRound l) m P (Exit.then (fun a₁ w₁ => Below W.heap.size W w₁ ∧ ∀ w₂, I M pre w₂ → w₂.heap.size = w₁.heap.size → (∀ k, k ≠ l → w₂.heap[k]? = w₁.heap[k]?) → body.wpIn (Fence.wide.inRound l) m P (BodyPost I Ix M (pre ++ [x]) W w₂) a₁ w₂) (fun _ _ _ => False))
        { tmps := (ps.zip (encs x)).foldl (fun t (p, v) => t.setIfInBounds p v) a.tmps, defers := [] } W)
    (hdone : ∀ (D : Nat) (M : Nat → Prop) (W : World), w.heap.size ≤ D → ¬ M D → I M xs W → W.heap[D]? = some (.deferred (some [])) → Q .normal { a with defers := { target := .collected D, args := #[] } :: a.defers } W)
    (hstop : ∀ (D : Nat) (M : Nat → Prop) (c : Code) (pre : List α) (W : World), w.heap.size ≤ D → ¬ M D → pre <+: xs → Ix c M pre W → W.heap[D]? = some (.deferred (some [])) → c.wpIn Fence.wide n P Q { a with defers := { target := .collected D, args := #[] } :: a.defers } W) :
    (Code.rangeFunc g ps assign body).wpIn Fence.wide n P Q a w := by
  refine wpIn_rangeFunc ?_
  intro fn _
  obtain ⟨S, hS⟩ : ∃ S, S = w.heap.size := ⟨_, rfl⟩
  obtain ⟨rec, hrec⟩ : ∃ rec : LoopState → Option Code → Loop, rec = fun st pe => { state := st, pending := pe, fn, tmps := a.tmps, params := ps, assign, body, defers := S } := ⟨_, rfl⟩
  have rst : ∀ st pe, (rec st pe).state = st := fun st pe => by rw [hrec]
  have rpe : ∀ st pe, (rec st pe).pending = pe := fun st pe => by rw [hrec]
  have rto : ∀ st pe st' pe', { rec st pe with state := st', pending := pe' } = rec st' pe' := fun _ _ _ _ => by rw [hrec]
  obtain ⟨W1, hW1⟩ : ∃ W1, W1 = (w.alloc (.deferred (some []))).alloc (.loop (rec .ready none)) := ⟨_, rfl⟩
  have b1 : Below w.heap.size w W1 := by rw [hW1]; exact ((Below.refl _ w).alloc (Nat.le_refl _) _).alloc (by simp) _
  have z1 : W1.heap.size = S + 2 := by rw [hW1, hS]; simp
  have l1 : W1.heap[S + 1]? = some (.loop (rec .ready none)) := by
    rw [hW1, hS]; have := World.alloc_heap_new (w.alloc (.deferred (some []))) (.loop (rec .ready none)); rwa [World.size_alloc] at this
  have d1 : W1.heap[S]? = some (.deferred (some [])) := by
    rw [hW1, hS]; exact (Below.heap_alloc _ _ _ (by simp)).trans (World.alloc_heap_new w _)
  refine ⟨S + 1, [{ target := .collected S, args := #[] }], W1, { target := .fn (.func gf) lb, args := #[.func (.yield (S + 1)) #[] #[]] }, W1, gf, #[.func (.yield (S + 1)) #[] #[]] ++ lb, W1, ?_, ?_, ?_, ?_, fun h => (by cases h), ?_⟩
  · rw [hW1, hrec, hS]; exact run_enterLoop_outer _ _ _ _ _
  · simp only [resolve, hg]
    simp [go_sem]
  · intro f' _; trivial
  · simp [invoke, go_sem, eg]
  refine callsIn_wide.2 ?_
  have stays : ∀ {M : Nat → Prop} {N : Nat → Prop} {J : (Nat → Prop) → List α → World → Prop} {s : List α} {A A' : World}, Abide w.heap.size J → J M s A → (∀ k, M k → N k) → Agree (fun k => k < W1.heap.size ∨ N k) A A' → J M s A' :=
    fun hJ hj hn ha => hJ _ _ _ _ hj (ha.mono fun k hk => hk.elim (fun h => .inl (by omega)) fun h => .inr (hn k h))
  refine (hseq W1 b1 (S + 1)
    (fun N pre W => ∃ M, N = plusL M (S + 1) ∧ ¬ M (S + 1) ∧ ¬ M S ∧ I M pre W ∧ W.heap[S + 1]? = some (.loop (rec .ready none)) ∧ W.heap[S]? = some (.deferred (some [])))
    (fun N pre W => ∃ M c, N = plusL M (S + 1) ∧ ¬ M (S + 1) ∧ ¬ M S ∧ Ix c M pre W ∧ W.heap[S + 1]? = some (.loop (rec .done (some c))) ∧ W.heap[S]? = some (.deferred (some [])))
    (plusL M0 (S + 1)) ?_ ?_ ?_ ?_ ?_).mono ?_
  · rintro N s A A' ⟨M, rfl, n1, n2, hi, hl, hd⟩ ha
    have ll := (Array.getElem?_eq_some_iff.1 hl).1
    exact ⟨M, rfl, n1, n2, stays hI hi (fun k h => .inl h) ha, (ha.same _ ll (.inl (by omega))).trans hl, (ha.same _ (by omega) (.inl (by omega))).trans hd⟩
  · rintro N s A A' ⟨M, c, rfl, n1, n2, hi, hl, hd⟩ ha
    have ll := (Array.getElem?_eq_some_iff.1 hl).1
    exact ⟨M, c, rfl, n1, n2, stays (hIx c) hi (fun k h => .inl h) ha, (ha.same _ ll (.inl (by omega))).trans hl, (ha.same _ (by omega) (.inl (by omega))).trans hd⟩
  · rintro k (h | rfl)
    · have := hM0 k h; exact ⟨by omega, this.2⟩
    · exact ⟨by omega, fun e => by have := hRd _ e; omega⟩
  · exact ⟨M0, rfl, fun h => by have := (hM0 _ h).1; omega, fun h => by have := (hM0 _ h).1; omega, hI _ _ _ _ h0 (Agree.of_below b1), l1, d1⟩
  · rintro N pre x W ⟨M, rfl, n1, n2, hi, hl, hd⟩ hN hpre m
    have ll := (Array.getElem?_eq_some_iff.1 hl).1
    have hy := run_yield (P := P) (args := encs x) hl (by rw [hrec]; exact hps x)
    rw [hrec] at hy
    refine ⟨fn, _, assign, body, hy, ?_⟩
    clear hy
    have hF : Fence.wide.fn fn := trivial
    refine roundIn_of_wpIn hF (wpIn_mono (hround m (S + 1) M pre x W hpre hi (fun k h => hN k (.inl h)) (by omega) ll n1) ?_)
    intro e a₁ w₁ h
    cases e with
    | normal =>
      obtain ⟨hb, hbody⟩ := h
      have hl1 : w₁.heap[S + 1]? = some (.loop (rec .ready none)) := (hb.block _ ll).trans hl
      have hd1 : w₁.heap[S]? = some (.deferred (some [])) := (hb.block _ (by omega)).trans hd
      have ll1 := (Array.getElem?_eq_some_iff.1 hl1).1
      refine ⟨_, run_beginRound hl1 (rst _ _), ?_⟩
      obtain ⟨w₂, hw2⟩ : ∃ w₂, w₂ = w₁.putObj (S + 1) (.loop { rec .ready none with state := .busy }) := ⟨_, rfl⟩
      rw [← hw2]
      have hl2 : w₂.heap[S + 1]? = some (.loop { rec .ready none with state := .busy }) := by rw [hw2]; exact World.putObj_heap_same ll1
      have o2 : ∀ k, k ≠ S + 1 → w₂.heap[k]? = w₁.heap[k]? := fun k h => by rw [hw2]; exact World.putObj_heap_other h
      have s2 : w₂.heap.size = w₁.heap.size := by rw [hw2]; simp
      have hd2 : w₂.heap[S]? = some (.deferred (some [])) := (o2 _ (by omega)).trans hd1
      have hi2 : I M pre w₂ := by
        rw [hw2]
        refine hI _ _ _ _ (hI _ _ _ _ hi (Agree.of_below hb)) (Agree.putObj _ _ ?_)
        rintro (h | h)
        · omega
        · exact n1 h
      refine wpIn_mono (hbody w₂ hi2 s2 o2) ?_
      have fin : ∀ (jump : Option Code) (W3 : World), Lie (fun k => M k ∨ W.heap.size ≤ k) w₂ W3 →
          (Instr.endRound (S + 1) jump).run P W3 = .ok (.bool jump.isNone) (W3.putObj (S + 1) (.loop (rec (if jump.isNone then .ready else .done) jump))) ∧
          (W3.putObj (S + 1) (.loop (rec (if jump.isNone then .ready else .done) jump))).heap[S + 1]? = some (.loop (rec (if jump.isNone then .ready else .done) jump)) ∧
          (W3.putObj (S + 1) (.loop (rec (if jump.isNone then .ready else .done) jump))).heap[S]? = some (.deferred (some [])) ∧
          Lie (plusL M (S + 1)) W (W3.putObj (S + 1) (.loop (rec (if jump.isNone then .ready else .done) jump))) := fun jump W3 hk => by
        have q1 : ¬ (M (S + 1) ∨ W.heap.size ≤ S + 1) := fun e => e.elim n1 (by omega)
        have q2 : ¬ (M S ∨ W.heap.size ≤ S) := fun e => e.elim n2 (by omega)
        have h3 : W3.heap[S + 1]? = some (.loop { rec .ready none with state := .busy }) := (hk.same _ (by omega) q1).trans hl2
        have h4 := (hk.same S (by omega) q2).trans hd2
        have ll3 := (Array.getElem?_eq_some_iff.1 h3).1
        have := run_endRound (P := P) jump h3
        rw [show ({ ({ rec .ready none with state := .busy } : Loop) with state := if jump.isNone then .ready else .done, pending := jump } : Loop) = rec (if jump.isNone then .ready else .done) jump by rw [hrec]] at this
        refine ⟨this, World.putObj_heap_same ll3, (World.putObj_heap_other (by omega)).trans h4, ?_⟩
        refine ⟨by simp; have := hk.size; have := hb.size; omega, fun k hlt hn => ?_⟩
        have ne : k ≠ S + 1 := fun e => hn (.inr e)
        rw [World.putObj_heap_other ne]
        exact (hk.same k (by have := hb.size; omega) (fun e => e.elim (fun h => hn (.inl h)) (by omega))).trans ((o2 k ne).trans (hb.block k hlt))
      have own : ∀ {M' : Nat → Prop} {W3 : World} {o : Obj}, Lie (fun k => M k ∨ W.heap.size ≤ k) w₂ W3 → Grows M M' W W3 → Grows (plusL M (S + 1)) (plusL M' (S + 1)) W (W3.putObj (S + 1) o) := fun {M' W3 o} hz hg k hk => by
        rw [World.putObj_size]
        rcases hk with h | rfl
        · exact ⟨(hg k h).1, (hg k h).2.imp .inl id⟩
        · exact ⟨by have := hz.size; omega, .inl (.inr rfl)⟩
      have turn : ∀ {J : (Nat → Prop) → List α → World → Prop} {M' : Nat → Prop} {s : List α} {W3 : World} {o : Obj}, Abide w.heap.size J → Grows M M' W W3 → J M' s W3 → J M' s (W3.putObj (S + 1) o) := fun hJ hg hj => by
        refine hJ _ _ _ _ hj (Agree.putObj _ _ ?_)
        rintro (h | h)
        · omega
        · exact (hg _ h).2.elim n1 (by omega)
      have nS : ∀ {M' : Nat → Prop} {W3 : World}, Grows M M' W W3 → ¬ M' S := fun hg h => (hg _ h).2.elim n2 (by omega)
      have nS1 : ∀ {M' : Nat → Prop} {W3 : World}, Grows M M' W W3 → ¬ M' (S + 1) := fun hg h => (hg _ h).2.elim n1 (by omega)
      intro e a3 W3 hp
      cases e with
      | normal =>
        obtain ⟨hk, M', hg, hi3⟩ := hp
        obtain ⟨hr, h3, h4, h5⟩ := fin none W3 hk
        exact ⟨_, _, hr, h5, _, own hk hg, .inl ⟨rfl, M', rfl, nS1 hg, nS hg, turn hI hg hi3, h3, h4⟩⟩
      | ret =>
        obtain ⟨hk, M', hg, hi3⟩ := hp
        obtain ⟨hr, h3, h4, h5⟩ := fin (some .ret) W3 hk
        exact ⟨_, _, hr, h5, _, own hk hg, .inr ⟨rfl, M', _, rfl, nS1 hg, nS hg, turn (hIx _) hg hi3, h3, h4⟩⟩
      | exit id =>
        obtain ⟨hk, M', hg, hi3⟩ := hp
        obtain ⟨hr, h3, h4, h5⟩ := fin (some (.exit id)) W3 hk
        exact ⟨_, _, hr, h5, _, own hk hg, .inr ⟨rfl, M', _, rfl, nS1 hg, nS hg, turn (hIx _) hg hi3, h3, h4⟩⟩
      | goto t =>
        obtain ⟨hk, M', hg, hi3⟩ := hp
        obtain ⟨hr, h3, h4, h5⟩ := fin (some (.goto t)) W3 hk
        exact ⟨_, _, hr, h5, _, own hk hg, .inr ⟨rfl, M', _, rfl, nS1 hg, nS hg, turn (hIx _) hg hi3, h3, h4⟩⟩
      | panic ch => exact hp.elim
      | outgrown => exact hp.elim
    | exit id => exact h.elim
    | goto t => exact h.elim
    | ret => exact h.elim
    | panic ch => exact h.elim
    | outgrown => exact h.elim
  · rintro e W2 ⟨⟨v, rfl⟩, N, (⟨M, _, n1, n2, hi, hl, hd⟩ | ⟨pre, hpre, M, c, _, n1, n2, hi, hl, hd⟩)⟩
    · have := run_endLoop (P := P) hl (by rw [rst]; simp)
      rw [rpe] at this
      refine ⟨none, _, this, ?_⟩
      refine hdone S M _ (by omega) n2 (hI _ _ _ _ hi (Agree.putObj _ _ ?_)) ((World.putObj_heap_other (by omega)).trans hd)
      rintro (h | h)
      · omega
      · exact n1 h
    · have := run_endLoop (P := P) hl (by rw [rst]; simp)
      rw [rpe] at this
      refine ⟨some c, _, this, ?_⟩
      refine hstop S M c pre _ (by omega) n2 hpre (hIx c _ _ _ _ hi (Agree.putObj _ _ ?_)) ((World.putObj_heap_other (by omega)).trans hd)
      rintro (h | h)
      · omega
      · exact n1 h
/-- J, with blocks beside it that no round may turn. -/
structure Held {α : Type} (R : Nat → Prop) (w0 : World) (J : (Nat → Prop) → List α → World → Prop) (N : Nat → Prop) (s : List α) (W : World) : Prop where
  j : J N s W
  off : ∀ k, N k → ¬ R k
  lt : ∀ k, N k → k < W.heap.size
  size : w0.heap.size ≤ W.heap.size
  same : ∀ k, R k → W.heap[k]? = w0.heap[k]?
theorem Held.abide {α : Type} {R : Nat → Prop} {w0 : World} {J : (Nat → Prop) → List α → World → Prop} {B B' : Nat} (hJ : Abide B J) (hB : B ≤ B') (hR : ∀ k, R k → k < B' ∧ k < w0.heap.size) : Abide B' (Held R w0 J) := by
  rintro N s A A' ⟨h1, h2, h5, h3, h4⟩ ha
  exact ⟨hJ _ _ _ _ h1 (ha.mono fun k hk => hk.imp (fun h => by omega) id), h2, fun k hk => Nat.lt_of_lt_of_le (h5 k hk) ha.size, Nat.le_trans h3 ha.size, fun k hk => (ha.same k (by have := (hR k hk).2; omega) (.inl (hR k hk).1)).trans (h4 k hk)⟩
theorem Held.step {α : Type} {R : Nat → Prop} {w0 w2 W' : World} {J J' : (Nat → Prop) → List α → World → Prop} {N M' : Nat → Prop} {s s' : List α} (hR : ∀ k, R k → k < w0.heap.size) (h : Held R w0 J N s w2) (hl : Lie N w2 W') (hg : Grows N M' w2 W') (hj : J' M' s' W') : Held R w0 J' M' s' W' := by
  obtain ⟨h1, h2, h5, h3, h4⟩ := h
  refine ⟨hj, fun k hk hr => ?_, fun k hk => (hg k hk).1, Nat.le_trans h3 hl.size, fun k hk => (hl.same k (by have := hR k hk; omega) (fun n => h2 k n hk)).trans (h4 k hk)⟩
  rcases (hg k hk).2 with h | h
  · exact h2 k h hr
  · have := hR k hr; omega
theorem round_inside {F : Fence} {n : Nat} {P : Program} {l : Nat} {f : FuncId} {tmps : Array Value} {assign body : Code} {w : World} {R : Ending → World → Prop} (l' : Nat) (h : RoundIn F n P l f tmps assign body w R) : RoundIn (F.inRound l') n P l f tmps assign body w R := h
theorem noPanicIn {F : Fence} {n : Nat} {P : Program} {c : Code} {Q : Exit → Act → World → Prop} {a : Act} {w : World} (h : c.wpIn F n P (fun e a w => match e with | .normal => Q .normal a w | _ => False) a w) : c.wpIn F n P Q a w :=
  wpIn_mono h fun e a w hq => by
    cases e with
    | normal => exact hq
    | _ => exact hq.elim
theorem cutIn {F : Fence} {n : Nat} {P : Program} {c : Code} {Q : Exit → Act → World → Prop} {a : Act} {w : World} (A : Act) (Ph : World → Prop) (h : c.wpIn F n P (fun e a w => match e with | .normal => a = A ∧ Ph w | _ => False) a w) (k : ∀ w', Ph w' → Q .normal A w') : c.wpIn F n P Q a w :=
  wpIn_mono h fun e a w hq => by
    cases e with
    | normal => obtain ⟨rfl, hq⟩ := hq; exact k _ hq
    | _ => exact hq.elim
theorem Grows.of_below {N M' : Nat → Prop} {W1 w2 W' : World} (hg : Grows N M' w2 W') (hs : W1.heap.size ≤ w2.heap.size) : Grows N M' W1 W' := fun k hk => ⟨(hg k hk).1, (hg k hk).2.imp id fun h => Nat.le_trans hs h⟩
end Go.Proofs.Ytpgfenelckonoaa.Seq

/- A lane in memory; a group's queue; one joins. -/
import Derived.Test.YtpgfenelckonoaaLxA
import Derived.Test.YtpgfenelckonoaaQuL
import Derived.Test.YtpgfenelckonoaaKiS
import Derived.Test.YtpgfenelckonoaaMapW
import Derived.Test.YtpgfenelckonoaaHeldT
import Derived.WalkKit
namespace Go.Proofs.Ytpgfenelckonoaa.La
open Go.RowKit Go.Proofs.Ytpgfenelckonoaa.Kit Go.Proofs.Ytpgfenelckonoaa.ShM Go.Proofs.Ytpgfenelckonoaa.Sh Go.Proofs.Ytpgfenelckonoaa.QuM Go.Proofs.Ytpgfenelckonoaa.Qu Go.Proofs.Ytpgfenelckonoaa.LaM
open Go.Proofs.Ytpgfenelckonoaa.Ki (Row row_nil row_of)
set_option linter.unusedVariables false
set_option linter.unusedSimpArgs false
def memV (m : Mem) : Value := .agg #[.int .i64 m.id, .int .i64 m.wt, .int .i64 m.v, .int .i64 m.rem]
/-- A lane, with all its blocks named: lp, the maps' blocks mb, mh, mk, the tasks' row vt, the queues' pointers Qp and blocks Fq. -/
structure LX (w : World) (lp : Nat) (S : LS) (n mb mh mk : Nat) (vt : Value) (Qp : Int → Option Nat) (Fq : Int → Nat → Prop) : Prop where
  at_ : w.heap[lp]? = some (.cells #[.map (some mb), .map (some mh), vt, .map (some mk)] 66 (0, 0))
  by_ : MapV Try.prog 3 w mb (fun j => (Qp j).map fun p => .pointer (some ⟨p, 0, none⟩)) n
  home : MapV Try.prog 3 w mh (fun j => (S.home j).map (Value.int .i64)) n
  kept : MapV Try.prog 3 w mk (fun j => (S.kept j).map memV) n
  row : Row 0 w vt S.tasks
  queue : ∀ j p, Qp j = some p → QF (Fq j) w p (S.Q j).1 (S.Q j).2 n
  none_ : ∀ j, Qp j = none → S.Q j = ([], 0)
  apart : ∀ i j p p' k, Qp i = some p → Qp j = some p' → Fq i k → Fq j k → i = j
  maps : mb ≠ mh ∧ mb ≠ mk ∧ mh ≠ mk
  free : ∀ j p k, Qp j = some p → Fq j k → k ≠ lp ∧ k ≠ mb ∧ k ≠ mh ∧ k ≠ mk ∧ vt.ownBlock ≠ some k
  qb : ∀ j, QB (S.Q j).1 (S.Q j).2
  rise : S.tasks.Pairwise (· < ·)
  tn : S.tasks.length ≤ n
  rng : ∀ x g, S.home x = some g → -9223372036854775808 ≤ g ∧ g ≤ 9223372036854775807
/-- A lane's blocks. -/
def footL (lp mb mh mk : Nat) (vt : Value) (Qp : Int → Option Nat) (Fq : Int → Nat → Prop) (k : Nat) : Prop :=
  k = lp ∨ k = mb ∨ k = mh ∨ k = mk ∨ vt.ownBlock = some k ∨ ∃ j p, Qp j = some p ∧ Fq j k
def LF (F : Nat → Prop) (w : World) (lp : Nat) (S : LS) (n : Nat) : Prop := ∃ mb mh mk vt Qp Fq, F = footL lp mb mh mk vt Qp Fq ∧ LX w lp S n mb mh mk vt Qp Fq
/-- A lane, relative to an origin. -/
def Ln (w0 : World) (F0 : Nat → Prop) (w : World) (lp : Nat) (S : LS) (n : Nat) : Prop := ∃ F, LF F w lp S n ∧ (∀ k, F k → Ext F0 w0 k) ∧ Kept F0 w0 w
section
variable {w w' : World} {lp n mb mh mk : Nat} {S : LS} {vt : Value} {Qp : Int → Option Nat} {Fq : Int → Nat → Prop}
theorem LX.lt (h : LX w lp S n mb mh mk vt Qp Fq) : ∀ k, footL lp mb mh mk vt Qp Fq k → k < w.heap.size := by
  rintro k (rfl | rfl | rfl | rfl | hk | ⟨j, p, hj, hk⟩)
  · exact blk_lt h.at_
  · exact h.by_.lt
  · exact h.home.lt
  · exact h.kept.lt
  · exact (h.row.own_lt k hk).2
  · exact (h.queue j p hj).lt k hk
/-- What keeps a lane's blocks keeps the lane. -/
theorem LX.same (h : LX w lp S n mb mh mk vt Qp Fq) (hs : ∀ k, footL lp mb mh mk vt Qp Fq k → w'.heap[k]? = w.heap[k]?) : LX w' lp S n mb mh mk vt Qp Fq :=
  ⟨(hs lp (.inl rfl)).trans h.at_, h.by_.same (hs mb (.inr (.inl rfl))), h.home.same (hs mh (.inr (.inr (.inl rfl)))), h.kept.same (hs mk (.inr (.inr (.inr (.inl rfl))))),
    h.row.same fun g hg => hs g (.inr (.inr (.inr (.inr (.inl hg))))), fun j p hj => (h.queue j p hj).kept fun k hk => hs k (.inr (.inr (.inr (.inr (.inr ⟨j, p, hj, hk⟩))))),
    h.none_, h.apart, h.maps, h.free, h.qb, h.rise, h.tn, h.rng⟩
theorem LX.below (h : LX w lp S n mb mh mk vt Qp Fq) (hb : Below w.heap.size w w') : LX w' lp S n mb mh mk vt Qp Fq := h.same fun k hk => hb.block k (h.lt k hk)
theorem LF.lt {F : Nat → Prop} (h : LF F w lp S n) : ∀ k, F k → k < w.heap.size := by
  obtain ⟨mb, mh, mk, vt, Qp, Fq, rfl, h⟩ := h
  exact h.lt
theorem LF.below {F : Nat → Prop} (h : LF F w lp S n) (hb : Below w.heap.size w w') : LF F w' lp S n := by
  obtain ⟨mb, mh, mk, vt, Qp, Fq, rfl, h⟩ := h
  exact ⟨mb, mh, mk, vt, Qp, Fq, rfl, h.below hb⟩
theorem LX.more {m : Nat} (h : LX w lp S n mb mh mk vt Qp Fq) (hm : n ≤ m) : LX w lp S m mb mh mk vt Qp Fq :=
  ⟨h.at_, h.by_.more hm, h.home.more hm, h.kept.more hm, h.row, fun j p hj => (h.queue j p hj).more hm, h.none_, h.apart, h.maps, h.free, h.qb, h.rise, Nat.le_trans h.tn hm, h.rng⟩
theorem LF.more {F : Nat → Prop} {m : Nat} (h : LF F w lp S n) (hm : n ≤ m) : LF F w lp S m := by
  obtain ⟨mb, mh, mk, vt, Qp, Fq, rfl, h⟩ := h
  exact ⟨mb, mh, mk, vt, Qp, Fq, rfl, h.more hm⟩
theorem LF.wq {F : Nat → Prop} (h : LF F w lp S n) (g : Int) : WQ (S.Q g).1 := by
  obtain ⟨mb, mh, mk, vt, Qp, Fq, rfl, h⟩ := h
  cases hq : Qp g with
  | none => rw [h.none_ g hq]; exact WQ.nil
  | some p => exact (h.queue g p hq).wq
theorem LF.qb {F : Nat → Prop} (h : LF F w lp S n) (g : Int) : QB (S.Q g).1 (S.Q g).2 := by
  obtain ⟨mb, mh, mk, vt, Qp, Fq, rfl, h⟩ := h
  exact h.qb g
theorem LF.rng {F : Nat → Prop} (h : LF F w lp S n) {x g : Int} (hh : S.home x = some g) : -9223372036854775808 ≤ g ∧ g ≤ 9223372036854775807 := by
  obtain ⟨mb, mh, mk, vt, Qp, Fq, rfl, h⟩ := h
  exact h.rng x g hh
theorem LF.self {F : Nat → Prop} (h : LF F w lp S n) : Ln w F w lp S n := ⟨F, h, fun k hk => .inl hk, Kept.refl _ _⟩
theorem LF.self_below {F : Nat → Prop} (h : LF F w lp S n) (hb : Below w.heap.size w w') : Ln w F w' lp S n := ⟨F, h.below hb, fun k hk => .inl hk, (Kept.refl _ w).below hb⟩
section
variable {F0 : Nat → Prop} {w0 : World}
theorem Ln.below (h : Ln w0 F0 w lp S n) (hb : Below w.heap.size w w') : Ln w0 F0 w' lp S n := by
  obtain ⟨F, h1, h2, h3⟩ := h
  exact ⟨F, h1.below hb, h2, h3.below hb⟩
theorem Ln.more {m : Nat} (h : Ln w0 F0 w lp S n) (hm : n ≤ m) : Ln w0 F0 w lp S m := by
  obtain ⟨F, h1, h2⟩ := h
  exact ⟨F, h1.more hm, h2⟩
theorem Ln.kept (h : Ln w0 F0 w lp S n) : Kept F0 w0 w := by
  obtain ⟨F, _, _, h⟩ := h
  exact h
theorem Ln.trans {F : Nat → Prop} {S' : LS} {n' : Nat} (hF : ∀ k, F k → Ext F0 w0 k) (hk : Kept F0 w0 w) (g : Ln w F w' lp S' n') : Ln w0 F0 w' lp S' n' := by
  obtain ⟨G, g1, g2, g3⟩ := g
  refine ⟨G, g1, fun k hk' => ?_, hk.trans g3 hF⟩
  rcases g2 k hk' with h | h
  · exact hF k h
  · exact .inr (Nat.le_trans hk.size h)
/-- A call on a lane that is relative to an origin. -/
theorem Ln.call {Q : Ending → World → Prop} {f : Nat} {args : Array Value} (h : Ln w0 F0 w lp S n)
    (H : ∀ F, LF F w lp S n → Calls Try.prog f args w fun e w' => ∃ S' n', Q e w' ∧ Ln w F w' lp S' n') :
    Calls Try.prog f args w fun e w' => ∃ S' n', Q e w' ∧ Ln w0 F0 w' lp S' n' := by
  obtain ⟨F, h1, h2, h3⟩ := h
  refine (H F h1).mono ?_
  rintro e w' ⟨S', n', hq, hl⟩
  exact ⟨S', n', hq, Ln.trans h2 h3 hl⟩
end
/-- A queue was changed. -/
theorem LX.setQ {g : Int} {p n' : Nat} {L' : List Mem} {b' : Int} (h : LX w lp S n mb mh mk vt Qp Fq) (hq : Qp g = some p) (q : Qu w (Fq g) w' p L' b' n') (hn : n ≤ n') (hb : QB L' b') :
    Ln w (footL lp mb mh mk vt Qp Fq) w' lp { S with Q := upd S.Q g (L', b') } n' := by
  obtain ⟨G, q1, q2, q3⟩ := q
  have hfg : ∀ k, Fq g k → footL lp mb mh mk vt Qp Fq k := fun k hk => .inr (.inr (.inr (.inr (.inr ⟨g, p, hq, hk⟩))))
  have keep : ∀ k, footL lp mb mh mk vt Qp Fq k → ¬ Fq g k → w'.heap[k]? = w.heap[k]? := fun k hk hn => q3.block k (h.lt k hk) hn
  have hfr := h.free g p
  have hG : ∀ k, G k → Fq g k ∨ w.heap.size ≤ k := q2
  refine ⟨footL lp mb mh mk vt Qp (fun j => if j = g then G else Fq j), ⟨mb, mh, mk, vt, Qp, _, rfl, ⟨?_, ?_, ?_, ?_, ?_, ?_, ?_, ?_, h.maps, ?_, ?_, h.rise, Nat.le_trans h.tn hn, h.rng⟩⟩, ?_, ?_⟩
  · exact (keep lp (.inl rfl) fun e => (hfr _ hq e).1 rfl).trans h.at_
  · exact (h.by_.same (keep mb (.inr (.inl rfl)) fun e => (hfr _ hq e).2.1 rfl)).more hn
  · exact (h.home.same (keep mh (.inr (.inr (.inl rfl))) fun e => (hfr _ hq e).2.2.1 rfl)).more hn
  · exact (h.kept.same (keep mk (.inr (.inr (.inr (.inl rfl)))) fun e => (hfr _ hq e).2.2.2.1 rfl)).more hn
  · exact h.row.same fun k hk => keep k (.inr (.inr (.inr (.inr (.inl hk))))) fun e => (hfr _ hq e).2.2.2.2 hk
  · intro j r hj
    try dsimp only
    by_cases e : j = g
    · subst e
      rw [if_pos rfl, upd_at]
      have : r = p := by rw [hj] at hq; exact Option.some.inj hq
      rw [this]
      exact q1
    · rw [if_neg e, upd_ne _ _ e]
      exact ((h.queue j r hj).more hn).kept fun k hk => keep k (.inr (.inr (.inr (.inr (.inr ⟨j, r, hj, hk⟩))))) fun e' => e (h.apart j g r p k hj hq hk e')
  · intro j hj
    have e : j ≠ g := fun e => by rw [e, hq] at hj; cases hj
    show upd S.Q g (L', b') j = _
    rw [upd_ne _ _ e]
    exact h.none_ j hj
  · intro i j r r' k hi hj hik hjk
    try dsimp only at hik hjk
    have lt : ∀ {a : Int} {r : Nat}, Qp a = some r → Fq a k → k < w.heap.size := fun ha hk => h.lt k (.inr (.inr (.inr (.inr (.inr ⟨_, _, ha, hk⟩)))))
    by_cases e1 : i = g <;> by_cases e2 : j = g
    · rw [e1, e2]
    · rw [if_pos e1] at hik
      rw [if_neg e2] at hjk
      rcases hG k hik with hk | hk
      · rw [e1]; exact h.apart g j p r' k hq hj hk hjk
      · have := lt hj hjk; omega
    · rw [if_neg e1] at hik
      rw [if_pos e2] at hjk
      rcases hG k hjk with hk | hk
      · rw [e2]; exact h.apart i g r p k hi hq hik hk
      · have := lt hi hik; omega
    · rw [if_neg e1] at hik
      rw [if_neg e2] at hjk
      exact h.apart i j r r' k hi hj hik hjk
  · intro j r k hj hk
    try dsimp only at hk
    by_cases e : j = g
    · rw [if_pos e] at hk
      rcases hG k hk with hk | hk
      · exact h.free g p k hq hk
      · refine ⟨fun e => ?_, fun e => ?_, fun e => ?_, fun e => ?_, fun e => ?_⟩
        · have := h.lt lp (.inl rfl); omega
        · have := h.lt mb (.inr (.inl rfl)); omega
        · have := h.lt mh (.inr (.inr (.inl rfl))); omega
        · have := h.lt mk (.inr (.inr (.inr (.inl rfl)))); omega
        · have := h.lt k (.inr (.inr (.inr (.inr (.inl e))))); omega
    · rw [if_neg e] at hk
      exact h.free j r k hj hk
  · intro j
    show QB (upd S.Q g (L', b') j).1 (upd S.Q g (L', b') j).2
    by_cases e : j = g
    · rw [e, upd_at]; exact hb
    · rw [upd_ne _ _ e]; exact h.qb j
  · rintro k (hk | hk | hk | hk | hk | ⟨j, r, hj, hk⟩)
    · exact .inl (.inl hk)
    · exact .inl (.inr (.inl hk))
    · exact .inl (.inr (.inr (.inl hk)))
    · exact .inl (.inr (.inr (.inr (.inl hk))))
    · exact .inl (.inr (.inr (.inr (.inr (.inl hk)))))
    · try dsimp only at hk
      by_cases e : j = g
      · rw [if_pos e] at hk
        rcases hG k hk with hk | hk
        · exact .inl (hfg k hk)
        · exact .inr hk
      · rw [if_neg e] at hk
        exact .inl (.inr (.inr (.inr (.inr (.inr ⟨j, r, hj, hk⟩)))))
  · exact (Kept.refl _ w).trans q3 fun k hk => .inl (hfg k hk)
/-- One of the three maps' blocks was written, and no other. -/
theorem LX.others {mb' : Nat} (h : LX w lp S n mb mh mk vt Qp Fq) (hm : mb' = mb ∨ mb' = mh ∨ mb' = mk) (hg : w.grownBy w' (some mb')) : ∀ k, footL lp mb mh mk vt Qp Fq k → k ≠ mb' → w'.heap[k]? = w.heap[k]? :=
  fun k hk e => hg.block k (h.lt k hk) fun e' => e (Option.some.inj e')
theorem LX.parts (h : LX w lp S n mb mh mk vt Qp Fq) : (lp ≠ mb ∧ lp ≠ mh ∧ lp ≠ mk) ∧ (vt.ownBlock ≠ some mb ∧ vt.ownBlock ≠ some mh ∧ vt.ownBlock ≠ some mk ∧ vt.ownBlock ≠ some lp) := by
  have ty : ∀ {b g : Nat} {c : Array Value} {t : TypeId} {r : Nat × Nat} {f : Int → Option Value}, w.heap[g]? = some (.cells c t r) → MapV Try.prog 3 w b f n → g ≠ b := fun hg hb e => by
    obtain ⟨es, ck, hb, _⟩ := hb
    rw [e, hb] at hg
    cases hg
  have lpv := h.at_
  refine ⟨⟨ty lpv h.by_, ty lpv h.home, ty lpv h.kept⟩, ?_⟩
  rcases h.row.form with ⟨rfl, _⟩ | ⟨g, c, cur, rfl, _, hg, _⟩
  · exact ⟨fun e => (by cases e), fun e => (by cases e), fun e => (by cases e), fun e => (by cases e)⟩
  · have inj : ∀ {k : Nat}, (Value.slice (some ⟨g, 0, none⟩) S.tasks.length c).ownBlock = some k → g = k := fun e => by simpa [Value.ownBlock] using e
    refine ⟨fun e => ty hg h.by_ (inj e), fun e => ty hg h.home (inj e), fun e => ty hg h.kept (inj e), fun e => ?_⟩
    rw [inj e, lpv] at hg
    cases hg
/-- Where each one is was changed. -/
theorem LX.setHome {H : Int → Option Int} {n' : Nat} (h : LX w lp S n mb mh mk vt Qp Fq) (hm : MapV Try.prog 3 w' mh (fun j => (H j).map (Value.int .i64)) n') (hg : w.grownBy w' (some mh)) (hn : n ≤ n')
    (hr : ∀ x g, H x = some g → -9223372036854775808 ≤ g ∧ g ≤ 9223372036854775807) : Ln w (footL lp mb mh mk vt Qp Fq) w' lp { S with home := H } n' := by
  have ot := h.others (.inr (.inl rfl)) hg
  obtain ⟨⟨a1, a2, a3⟩, a4, a5, a6, a7⟩ := h.parts
  obtain ⟨m1, m2, m3⟩ := h.maps
  refine ⟨_, ⟨mb, mh, mk, vt, Qp, Fq, rfl, ⟨?_, ?_, hm, ?_, ?_, ?_, h.none_, h.apart, h.maps, h.free, h.qb, h.rise, Nat.le_trans h.tn hn, hr⟩⟩, fun k hk => .inl hk, (Kept.refl _ w).grown hg fun k e => .inl (by cases e; exact .inr (.inr (.inl rfl)))⟩
  · exact (ot lp (.inl rfl) a2).trans h.at_
  · exact (h.by_.same (ot mb (.inr (.inl rfl)) m1)).more hn
  · exact (h.kept.same (ot mk (.inr (.inr (.inr (.inl rfl)))) (Ne.symm m3))).more hn
  · exact h.row.same fun k hk => ot k (.inr (.inr (.inr (.inr (.inl hk))))) fun e => a5 (by rw [← e]; exact hk)
  · exact fun j r hj => ((h.queue j r hj).more hn).kept fun k hk => ot k (.inr (.inr (.inr (.inr (.inr ⟨j, r, hj, hk⟩))))) (h.free j r k hj hk).2.2.1
theorem LX.setKept {H : Int → Option Mem} {n' : Nat} (h : LX w lp S n mb mh mk vt Qp Fq) (hm : MapV Try.prog 3 w' mk (fun j => (H j).map memV) n') (hg : w.grownBy w' (some mk)) (hn : n ≤ n') :
    Ln w (footL lp mb mh mk vt Qp Fq) w' lp { S with kept := H } n' := by
  have ot := h.others (.inr (.inr rfl)) hg
  obtain ⟨⟨a1, a2, a3⟩, a4, a5, a6, a7⟩ := h.parts
  obtain ⟨m1, m2, m3⟩ := h.maps
  refine ⟨_, ⟨mb, mh, mk, vt, Qp, Fq, rfl, ⟨?_, ?_, ?_, hm, ?_, ?_, h.none_, h.apart, h.maps, h.free, h.qb, h.rise, Nat.le_trans h.tn hn, h.rng⟩⟩, fun k hk => .inl hk, (Kept.refl _ w).grown hg fun k e => .inl (by cases e; exact .inr (.inr (.inr (.inl rfl))))⟩
  · exact (ot lp (.inl rfl) a3).trans h.at_
  · exact (h.by_.same (ot mb (.inr (.inl rfl)) m2)).more hn
  · exact (h.home.same (ot mh (.inr (.inr (.inl rfl))) m3)).more hn
  · exact h.row.same fun k hk => ot k (.inr (.inr (.inr (.inr (.inl hk))))) fun e => a6 (by rw [← e]; exact hk)
  · exact fun j r hj => ((h.queue j r hj).more hn).kept fun k hk => ot k (.inr (.inr (.inr (.inr (.inr ⟨j, r, hj, hk⟩))))) (h.free j r k hj hk).2.2.2.1
/-- A queue is struck from the map. -/
theorem LX.strike {g : Int} (h : LX w lp S n mb mh mk vt Qp Fq) (hm : MapV Try.prog 3 w' mb (fun j => if j = g then none else (Qp j).map fun p => .pointer (some ⟨p, 0, none⟩)) n) (hg : w.grownBy w' (some mb)) :
    Ln w (footL lp mb mh mk vt Qp Fq) w' lp { S with Q := upd S.Q g ([], 0) } n := by
  have ot := h.others (.inl rfl) hg
  obtain ⟨⟨a1, a2, a3⟩, a4, a5, a6, a7⟩ := h.parts
  obtain ⟨m1, m2, m3⟩ := h.maps
  have sub : ∀ {j : Int} {p : Nat}, (if j = g then none else Qp j) = some p → j ≠ g ∧ Qp j = some p := fun {j p} e => by
    by_cases hj : j = g
    · rw [if_pos hj] at e; cases e
    · rw [if_neg hj] at e; exact ⟨hj, e⟩
  refine ⟨_, ⟨mb, mh, mk, vt, fun j => if j = g then none else Qp j, Fq, rfl, ⟨?_, ?_, ?_, ?_, ?_, ?_, ?_, ?_, h.maps, ?_, ?_, h.rise, h.tn, h.rng⟩⟩, ?_, (Kept.refl _ w).grown hg fun k e => .inl (by cases e; exact .inr (.inl rfl))⟩
  · exact (ot lp (.inl rfl) a1).trans h.at_
  · refine hm.congr fun j => ?_
    try dsimp only
    split <;> rfl
  · exact h.home.same (ot mh (.inr (.inr (.inl rfl))) (Ne.symm m1))
  · exact h.kept.same (ot mk (.inr (.inr (.inr (.inl rfl)))) (Ne.symm m2))
  · exact h.row.same fun k hk => ot k (.inr (.inr (.inr (.inr (.inl hk))))) fun e => a4 (by rw [← e]; exact hk)
  · intro j r hj
    obtain ⟨e, hj⟩ := sub hj
    show QF (Fq j) w' r (upd S.Q g ([], 0) j).1 (upd S.Q g ([], 0) j).2 n
    rw [upd_ne _ _ e]
    exact (h.queue j r hj).kept fun k hk => ot k (.inr (.inr (.inr (.inr (.inr ⟨j, r, hj, hk⟩))))) (h.free j r k hj hk).2.1
  · intro j hj
    show upd S.Q g ([], 0) j = _
    by_cases e : j = g
    · rw [e, upd_at]
    · rw [upd_ne _ _ e]
      try dsimp only at hj
      rw [if_neg e] at hj
      exact h.none_ j hj
  · exact fun i j r r' k hi hj hik hjk => h.apart i j r r' k (sub hi).2 (sub hj).2 hik hjk
  · exact fun j r k hj hk => h.free j r k (sub hj).2 hk
  · intro j
    show QB (upd S.Q g ([], 0) j).1 (upd S.Q g ([], 0) j).2
    by_cases e : j = g
    · rw [e, upd_at]; exact ⟨by omega, by omega, fun m h => by cases h⟩
    · rw [upd_ne _ _ e]; exact h.qb j
  · rintro k (hk | hk | hk | hk | hk | ⟨j, r, hj, hk⟩)
    · exact .inl (.inl hk)
    · exact .inl (.inr (.inl hk))
    · exact .inl (.inr (.inr (.inl hk)))
    · exact .inl (.inr (.inr (.inr (.inl hk))))
    · exact .inl (.inr (.inr (.inr (.inr (.inl hk)))))
    · exact .inl (.inr (.inr (.inr (.inr (.inr ⟨j, r, (sub hj).2, hk⟩)))))
/-- A queue is made, and laid into the map. -/
theorem LX.fresh {w1 : World} {g : Int} {p : Nat} (h : LX w lp S n mb mh mk vt Qp Fq) (hg0 : Qp g = none) (hn : 1 ≤ n) (hp : w.heap.size ≤ p) (q : Qu w (fun _ => False) w1 p [] 0 1)
    (hm : MapV Try.prog 3 w' mb (fun j => if j = g then some (.pointer (some ⟨p, 0, none⟩)) else (Qp j).map fun p => .pointer (some ⟨p, 0, none⟩)) (n + 1)) (hg : w1.grownBy w' (some mb)) :
    ∃ Fq', LX w' lp S (n + 1) mb mh mk vt (fun j => if j = g then some p else Qp j) Fq' ∧ (∀ k, footL lp mb mh mk vt (fun j => if j = g then some p else Qp j) Fq' k → Ext (footL lp mb mh mk vt Qp Fq) w k) ∧ Kept (footL lp mb mh mk vt Qp Fq) w w' := by
  obtain ⟨G, q1, q2, q3⟩ := q
  have hG : ∀ k, G k → w.heap.size ≤ k := fun k hk => (q2 k hk).resolve_left id
  have hb1 : Below w.heap.size w w1 := q3.toBelow fun k hk => hk.elim
  have h1 := h.below hb1
  have ot : ∀ k, footL lp mb mh mk vt Qp Fq k → k ≠ mb → w'.heap[k]? = w1.heap[k]? := h1.others (.inl rfl) hg
  obtain ⟨⟨a1, a2, a3⟩, a4, a5, a6, a7⟩ := h.parts
  obtain ⟨m1, m2, m3⟩ := h.maps
  have hlt := h.lt
  have hn1 : n ≤ n + 1 := Nat.le_succ n
  have hgp : ∀ {j : Int} {r : Nat}, (if j = g then some p else Qp j) = some r → (j = g ∧ r = p) ∨ (j ≠ g ∧ Qp j = some r) := fun {j r} e => by
    by_cases hj : j = g
    · rw [if_pos hj] at e; exact .inl ⟨hj, (Option.some.inj e).symm⟩
    · rw [if_neg hj] at e; exact .inr ⟨hj, e⟩
  refine ⟨fun j => if j = g then G else Fq j, ⟨?_, ?_, ?_, ?_, ?_, ?_, ?_, ?_, h.maps, ?_, h.qb, h.rise, Nat.le_trans h.tn hn1, h.rng⟩, ?_, ?_⟩
  · exact (ot lp (.inl rfl) a1).trans h1.at_
  · refine hm.congr fun j => ?_
    try dsimp only
    split <;> rfl
  · exact (h1.home.same (ot mh (.inr (.inr (.inl rfl))) (Ne.symm m1))).more hn1
  · exact (h1.kept.same (ot mk (.inr (.inr (.inr (.inl rfl)))) (Ne.symm m2))).more hn1
  · exact h1.row.same fun k hk => ot k (.inr (.inr (.inr (.inr (.inl hk))))) fun e => a4 (by rw [← e]; exact hk)
  · intro j r hj
    try dsimp only
    rcases hgp hj with ⟨e, rfl⟩ | ⟨e, hj⟩
    · rw [if_pos e, e, h.none_ g hg0]
      refine (q1.more (by omega)).kept fun k hk => ?_
      have hk1 := q1.lt k hk
      have := hG k hk
      have := hlt mb (.inr (.inl rfl))
      exact hg.block k hk1 fun e' => by have := Option.some.inj e'; omega
    · rw [if_neg e]
      exact ((h1.queue j r hj).more hn1).kept fun k hk => ot k (.inr (.inr (.inr (.inr (.inr ⟨j, r, hj, hk⟩))))) (h.free j r k hj hk).2.1
  · intro j hj
    try dsimp only at hj
    by_cases e : j = g
    · rw [if_pos e] at hj; cases hj
    · rw [if_neg e] at hj
      exact h.none_ j hj
  · intro i j r r' k hi hj hik hjk
    try dsimp only at hik hjk
    rcases hgp hi with ⟨e1, _⟩ | ⟨e1, hi⟩ <;> rcases hgp hj with ⟨e2, _⟩ | ⟨e2, hj⟩
    · rw [e1, e2]
    · rw [if_pos e1] at hik
      rw [if_neg e2] at hjk
      have := hG k hik
      have := hlt k (.inr (.inr (.inr (.inr (.inr ⟨j, r', hj, hjk⟩)))))
      omega
    · rw [if_neg e1] at hik
      rw [if_pos e2] at hjk
      have := hG k hjk
      have := hlt k (.inr (.inr (.inr (.inr (.inr ⟨i, r, hi, hik⟩)))))
      omega
    · rw [if_neg e1] at hik
      rw [if_neg e2] at hjk
      exact h.apart i j r r' k hi hj hik hjk
  · intro j r k hj hk
    try dsimp only at hk
    rcases hgp hj with ⟨e, _⟩ | ⟨e, hj⟩
    · rw [if_pos e] at hk
      have := hG k hk
      refine ⟨fun e => ?_, fun e => ?_, fun e => ?_, fun e => ?_, fun e => ?_⟩
      · have := hlt lp (.inl rfl); omega
      · have := hlt mb (.inr (.inl rfl)); omega
      · have := hlt mh (.inr (.inr (.inl rfl))); omega
      · have := hlt mk (.inr (.inr (.inr (.inl rfl)))); omega
      · have := hlt k (.inr (.inr (.inr (.inr (.inl e))))); omega
    · rw [if_neg e] at hk
      exact h.free j r k hj hk
  · rintro k (hk | hk | hk | hk | hk | ⟨j, r, hj, hk⟩)
    · exact .inl (.inl hk)
    · exact .inl (.inr (.inl hk))
    · exact .inl (.inr (.inr (.inl hk)))
    · exact .inl (.inr (.inr (.inr (.inl hk))))
    · exact .inl (.inr (.inr (.inr (.inr (.inl hk)))))
    · try dsimp only at hk
      rcases hgp hj with ⟨e, _⟩ | ⟨e, hj⟩
      · rw [if_pos e] at hk
        exact .inr (hG k hk)
      · rw [if_neg e] at hk
        exact .inl (.inr (.inr (.inr (.inr (.inr ⟨j, r, hj, hk⟩)))))
  · exact ((Kept.refl _ w).below hb1).grown hg fun k e => .inl (by cases e; exact .inr (.inl rfl))
/-- The tasks' row was written, or laid anew, and the lane's own variable with it. -/
theorem LX.setTasks {vt' : Value} {T : List Int} {n' : Nat} (h : LX w lp S n mb mh mk vt Qp Fq) (hk : ∀ k, footL lp mb mh mk vt Qp Fq k → k ≠ lp → vt.ownBlock ≠ some k → w'.heap[k]? = w.heap[k]?)
    (hl : w'.heap[lp]? = some (.cells #[.map (some mb), .map (some mh), vt', .map (some mk)] 66 (0, 0))) (hr : Row 0 w' vt' T) (ho : ∀ k, vt'.ownBlock = some k → vt.ownBlock = some k ∨ w.heap.size ≤ k)
    (hn : n ≤ n') (hT : T.Pairwise (· < ·)) (ht : T.length ≤ n') (hK : Kept (footL lp mb mh mk vt Qp Fq) w w') : Ln w (footL lp mb mh mk vt Qp Fq) w' lp { S with tasks := T } n' := by
  obtain ⟨⟨a1, a2, a3⟩, a4, a5, a6, a7⟩ := h.parts
  obtain ⟨m1, m2, m3⟩ := h.maps
  refine ⟨_, ⟨mb, mh, mk, vt', Qp, Fq, rfl, ⟨hl, ?_, ?_, ?_, hr, ?_, h.none_, h.apart, h.maps, ?_, h.qb, hT, ht, h.rng⟩⟩, ?_, hK⟩
  · exact (h.by_.same (hk mb (.inr (.inl rfl)) (Ne.symm a1) a4)).more hn
  · exact (h.home.same (hk mh (.inr (.inr (.inl rfl))) (Ne.symm a2) a5)).more hn
  · exact (h.kept.same (hk mk (.inr (.inr (.inr (.inl rfl)))) (Ne.symm a3) a6)).more hn
  · exact fun j r hj => ((h.queue j r hj).more hn).kept fun k hk' => hk k (.inr (.inr (.inr (.inr (.inr ⟨j, r, hj, hk'⟩))))) (h.free j r k hj hk').1 (h.free j r k hj hk').2.2.2.2
  · intro j r k hj hk'
    obtain ⟨b1, b2, b3, b4, b5⟩ := h.free j r k hj hk'
    refine ⟨b1, b2, b3, b4, fun e => ?_⟩
    rcases ho k e with e | e
    · exact b5 e
    · have := h.lt k (.inr (.inr (.inr (.inr (.inr ⟨j, r, hj, hk'⟩)))))
      omega
  · rintro k (hk | hk | hk | hk | hk | hk)
    · exact .inl (.inl hk)
    · exact .inl (.inr (.inl hk))
    · exact .inl (.inr (.inr (.inl hk)))
    · exact .inl (.inr (.inr (.inr (.inl hk))))
    · rcases ho k hk with e | e
      · exact .inl (.inr (.inr (.inr (.inr (.inl e)))))
      · exact .inr e
    · exact .inl (.inr (.inr (.inr (.inr (.inr hk)))))
end
end Go.Proofs.Ytpgfenelckonoaa.La
namespace Go.Proofs.Ytpgfenelckonoaa.La
open Go.RowKit Go.Proofs.Ytpgfenelckonoaa.Kit Go.Proofs.Ytpgfenelckonoaa.ShM Go.Proofs.Ytpgfenelckonoaa.Sh Go.Proofs.Ytpgfenelckonoaa.QuM Go.Proofs.Ytpgfenelckonoaa.Qu Go.Proofs.Ytpgfenelckonoaa.LaM
open Go.Proofs.Ytpgfenelckonoaa.Ki (Row row_nil row_of iv search_row contains_row clone_row insert_row delete_row)
set_option linter.unusedVariables false
set_option linter.unusedSimpArgs false
theorem zero_ptr (w : World) : (zeroValue 82).run Try.prog w = .ok (.pointer none) w := by
  have h : (Try.prog.info? 82).map (·.zero) = some (some (.pointer none)) := by kernel_rfl
  cases hp : Try.prog.info? 82 with
  | none => rw [hp] at h; cases h
  | some i =>
    rw [hp] at h
    simp only [Option.map_some, Option.some.injEq] at h
    simp [zeroValue, typeInfo, hp, h]
theorem zero_int (w : World) : (zeroValue 3).run Try.prog w = .ok (.int .i64 0) w := by
  have h : (Try.prog.info? 3).map (·.zero) = some (some (.int .i64 0)) := by kernel_rfl
  cases hp : Try.prog.info? 3 with
  | none => rw [hp] at h; cases h
  | some i =>
    rw [hp] at h
    simp only [Option.map_some, Option.some.injEq] at h
    simp [zeroValue, typeInfo, hp, h]
theorem qu_undrew {w0 w : World} {F0 : Nat → Prop} {p n : Nat} {L : List Mem} {base : Int} (h : Qu w0.drew F0 w p L base n) : Qu w0 F0 w p L base n := by
  obtain ⟨F, h1, h2, h3⟩ := h
  exact ⟨F, h1, h2, ((Kept.refl F0 w0).drew).trans h3 fun b hb => .inl hb⟩
def qv (Qp : Int → Option Nat) (j : Int) : Option Value := (Qp j).map fun p => .pointer (some ⟨p, 0, none⟩)
/-- What `of` leaves: a group's queue, that may be asked, or changed. -/
def OfP (w0 : World) (F0 : Nat → Prop) (w : World) (lp : Nat) (S : LS) (n : Nat) (g : Int) (p : Nat) : Prop :=
  ∃ G : Nat → Prop, QF G w p (S.Q g).1 (S.Q g).2 n ∧ QB (S.Q g).1 (S.Q g).2 ∧ (∀ k, G k → Ext F0 w0 k) ∧
    (∀ w' L' b' n', Qu w G w' p L' b' n' → n ≤ n' → QB L' b' → Ln w0 F0 w' lp { S with Q := upd S.Q g (L', b') } n') ∧ Ln w0 F0 w lp S n ∧ w.heap[lp]? = w0.heap[lp]? ∧ ¬ G lp
section
variable {w w' : World} {lp n mb mh mk : Nat} {S : LS} {vt : Value} {Qp : Int → Option Nat} {Fq : Int → Nat → Prop}
theorem of_post {w0 : World} {F0 : Nat → Prop} {g : Int} {p : Nat} (h : LX w lp S n mb mh mk vt Qp Fq) (hq : Qp g = some p) (hF : ∀ k, footL lp mb mh mk vt Qp Fq k → Ext F0 w0 k) (hk : Kept F0 w0 w) (ha : w.heap[lp]? = w0.heap[lp]?) : OfP w0 F0 w lp S n g p :=
  ⟨Fq g, h.queue g p hq, h.qb g, fun k hk' => hF k (.inr (.inr (.inr (.inr (.inr ⟨g, p, hq, hk'⟩))))), fun w' L' b' n' q hn hb => Ln.trans hF hk (h.setQ hq q hn hb), ⟨_, ⟨mb, mh, mk, vt, Qp, Fq, rfl, h⟩, hF, hk⟩, ha, fun e => (h.free g p lp hq e).1 rfl⟩
theorem OfP.more {w0 : World} {F0 : Nat → Prop} {g : Int} {p m : Nat} (h : OfP w0 F0 w lp S n g p) (hm : n ≤ m) : OfP w0 F0 w lp S m g p := by
  obtain ⟨G, h1, h2, h3, h4, h5, h6⟩ := h
  exact ⟨G, h1.more hm, h2, h3, fun w' L' b' n' q hn hb => h4 w' L' b' n' q (Nat.le_trans hm hn) hb, h5.more hm, h6⟩
set_option maxRecDepth 8000 in
set_option maxHeartbeats 1600000 in
theorem of_x (g : Int) (h : LX w lp S n mb mh mk vt Qp Fq) (hn0 : 1 ≤ n) (hn : n ≤ 100000) (hi1 : -9223372036854775808 ≤ g) (hi2 : g ≤ 9223372036854775807) :
    Calls Try.prog 38 #[.pointer (some ⟨lp, 0, none⟩), .int .i64 g] w fun e w' => ∃ p, e = .returned (.pointer (some ⟨p, 0, none⟩)) ∧ OfP w (footL lp mb mh mk vt Qp Fq) w' lp S (n + 1) g p := by
  have HX := Kit.hid h
  have hp := h.at_
  have HP := Kit.hid hp
  have HMB : Hid (MapV Try.prog 3 w mb (qv Qp) n) := Kit.hid h.by_
  have HKEY : Hid (keyOf Try.prog 3 (.int .i64 g) = some (.int .i64 g)) := Kit.hid (int_key Try.underlying3 hi1 hi2)
  have HLL := Kit.hid (blk_lt hp)
  have hp0 := blk_cell hp 0
  have HNE : Hid (lp ≠ mb) := Kit.hid h.parts.1.1
  clear h hp hi1 hi2
  go_enter Try.func38, Try.ntmps38
  cases hget : Qp g with
  | some p =>
    have HLK : Hid ((if false = true then Value.tuple #[(qv Qp g).getD (.pointer none), .bool (qv Qp g).isSome] else (qv Qp g).getD (.pointer none)) = .pointer (some ⟨p, 0, none⟩)) := Kit.hid (by simp [qv, hget])
    have HR : Hid (OfP w (footL lp mb mh mk vt Qp Fq) w lp S (n + 1) g p) := Kit.hid (of_post (HX.out.more (Nat.le_succ _)) hget (fun k hk => .inl hk) (Kept.refl _ _) rfl)
    have HG := Kit.hid hget
    clear hget
    go_wp2_with (at_lookup; refine wpList_lookV rfl _ _ 62 false rfl 3 82 keyed Try.underlying62 _ (zero_ptr _) mb n (qv Qp) rfl HMB.out g rfl HKEY.out _ HLK.out ?_)
    go_wp2_with (at_lookup; refine wpList_lookV rfl _ _ 62 false rfl 3 82 keyed Try.underlying62 _ (zero_ptr _) mb n (qv Qp) rfl HMB.out g rfl HKEY.out _ HLK.out ?_)
    go_ret
    exact ⟨p, rfl, HR.out⟩
  | none =>
    have HLK : Hid ((if false = true then Value.tuple #[(qv Qp g).getD (.pointer none), .bool (qv Qp g).isSome] else (qv Qp g).getD (.pointer none)) = .pointer none) := Kit.hid (by simp [qv, hget])
    have HG := Kit.hid hget
    have HNW := Kit.hid (fun (w' : World) => qnew_any w')
    clear hget
    go_wp2_with (at_lookup; refine wpList_lookV rfl _ _ 62 false rfl 3 82 keyed Try.underlying62 _ (zero_ptr _) mb n (qv Qp) rfl HMB.out g rfl HKEY.out _ HLK.out ?_)
    have HS4 : Hid (∀ w' : World, (w'.heap[lp]? = w.heap[lp]?) → w'.cell? ⟨lp, 0, none⟩ = some (.map (some mb))) := Kit.hid (fun w' h => by
      have h1 := h.trans HP.out
      exact blk_cell h1 0)
    refine wp_region_noPanic ?_
    refine wp_region_held_drew (S := fun (w' : World) => w'.heap[lp]? = w.heap[lp]?) (by kernel_rfl) rfl (fun hHeld => ?_)
    refine wpAnyH_take (i := 0) (hi := by simp only [List.getElem?_toArray, List.getElem?_cons_succ, List.getElem?_cons_zero]; rfl) (v := ?_) (by kernel_rfl) (by kernel_rfl) (by kernel_rfl) (fun _ _ _ h => h) (Or.inl ⟨by rfl, ?_⟩) (by assumption) ?_
    rotate_left
    · (intro w hSw; (try dsimp only at hSw); go_simp; first | done | with_reducible rfl)
    try simp only [Act.put, List.setIfInBounds_toArray, List.set_cons_zero, List.set_cons_succ]
    refine wpAnyH_take (i := 1) (hi := by simp only [List.getElem?_toArray, List.getElem?_cons_succ, List.getElem?_cons_zero]; rfl) (v := ?_) (by kernel_rfl) (by kernel_rfl) (by kernel_rfl) (fun _ _ _ h => h) (Or.inl ⟨by rfl, ?_⟩) (by assumption) ?_
    rotate_left
    · (intro w hSw; (try dsimp only at hSw); (have x0 := HS4.out _ hSw); go_simp; first | done | with_reducible rfl)
    try simp only [Act.put, List.setIfInBounds_toArray, List.set_cons_zero, List.set_cons_succ]
    refine wpAnyH_take (i := 2) (hi := by simp only [List.getElem?_toArray, List.getElem?_cons_succ, List.getElem?_cons_zero]; rfl) (v := ?_) (by kernel_rfl) (by kernel_rfl) (by kernel_rfl) (fun _ _ _ h => h) (Or.inl ⟨by rfl, ?_⟩) (by assumption) ?_
    rotate_left
    · (intro w hSw; (try dsimp only at hSw); go_simp; first | done | with_reducible rfl)
    try simp only [Act.put, List.setIfInBounds_toArray, List.set_cons_zero, List.set_cons_succ]
    refine wpAnyH_take (i := 3) (hi := by simp only [List.getElem?_toArray, List.getElem?_cons_succ, List.getElem?_cons_zero]; rfl) (v := ?_) (by kernel_rfl) (by kernel_rfl) (by kernel_rfl) (fun _ _ _ h => h) (Or.inl ⟨by rfl, ?_⟩) (by assumption) ?_
    rotate_left
    · (intro w hSw; (try dsimp only at hSw); (have x0 := HS4.out _ hSw); go_simp; first | done | with_reducible rfl)
    try simp only [Act.put, List.setIfInBounds_toArray, List.set_cons_zero, List.set_cons_succ]
    refine wpAnyH_take (i := 4) (hi := by simp only [List.getElem?_toArray, List.getElem?_cons_succ, List.getElem?_cons_zero]; rfl) (v := ?_) (by kernel_rfl) (by kernel_rfl) (by kernel_rfl) (fun _ _ _ h => h) (Or.inl ⟨by rfl, ?_⟩) (by assumption) ?_
    rotate_left
    · (intro w hSw; (try dsimp only at hSw); go_simp; first | done | with_reducible rfl)
    try simp only [Act.put, List.setIfInBounds_toArray, List.set_cons_zero, List.set_cons_succ]
    refine wpAnyH_ready (rs := [5]) (by kernel_rfl) (by simp) ?_
    refine AllReadyH.cons (ho := by simp only [List.getElem?_toArray, List.getElem?_cons_succ, List.getElem?_cons_zero]; rfl) (fun K hK => ?_) (AllReadyH.nil)
    go_simp
    go_at_call 58; (with_reducible refine (HNW.out _).mono ?_); rintro e w1 ⟨p, rfl, hz1, hq1⟩
    have HSZ : Hid (w.heap.size ≤ p) := Kit.hid hz1
    have HQ1 : Hid (Qu w (fun _ => False) w1 p [] 0 1) := Kit.hid (qu_undrew hq1)
    clear hz1 hq1
    have HB1 : Hid (Below w.heap.size w w1) := Kit.hid (HQ1.out.kept.toBelow fun k hk => hk.elim)
    go_wp2_with fail
    refine hK.out _ _ ?_ (fun hHeldN => ?_)
    · exact HB1.out.block lp HLL.out
    clear hHeld
    have hHeld := hHeldN
    clear hHeldN
    clear hK K
    try simp only [Act.put, List.setIfInBounds_toArray, List.set_cons_zero, List.set_cons_succ]
    refine wpAnyH_ready (rs := [6]) (by kernel_rfl) (by simp) ?_
    refine AllReadyH.cons (ho := by simp only [List.getElem?_toArray, List.getElem?_cons_succ, List.getElem?_cons_zero]; rfl) (fun K hK => ?_) (AllReadyH.nil)
    refine step_of_wp rfl (wp_storeV _ _ _ 62 rfl 3 82 keyed Try.underlying62 mb n (qv Qp) (by simp [Act.eval, Act.put]) (HMB.out.same (HB1.out.block mb HMB.out.lt)) (by unfold maxLen; omega) g (.pointer (some ⟨p, 0, none⟩)) (by simp [Act.eval, Act.put]) (by simp [Act.eval, Act.put]) HKEY.out ?_)
    intro w2 hm4 hg4
    have HM2 := Kit.hid hm4
    have HG2 : Hid (w1.grownBy w2 (some mb)) := Kit.hid ⟨hg4.os, hg4.tape, hg4.output, hg4.size, hg4.block⟩
    clear hm4 hg4
    refine hK.out _ _ ?_ (fun hHeldN => ?_)
    · exact (HG2.out.block lp (Nat.lt_of_lt_of_le HLL.out HB1.out.size) (fun e => HNE.out (Option.some.inj e))).trans (HB1.out.block lp HLL.out)
    clear hHeld
    have hHeld := hHeldN
    clear hHeldN
    clear hK K
    try simp only [Act.put, List.setIfInBounds_toArray, List.set_cons_zero, List.set_cons_succ]
    clear hHeld
    refine wpAnyH_done (by kernel_rfl) ?_ _
    refine NoPanic.normal ?_
    skip
    obtain ⟨Fq', f1, f2, f3⟩ := HX.out.fresh HG.out hn0 HSZ.out HQ1.out HM2.out HG2.out
    have HRES := Kit.hid (of_post f1 (if_pos rfl) f2 f3 (f1.at_.trans HP.out.symm))
    have y0 : w2.cell? ⟨lp, 0, none⟩ = some (.map (some mb)) := blk_cell f1.at_ 0
    have HM3 : Hid (MapV Try.prog 3 w2 mb (fun j => if j = g then some (.pointer (some ⟨p, 0, none⟩)) else qv Qp j) (n + 1)) := HM2
    clear f1 f2 f3 hp0
    have HLK2 : Hid ((if false = true then Value.tuple #[((fun j => if j = g then some (Value.pointer (some ⟨p, 0, none⟩)) else qv Qp j) g).getD (.pointer none), .bool ((fun j => if j = g then some (Value.pointer (some ⟨p, 0, none⟩)) else qv Qp j) g).isSome] else ((fun j => if j = g then some (Value.pointer (some ⟨p, 0, none⟩)) else qv Qp j) g).getD (.pointer none)) = .pointer (some ⟨p, 0, none⟩)) := Kit.hid (by simp)
    go_wp2_with (at_lookup; refine wpList_lookV rfl _ _ 62 false rfl 3 82 keyed Try.underlying62 _ (zero_ptr _) mb (n + 1) _ rfl HM3.out g rfl HKEY.out _ HLK2.out ?_)
    go_ret
    exact ⟨p, rfl, HRES.out⟩
theorem of_any {F : Nat → Prop} (g : Int) (h : LF F w lp S n) (hn0 : 1 ≤ n) (hn : n ≤ 100000) (hi1 : -9223372036854775808 ≤ g) (hi2 : g ≤ 9223372036854775807) :
    Calls Try.prog 38 #[.pointer (some ⟨lp, 0, none⟩), .int .i64 g] w fun e w' => ∃ p, e = .returned (.pointer (some ⟨p, 0, none⟩)) ∧ OfP w F w' lp S (n + 1) g p := by
  obtain ⟨mb, mh, mk, vt, Qp, Fq, rfl, h⟩ := h
  exact of_x g h hn0 hn hi1 hi2
theorem rise_le {l : List Int} (h : l.Pairwise (· < ·)) : l.Pairwise (· ≤ ·) := h.imp fun h => Int.le_of_lt h
theorem task_any {F : Nat → Prop} (id : Int) (h : LF F w lp S n) (hn : n ≤ 100000) (hi1 : -9223372036854775808 ≤ id) (hi2 : id ≤ 9223372036854775807) :
    Calls Try.prog 24 #[.pointer (some ⟨lp, 0, none⟩), .int .i64 id] w fun e w' => e = .returned (.bool (decide (id ∈ S.tasks))) ∧ Below w.heap.size w w' := by
  obtain ⟨mb, mh, mk, vt, Qp, Fq, rfl, h⟩ := h
  have c2 := blk_cell h.at_ 2
  have HR := Kit.hid (search_row h.row id (by have := h.tn; omega) (rise_le h.rise))
  obtain ⟨A, c, rfl, _, _, _⟩ := h.row.reads
  clear h
  go_enter Try.func24, Try.ntmps24
  go_wp2_with fail
  (with_reducible refine HR.out.mono ?_); rintro e w1 ⟨rfl, q, rfl⟩
  go_wp2
  go_ret
  exact ⟨rfl, below_drewN (Below.refl _ _) q⟩
set_option maxRecDepth 8000 in
set_option maxHeartbeats 1600000 in
theorem empty_any {F : Nat → Prop} (g : Int) (h : LF F w lp S n) (hn0 : 1 ≤ n) (hn : n ≤ 3900) (hi1 : -9223372036854775808 ≤ g) (hi2 : g ≤ 9223372036854775807) :
    Calls Try.prog 27 #[.pointer (some ⟨lp, 0, none⟩), .int .i64 g] w fun e w' => e = .returned (.bool (decide ((S.Q g).1 = []))) ∧ Ln w F w' lp S (n + 1) := by
  have HO := Kit.hid (of_any g h hn0 (by omega) hi1 hi2)
  clear h
  go_enter Try.func27, Try.ntmps27
  go_wp2_with fail
  (with_reducible refine HO.out.mono ?_); rintro e w1 ⟨p, rfl, h1⟩
  obtain ⟨G, g1, g2, g3, g4, g5, g6, g7⟩ := h1
  have HA := Kit.hid (qall_any g1 g2 (by omega))
  have HL := Kit.hid g5
  have HLEN := Kit.hid g1.len
  clear g1 g2 g3 g4 g5 g6 g7
  go_wp2_with fail
  (with_reducible refine HA.out.mono ?_); rintro e w2 ⟨v, rfl, hv, hb⟩
  have HL2 := Kit.hid (HL.out.below hb)
  obtain ⟨A, c, rfl, _, _, _⟩ := own_readsS (by decide) hv
  have HD : Hid ((((S.Q g).1.length : Int) == 0) = decide ((S.Q g).1 = [])) := Kit.hid (by
    cases (S.Q g).1 with
    | nil => rfl
    | cons x l => simp; omega)
  clear hv hb
  go_wp2
  go_ret
  rw [HD.out]
  exact ⟨rfl, HL2.out⟩
end
end Go.Proofs.Ytpgfenelckonoaa.La
namespace Go.Proofs.Ytpgfenelckonoaa.La
open Go.RowKit Go.Proofs.Ytpgfenelckonoaa.Kit Go.Proofs.Ytpgfenelckonoaa.ShM Go.Proofs.Ytpgfenelckonoaa.Sh Go.Proofs.Ytpgfenelckonoaa.QuM Go.Proofs.Ytpgfenelckonoaa.Qu Go.Proofs.Ytpgfenelckonoaa.LaM
open Go.Proofs.Ytpgfenelckonoaa.Ki (Row row_nil row_of iv search_row contains_row clone_row insert_row delete_row)
set_option linter.unusedVariables false
set_option linter.unusedSimpArgs false
section
variable {w w' : World} {lp n : Nat} {S : LS} {F : Nat → Prop}
/-- What was laid behind does not count. -/
theorem Ln.lift {W : World} (hb : Below w.heap.size w W) (g : Ln W F w' lp S n) : Ln w F w' lp S n := Ln.trans (fun k hk => .inl hk) ((Kept.refl F w).below hb) g
theorem Ln.of_lf (hF : LF F w lp S n) {W : World} {F' : Nat → Prop} (g : Ln w F w' lp S n) : Ln w F w' lp S n := g
/-- What a lane's call leaves of what is not the lane's. -/
theorem Ln.block {w0 : World} {k : Nat} (h : Ln w0 F w lp S n) (hk : k < w0.heap.size) (hf : ¬ F k) : w.heap[k]? = w0.heap[k]? := h.kept.block k hk hf
theorem Ln.size {w0 : World} (h : Ln w0 F w lp S n) : w0.heap.size ≤ w.heap.size := h.kept.size
theorem LF.same (h : LF F w lp S n) (hs : ∀ k, F k → w'.heap[k]? = w.heap[k]?) : LF F w' lp S n := by
  obtain ⟨mb, mh, mk, vt, Qp, Fq, rfl, h⟩ := h
  exact ⟨mb, mh, mk, vt, Qp, Fq, rfl, h.same hs⟩
theorem set4_grown (w : World) (g : Nat) (a b c d : Value) : w.grownBy ((((w.setCell ⟨g, 0, none⟩ a).setCell ⟨g, 1, none⟩ b).setCell ⟨g, 2, none⟩ c).setCell ⟨g, 3, none⟩ d) (some g) :=
  ⟨rfl, rfl, rfl, by simp, fun k hk hne => set4 fun e => hne (by rw [e])⟩
/-- A block of one's own was written, behind a lane's call. -/
theorem Ln.own {W w6 : World} {gp : Nat} (h : Ln W F w' lp S n) (hb : Below w.heap.size w W) (hF : ∀ k, F k → k < w.heap.size) (hg : w.heap.size ≤ gp) (hg2 : gp < W.heap.size) (hgr : w'.grownBy w6 (some gp)) : Ln w F w6 lp S n := by
  obtain ⟨G, g1, g2, g3⟩ := h
  have hn : ¬ G gp := fun hG => by
    rcases g2 gp hG with h | h
    · have := hF gp h; omega
    · omega
  refine ⟨G, g1.same fun k hk => hgr.block k (g1.lt k hk) fun e => hn (by rw [Option.some.inj e] at hk; exact hk), fun k hk => ?_, (((Kept.refl F w).below hb).trans g3 (fun b hb => .inl hb)).grown hgr (fun k e => by cases e; exact .inr hg)⟩
  rcases g2 k hk with h | h
  · exact .inl h
  · exact .inr (Nat.le_trans hb.size h)
set_option maxRecDepth 20000 in
set_option maxHeartbeats 3200000 in
theorem join_lane (g : Int) (m : Mem) (h : LF F w lp S n) (hn0 : 1 ≤ n) (hn : n ≤ 3900) (hg1 : -9223372036854775808 ≤ g) (hg2 : g ≤ 9223372036854775807) (hi1 : -9223372036854775808 ≤ m.id) (hi2 : m.id ≤ 9223372036854775807) :
    Calls Try.prog 28 #[.pointer (some ⟨lp, 0, none⟩), .int .i64 g, .agg #[.int .i64 m.id, .int .i64 m.wt, .int .i64 m.v, .int .i64 m.rem]] w fun e w' => e = .returned (.int .i64 (joinS S g m).1) ∧ Ln w F w' lp (joinS S g m).2 (n + 3) := by
  have HLT := Kit.hid h.lt
  have HKEY : Hid (keyOf Try.prog 3 (.int .i64 m.id) = some (.int .i64 m.id)) := Kit.hid (int_key Try.underlying3 hi1 hi2)
  have HGR : Hid (-9223372036854775808 ≤ g ∧ g ≤ 9223372036854775807) := Kit.hid ⟨hg1, hg2⟩
  have HIR : Hid (-9223372036854775808 ≤ m.id ∧ m.id ≤ 9223372036854775807) := Kit.hid ⟨hi1, hi2⟩
  obtain ⟨gp, hgp⟩ : ∃ gp, gp = w.heap.size := ⟨_, rfl⟩
  obtain ⟨W1, hW1⟩ : ∃ W1, W1 = w.alloc (.cells #[.int .i64 m.id, .int .i64 m.wt, .int .i64 m.v, .int .i64 m.rem] 35) := ⟨_, rfl⟩
  have HB1 : Hid (Below w.heap.size w W1) := Kit.hid (by rw [hW1]; exact (Below.refl _ _).alloc (Nat.le_refl _) _)
  have HX1 : Hid (W1.heap[gp]? = some (.cells #[.int .i64 m.id, .int .i64 m.wt, .int .i64 m.v, .int .i64 m.rem] 35 (0, 0))) := Kit.hid (by rw [hW1, hgp]; exact blk_new _ _)
  have HNF : Hid (¬ F gp) := Kit.hid (fun hf => by have := HLT.out gp hf; omega)
  have HSM : Hid (∀ w' : World, w'.heap[gp]? = W1.heap[gp]? → w'.cell? ⟨gp, 0, none⟩ = some (.int .i64 m.id) ∧ w'.cell? ⟨gp, 1, none⟩ = some (.int .i64 m.wt) ∧ w'.cell? ⟨gp, 2, none⟩ = some (.int .i64 m.v) ∧ w'.cell? ⟨gp, 3, none⟩ = some (.int .i64 m.rem)) := Kit.hid (fun w' h => by
    have h1 := h.trans HX1.out
    exact ⟨blk_cell h1 0, blk_cell h1 1, blk_cell h1 2, blk_cell h1 3⟩)
  have HLW := Kit.hid (h.below HB1.out.drew)
  have HGL := Kit.hid (blk_lt HX1.out)
  have HOF := Kit.hid (of_any g HLW.out hn0 (by omega) hg1 hg2)
  clear h hi1 hi2 hg1 hg2
  go_enter Try.func28, Try.ntmps28
  go_wp2_with fail
  rw [← hgp, ← hW1]
  have HGP := Kit.hid hgp
  clear hW1 hgp
  refine wp_region_noPanic ?_
  refine wp_region_held_drew (S := fun (w' : World) => w'.heap[gp]? = W1.heap[gp]?) (by kernel_rfl) rfl (fun hHeld => ?_)
  refine wpAnyH_take (i := 0) (hi := by simp only [List.getElem?_toArray, List.getElem?_cons_succ, List.getElem?_cons_zero]; rfl) (v := ?_) (by kernel_rfl) (by kernel_rfl) (by kernel_rfl) (fun _ _ _ h => h) (Or.inl ⟨by rfl, ?_⟩) (by assumption) ?_
  rotate_left
  · (intro w hSw; (try dsimp only at hSw); go_simp; first | done | with_reducible rfl)
  try simp only [Act.put, List.setIfInBounds_toArray, List.set_cons_zero, List.set_cons_succ]
  refine wpAnyH_take (i := 1) (hi := by simp only [List.getElem?_toArray, List.getElem?_cons_succ, List.getElem?_cons_zero]; rfl) (v := ?_) (by kernel_rfl) (by kernel_rfl) (by kernel_rfl) (fun _ _ _ h => h) (Or.inl ⟨by rfl, ?_⟩) (by assumption) ?_
  rotate_left
  · (intro w hSw; (try dsimp only at hSw); go_simp; first | done | with_reducible rfl)
  try simp only [Act.put, List.setIfInBounds_toArray, List.set_cons_zero, List.set_cons_succ]
  refine wpAnyH_take (i := 3) (hi := by simp only [List.getElem?_toArray, List.getElem?_cons_succ, List.getElem?_cons_zero]; rfl) (v := ?_) (by kernel_rfl) (by kernel_rfl) (by kernel_rfl) (fun _ _ _ h => h) (Or.inl ⟨by rfl, ?_⟩) (by assumption) ?_
  rotate_left
  · (intro w hSw; (try dsimp only at hSw); (obtain ⟨x0, x1, x2, x3⟩ := HSM.out _ hSw); go_simp; first | done | with_reducible rfl)
  try simp only [Act.put, List.setIfInBounds_toArray, List.set_cons_zero, List.set_cons_succ]
  refine wpAnyH_ready (rs := [2]) (by kernel_rfl) (by simp) ?_
  refine AllReadyH.cons (ho := by simp only [List.getElem?_toArray, List.getElem?_cons_succ, List.getElem?_cons_zero]; rfl) (fun K hK => ?_) (AllReadyH.nil)
  go_simp
  go_at_call 38; (with_reducible refine HOF.out.mono ?_); rintro e w2 ⟨p, rfl, G, q1, q2, q3, q4, q5, q6, q7⟩
  have HQ1 := Kit.hid q1
  have HQ2 := Kit.hid q2
  have HQ3 := Kit.hid q3
  have HQ4 := Kit.hid q4
  have HG2 : Hid (w2.heap[gp]? = W1.heap[gp]?) := Kit.hid (q5.kept.block gp HGL.out HNF.out)
  have HGW : Hid (gp < w2.heap.size) := Kit.hid (Nat.lt_of_lt_of_le HGL.out q5.kept.size)
  have HJN := Kit.hid (join_any m q1 q2 (by omega) HIR.out.1 HIR.out.2)
  clear q1 q2 q3 q4 q5 q6 q7
  go_wp2_with fail
  refine hK.out _ _ ?_ (fun hHeldN => ?_)
  · exact HG2.out
  clear hHeld
  have hHeld := hHeldN
  clear hHeldN
  clear hK K
  try simp only [Act.put, List.setIfInBounds_toArray, List.set_cons_zero, List.set_cons_succ]
  refine wpAnyH_ready (rs := [4]) (by kernel_rfl) (by simp) ?_
  refine AllReadyH.cons (ho := by simp only [List.getElem?_toArray, List.getElem?_cons_succ, List.getElem?_cons_zero]; rfl) (fun K hK => ?_) (AllReadyH.nil)
  go_simp
  go_at_call 48; (with_reducible refine HJN.out.mono ?_); rintro e w3 ⟨rfl, q6⟩
  have HL3 : Hid (Ln W1.drew F w3 lp { S with Q := upd S.Q g (joinL m (S.Q g).1 (S.Q g).2, (S.Q g).2) } (n + 2)) := Kit.hid (HQ4.out w3 _ _ (n + 2) q6 (by omega) (HQ2.out.join m))
  have HG3K : Hid (w3.heap[gp]? = w2.heap[gp]?) := Kit.hid (q6.kept.block gp HGW.out (fun hf => by
    rcases HQ3.out gp hf with hh | hh
    · exact HNF.out hh
    · have := HGL.out
      have hh : W1.heap.size ≤ gp := hh
      omega))
  clear q6
  go_wp2_with fail
  refine hK.out _ _ ?_ (fun hHeldN => ?_)
  · exact HG3K.out.trans HG2.out
  clear hHeld
  have hHeld := hHeldN
  clear hHeldN
  clear hK K
  try simp only [Act.put, List.setIfInBounds_toArray, List.set_cons_zero, List.set_cons_succ]
  refine wpAnyH_take (i := 5) (hi := by simp only [List.getElem?_toArray, List.getElem?_cons_succ, List.getElem?_cons_zero]; rfl) (v := ?_) (by kernel_rfl) (by kernel_rfl) (by kernel_rfl) (fun _ _ _ h => h) (Or.inl ⟨by rfl, ?_⟩) (by assumption) ?_
  rotate_left
  · (intro w hSw; (try dsimp only at hSw); go_simp; first | done | with_reducible rfl)
  try simp only [Act.put, List.setIfInBounds_toArray, List.set_cons_zero, List.set_cons_succ]
  clear hHeld
  refine wpAnyH_done (by kernel_rfl) ?_ _
  refine NoPanic.normal ?_
  have hHeldX : w3.heap[gp]? = W1.heap[gp]? := HG3K.out.trans HG2.out
  by_cases hc : joinC m (S.Q g).1 (S.Q g).2 = 0
  · have HC := Kit.hid hc
    have HJS : Hid (joinS S g m = (joinC m (S.Q g).1 (S.Q g).2, { S with Q := upd S.Q g (joinL m (S.Q g).1 (S.Q g).2, (S.Q g).2), home := upd S.home m.id (some g) })) := Kit.hid (by unfold joinS; rw [if_pos hc, hc])
    have g1 : (joinC m (S.Q g).1 (S.Q g).2 == 0) = true := by simp [hc]
    obtain ⟨F3, h3, hF3, hK3⟩ := HL3.out
    obtain ⟨mb, mh, mk, vt, Qp, Fq, rfl, hx⟩ := LF.below h3 ((Below.refl w3.heap.size w3).drew)
    have HX := Kit.hid hx
    have HF3 := Kit.hid hF3
    have HK3 := Kit.hid hK3
    have HMH : Hid (MapV Try.prog 3 w3.drew mh (fun j => (S.home j).map (Value.int .i64)) (n + 2)) := Kit.hid hx.home
    have HG3 : Hid (w3.heap[gp]? = W1.heap[gp]?) := Kit.hid hHeldX
    have HS3 : Hid (∀ w' : World, (w'.heap[lp]? = w3.heap[lp]? ∧ w'.heap[gp]? = w3.heap[gp]?) → w'.cell? ⟨lp, 1, none⟩ = some (.map (some mh)) ∧ w'.cell? ⟨gp, 0, none⟩ = some (.int .i64 m.id)) := Kit.hid (fun w' h => by
      have h1 := h.1.trans HX.out.at_
      exact ⟨blk_cell h1 1, (HSM.out _ (h.2.trans HG3.out)).1⟩)
    have HNE : Hid (lp ≠ mh ∧ gp ≠ mh) := Kit.hid ⟨HX.out.parts.1.2.1, fun e => by
      subst e
      rcases hF3 gp (.inr (.inr (.inl rfl))) with hh | hh
      · exact HNF.out hh
      · have := HGL.out
        have hh : W1.heap.size ≤ gp := hh
        omega⟩
    have HLG : Hid (lp < w3.heap.size ∧ gp < w3.heap.size) := Kit.hid ⟨blk_lt (w := w3) HX.out.at_, blk_lt (w := w3) (HG3.out.trans HX1.out)⟩
    clear hx h3 hF3 hK3 hHeldX hc
    go_wp2_with fail
    refine wp_region_noPanic ?_
    refine wp_region_held_drew (S := fun (w' : World) => w'.heap[lp]? = w3.heap[lp]? ∧ w'.heap[gp]? = w3.heap[gp]?) (by kernel_rfl) ⟨rfl, rfl⟩ (fun hHeld => ?_)
    refine wpAnyH_take (i := 0) (hi := by simp only [List.getElem?_toArray, List.getElem?_cons_succ, List.getElem?_cons_zero]; rfl) (v := ?_) (by kernel_rfl) (by kernel_rfl) (by kernel_rfl) (fun _ _ _ h => h) (Or.inl ⟨by rfl, ?_⟩) (by assumption) ?_
    rotate_left
    · (intro w hSw; (try dsimp only at hSw); go_simp; first | done | with_reducible rfl)
    try simp only [Act.put, List.setIfInBounds_toArray, List.set_cons_zero, List.set_cons_succ]
    refine wpAnyH_take (i := 1) (hi := by simp only [List.getElem?_toArray, List.getElem?_cons_succ, List.getElem?_cons_zero]; rfl) (v := ?_) (by kernel_rfl) (by kernel_rfl) (by kernel_rfl) (fun _ _ _ h => h) (Or.inl ⟨by rfl, ?_⟩) (by assumption) ?_
    rotate_left
    · (intro w hSw; (try dsimp only at hSw); (obtain ⟨x0, x1⟩ := HS3.out _ hSw); go_simp; first | done | with_reducible rfl)
    try simp only [Act.put, List.setIfInBounds_toArray, List.set_cons_zero, List.set_cons_succ]
    refine wpAnyH_take (i := 2) (hi := by simp only [List.getElem?_toArray, List.getElem?_cons_succ, List.getElem?_cons_zero]; rfl) (v := ?_) (by kernel_rfl) (by kernel_rfl) (by kernel_rfl) (fun _ _ _ h => h) (Or.inl ⟨by rfl, ?_⟩) (by assumption) ?_
    rotate_left
    · (intro w hSw; (try dsimp only at hSw); go_simp; first | done | with_reducible rfl)
    try simp only [Act.put, List.setIfInBounds_toArray, List.set_cons_zero, List.set_cons_succ]
    refine wpAnyH_take (i := 3) (hi := by simp only [List.getElem?_toArray, List.getElem?_cons_succ, List.getElem?_cons_zero]; rfl) (v := ?_) (by kernel_rfl) (by kernel_rfl) (by kernel_rfl) (fun _ _ _ h => h) (Or.inl ⟨by rfl, ?_⟩) (by assumption) ?_
    rotate_left
    · (intro w hSw; (try dsimp only at hSw); (obtain ⟨x0, x1⟩ := HS3.out _ hSw); go_simp; first | done | with_reducible rfl)
    try simp only [Act.put, List.setIfInBounds_toArray, List.set_cons_zero, List.set_cons_succ]
    refine wpAnyH_take (i := 4) (hi := by simp only [List.getElem?_toArray, List.getElem?_cons_succ, List.getElem?_cons_zero]; rfl) (v := ?_) (by kernel_rfl) (by kernel_rfl) (by kernel_rfl) (fun _ _ _ h => h) (Or.inl ⟨by rfl, ?_⟩) (by assumption) ?_
    rotate_left
    · (intro w hSw; (try dsimp only at hSw); go_simp; first | done | with_reducible rfl)
    try simp only [Act.put, List.setIfInBounds_toArray, List.set_cons_zero, List.set_cons_succ]
    refine wpAnyH_take (i := 5) (hi := by simp only [List.getElem?_toArray, List.getElem?_cons_succ, List.getElem?_cons_zero]; rfl) (v := ?_) (by kernel_rfl) (by kernel_rfl) (by kernel_rfl) (fun _ _ _ h => h) (Or.inl ⟨by rfl, ?_⟩) (by assumption) ?_
    rotate_left
    · (intro w hSw; (try dsimp only at hSw); (obtain ⟨x0, x1⟩ := HS3.out _ hSw); go_simp; first | done | with_reducible rfl)
    try simp only [Act.put, List.setIfInBounds_toArray, List.set_cons_zero, List.set_cons_succ]
    refine wpAnyH_take (i := 6) (hi := by simp only [List.getElem?_toArray, List.getElem?_cons_succ, List.getElem?_cons_zero]; rfl) (v := ?_) (by kernel_rfl) (by kernel_rfl) (by kernel_rfl) (fun _ _ _ h => h) (Or.inl ⟨by rfl, ?_⟩) (by assumption) ?_
    rotate_left
    · (intro w hSw; (try dsimp only at hSw); go_simp; first | done | with_reducible rfl)
    try simp only [Act.put, List.setIfInBounds_toArray, List.set_cons_zero, List.set_cons_succ]
    refine wpAnyH_ready (rs := [7]) (by kernel_rfl) (by simp) ?_
    refine AllReadyH.cons (ho := by simp only [List.getElem?_toArray, List.getElem?_cons_succ, List.getElem?_cons_zero]; rfl) (fun K hK => ?_) (AllReadyH.nil)
    refine step_of_wp rfl (wp_storeV _ _ _ 63 rfl 3 3 keyed Try.underlying63 mh (n + 2) (fun j => (S.home j).map (Value.int .i64)) (by simp [Act.eval, Act.put]) HMH.out (by unfold maxLen; omega) m.id (.int .i64 g) (by simp [Act.eval, Act.put]) (by simp [Act.eval, Act.put]) HKEY.out ?_)
    intro w4 hm4 hg4
    have HL4 : Hid (Ln w F w4 lp { S with Q := upd S.Q g (joinL m (S.Q g).1 (S.Q g).2, (S.Q g).2), home := upd S.home m.id (some g) } (n + 3)) := Kit.hid (by
      have h := HX.out.setHome (H := upd S.home m.id (some g)) (n' := n + 3) (hm4.congr fun j => by
        unfold upd
        try dsimp only
        split <;> rfl) ⟨hg4.os, hg4.tape, hg4.output, hg4.size, hg4.block⟩ (by omega) (fun x y hxy => by
        unfold upd at hxy
        split at hxy
        · cases hxy; exact HGR.out
        · exact HX.out.rng x y hxy)
      exact (Ln.trans HF3.out (HK3.out.below ((Below.refl w3.heap.size w3).drew)) h).lift HB1.out.drew)
    have HG4 : Hid (w3.drew.grownBy w4 (some mh)) := Kit.hid ⟨hg4.os, hg4.tape, hg4.output, hg4.size, hg4.block⟩
    clear hm4 hg4
    refine hK.out _ _ ?_ (fun hHeldN => ?_)
    · exact ⟨HG4.out.block lp HLG.out.1 (fun e => HNE.out.1 (Option.some.inj e)), HG4.out.block gp HLG.out.2 (fun e => HNE.out.2 (Option.some.inj e))⟩
    clear hHeld
    have hHeld := hHeldN
    clear hHeldN
    clear hK K
    try simp only [Act.put, List.setIfInBounds_toArray, List.set_cons_zero, List.set_cons_succ]
    clear hHeld
    refine wpAnyH_done (by kernel_rfl) ?_ _
    refine NoPanic.normal ?_
    skip
    go_wp2
    go_ret
    rw [HJS.out]
    exact ⟨rfl, HL4.out⟩
  · have HJS : Hid (joinS S g m = (joinC m (S.Q g).1 (S.Q g).2, S)) := Kit.hid (by unfold joinS; rw [if_neg hc])
    have g1 : (joinC m (S.Q g).1 (S.Q g).2 == 0) = false := beq_eq_false_iff_ne.2 hc
    have HL4 : Hid (Ln w F w3 lp S (n + 3)) := Kit.hid (by
      have h := HL3.out.more (m := n + 3) (by omega)
      have e : joinL m (S.Q g).1 (S.Q g).2 = (S.Q g).1 := by unfold joinL; rw [if_neg hc]
      rw [e] at h
      have e2 : upd S.Q g ((S.Q g).1, (S.Q g).2) = S.Q := upd_self S.Q g
      rw [e2] at h
      exact h.lift HB1.out.drew)
    clear hHeldX hc
    go_wp2
    go_ret
    rw [HJS.out]
    exact ⟨rfl, HL4.out⟩
end
end Go.Proofs.Ytpgfenelckonoaa.La

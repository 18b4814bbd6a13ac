/- Lanes: Enter. -/
import Derived.Test.YtpgfenelckonoaaLxC
namespace Go.Proofs.Ytpgfenelckonoaa.La
open Go.RowKit Go.Shelf Go.Proofs.Ytpgfenelckonoaa.Kit Go.Proofs.Ytpgfenelckonoaa.ShM Go.Proofs.Ytpgfenelckonoaa.Sh Go.Proofs.Ytpgfenelckonoaa.QuM Go.Proofs.Ytpgfenelckonoaa.Qu Go.Proofs.Ytpgfenelckonoaa.LaM Go.Proofs.Ytpgfenelckonoaa.Seq
open Go.Proofs.Ytpgfenelckonoaa.Ki (Row row_nil row_of iv iv_len iv_one search_row contains_row clone_row insert_own delete_own)
set_option linter.unusedVariables false
set_option linter.unusedSimpArgs false
attribute [local go_sem] Oper.semAt_some
/-- What undoes a join. -/
def clo (b3 ib : Nat) : Value := .func (.func 30) #[] #[.pointer (some ⟨b3, 0, none⟩), .pointer (some ⟨ib, 0, none⟩)]
def encB (b3 : Nat) (x : Nat × Nat) : Array Value := #[.int .i64 (x.1 : Int), clo b3 x.2]
/-- What is told backward: whose joined last is at the head. -/
def bk : List (Nat × Int) → List (Nat × Nat)
  | [] => []
  | q :: r => (r.length, q.1) :: bk r
theorem bk_len : ∀ r : List (Nat × Int), (bk r).length = r.length
  | [] => rfl
  | q :: r => by simp [bk, bk_len r]
theorem bk_at : ∀ (r : List (Nat × Int)) (i : Nat) (q : Nat × Int), r[i]? = some q → (bk r)[i]? = some (r.length - 1 - i, q.1)
  | [], i, q, h => by simp at h
  | p :: r, 0, q, h => by
    simp at h
    subst h
    simp [bk]
  | p :: r, i + 1, q, h => by
    simp only [List.getElem?_cons_succ] at h
    simp only [bk, List.getElem?_cons_succ, List.length_cons]
    rw [bk_at r i q h]
    simp only [Option.some.injEq, Prod.mk.injEq, and_true]
    omega
theorem back_mk (A : Option Addr) (k c : Nat) (w : World) :
    Calls Try.prog 29 #[.slice A k c] w fun e w' => e = .returned (.func (.func 49) #[] #[.pointer (some ⟨w.heap.size, 0, none⟩)]) ∧
      Below w.heap.size w w' ∧ w'.heap.size = w.heap.size + 1 ∧ w'.heap[w.heap.size]? = some (.cells #[.slice A k c] 69 (0, 0)) := by
  go_enter Try.func29, Try.ntmps29
  go_wp2
  go_ret
  exact ⟨rfl, (Below.refl _ w).alloc (Nat.le_refl _) _, by simp, World.alloc_heap_new w _⟩
set_option maxHeartbeats 4000000 in
theorem back_seq (A : Option Addr) (ab c b3 : Nat) (rids : List (Nat × Int)) (W : World) (h1 : W.heap[ab]? = some (.cells #[.slice A rids.length c] 69 (0, 0)))
    (h2 : ∀ (j : Nat) (q : Nat × Int), rids[j]? = some q → ∃ ad : Addr, A = some ad ∧ W.cell? (ad.add (rids.length - 1 - j)) = some (clo b3 q.1)) (hlen : rids.length ≤ 1000) :
    SeqAt Try.prog 49 #[.pointer (some ⟨ab, 0, none⟩)] (encB b3) (bk rids) (fun k => k = ab ∨ ∃ ad : Addr, A = some ad ∧ k = ad.block) W := by
  intro l J Jx M hJ hJx hM h0 hY
  have la := blk_lt h1
  obtain ⟨R, hR⟩ : ∃ R : Nat → Prop, R = fun k => k = ab ∨ ∃ ad : Addr, rids ≠ [] ∧ A = some ad ∧ k = ad.block := ⟨_, rfl⟩
  have HRlt : Hid (∀ k, R k → k < W.heap.size ∧ k < W.heap.size) := Kit.hid (fun k h => by
    rw [hR] at h
    rcases h with h | ⟨ad, hne, h3, rfl⟩
    · omega
    · cases hr : rids with
      | nil => exact absurd hr hne
      | cons q r =>
        obtain ⟨ad', h4, h5⟩ := h2 0 q (by rw [hr]; rfl)
        rw [h3] at h4
        cases h4
        have := cell_lt h5
        have hb : (ad.add (rids.length - 1 - 0)).block = ad.block := by unfold Addr.add; split <;> rfl
        rw [hb] at this
        exact ⟨this, this⟩)
  have RA : Hid (R ab) := Kit.hid (by rw [hR]; exact .inl rfl)
  have RG : Hid (∀ ad : Addr, rids ≠ [] → A = some ad → R ad.block) := Kit.hid (fun ad hne h => by rw [hR]; exact .inr ⟨ad, hne, h, rfl⟩)
  have HM0 : Hid (∀ k, M k → ¬ R k) := Kit.hid (fun k hk h => by
    have := hM k hk
    rw [hR] at h
    rcases h with h | ⟨ad, _, h3, h4⟩
    · exact this.2 (.inl h)
    · exact this.2 (.inr ⟨ad, h3, h4⟩))
  have HH0 : Hid (Held R W J M [] W) := Kit.hid ⟨h0, HM0.out, fun k hk => (hM k hk).1, Nat.le_refl _, fun _ _ => rfl⟩
  have HY := Kit.hid hY
  have H1 := Kit.hid h1
  have H2 := Kit.hid h2
  have HBL := bk_len rids
  have c1 := blk_at h1 0
  have hwr : IntKind.i64.wrap ((rids.length : Int) - 1) = (rids.length : Int) - 1 := by rw [IntKind.wrap_i64]; omega
  have hwr2 : wrap64 ((rids.length : Int) - 1) = (rids.length : Int) - 1 := by unfold wrap64; omega
  clear hY hJ hJx hM h0 hR h1 h2
  refine (callsIn_wide (n := 3)).1 ?_
  refine callsIn_of_wp_marks Try.func49 rfl trivial ?_ rfl
  simp only [Try.ntmps49, List.size_toArray, List.length_cons, List.length_nil, Nat.reduceAdd, Nat.reduceSub, Array.replicate_succ, Array.replicate_zero, List.push_toArray, List.append_toArray, List.nil_append, List.cons_append]
  gi_wp2
  gi_loopw [3] (fun v3 wr => ∃ (i : Nat) (N : Nat → Prop), i ≤ rids.length ∧ v3 = .int .i64 ((i : Int) - 1) ∧ Hid (Held R W J N ((bk rids).take (rids.length - i)) wr)) (fun v3 _ => (intOf v3 + 1).toNat)
  case atStart =>
    exact ⟨rids.length, M, Nat.le_refl _, rfl, Kit.hid (by rw [Nat.sub_self]; exact HH0.out)⟩
  case round =>
    obtain ⟨i, N, hi, rfl, HI⟩ := hrel
    cases i with
    | zero =>
      have hfin : (bk rids).take (rids.length - 0) = bk rids := by rw [Nat.sub_zero, ← HBL, List.take_length]
      have HJ : Hid (J N (bk rids) wr) := Kit.hid (by have := HI.out.j; rw [hfin] at this; exact this)
      have e0 : ((0 : Nat) : Int) - 1 = -1 := by omega
      rw [e0]
      clear hfin
      gi_wp2
      exact ⟨_, results_none rfl _ _ _, ⟨_, rfl⟩, N, .inl HJ.out⟩
    | succ j =>
      have e0 : ((j + 1 : Nat) : Int) - 1 = (j : Int) := by omega
      rw [e0]
      obtain ⟨q, hq⟩ : ∃ q, rids[rids.length - 1 - j]? = some q := ⟨_, List.getElem?_eq_getElem (by omega)⟩
      have hx := bk_at rids _ q hq
      have ej : rids.length - 1 - (rids.length - 1 - j) = j := by omega
      rw [ej] at hx
      obtain ⟨ad, hA, hcell⟩ := H2.out _ q hq
      rw [ej] at hcell
      have hbl : (ad.add j).block = ad.block := by unfold Addr.add; split <;> rfl
      have hne : rids ≠ [] := fun e => by rw [e] at hq; simp at hq
      have hc2 : wr.cell? (ad.add j) = some (clo b3 q.1) := by
        refine Eq.trans ?_ hcell
        unfold World.cell?
        rw [hbl, HI.out.same _ (RG.out ad hne hA)]
      have hca : wr.cell? ⟨ab, 0, none⟩ = some (.slice A rids.length c) := (cell_same (HI.out.same _ RA.out) 0).trans (blk_at H1.out 0)
      have hla : ab < wr.heap.size := by have := HI.out.size; omega
      have hpre : (bk rids).take (rids.length - (j + 1)) ++ [(j, q.1)] <+: bk rids := by
        have e1 : rids.length - (j + 1) = rids.length - 1 - j := by omega
        rw [e1]
        have e2 : (bk rids).take (rids.length - 1 - j) ++ [(j, q.1)] = (bk rids).take (rids.length - 1 - j + 1) := by
          rw [List.take_add_one, hx]; rfl
        rw [e2]
        exact List.take_prefix _ _
      have HPRE := Kit.hid hpre
      have hnext : (bk rids).take (rids.length - (j + 1)) ++ [(j, q.1)] = (bk rids).take (rids.length - j) := by
        have e1 : rids.length - (j + 1) = rids.length - 1 - j := by omega
        have e2 : rids.length - j = rids.length - 1 - j + 1 := by omega
        rw [e1, e2, List.take_add_one, hx]; rfl
      have HNX := Kit.hid hnext
      obtain ⟨fn, tmps, assign, body, hy, hRR⟩ := HY.out N _ (j, q.1) wr HI.out.j HI.out.lt hpre 2
      have hE : encB b3 (j, q.1) = #[.int .i64 (j : Int), clo b3 q.1] := rfl
      simp only [hE] at hy
      unfold clo at hc2 hy
      subst hA
      have z1 : (0 : Int) ≤ (j : Int) := by omega
      have y1 : (j : Int) < (rids.length : Int) := by omega
      have hwj : IntKind.i64.wrap ((j : Int) - 1) = (j : Int) - 1 := by rw [IntKind.wrap_i64]; omega
      have hwj2 : wrap64 ((j : Int) - 1) = (j : Int) - 1 := by unfold wrap64; omega
      clear hx hq hcell hpre hnext hbl hne ej
      gi_wp2
      refine hRR.mono ?_
      rintro e W4 ⟨hlie, M4, hg4, (⟨rfl, hj4⟩ | ⟨rfl, hj4⟩)⟩
      · have HZ : Hid (Held R W J M4 ((bk rids).take (rids.length - j)) W4) := Kit.hid (HI.out.step (fun k h => (HRlt.out k h).1) hlie hg4 (by rw [← HNX.out]; exact hj4))
        clear hlie hg4 hj4 hca hc2 hy hRR
        gi_wp2
        go_roundw
        case rel => exact ⟨j, M4, by omega, rfl, HZ⟩
        case measure => simp [intOf]
      · have HZ := Kit.hid hj4
        clear hlie hg4 hj4 hca hc2 hy hRR
        gi_wp2
        exact ⟨_, results_none rfl _ _ _, ⟨_, rfl⟩, M4, .inr ⟨_, HPRE.out, HZ.out⟩⟩
section
variable {w w' : World} {lp n : Nat} {S : LS} {F : Nat → Prop}
theorem undo1_any (b3 ib : Nat) (id : Int) (h : LF F w lp S n) (hn0 : 1 ≤ n) (hn : n ≤ 3900) (h3 : w.heap[b3]? = some (.cells #[.pointer (some ⟨lp, 0, none⟩)] 24 (0, 0))) (hi : w.heap[ib]? = some (.cells #[.int .i64 id] 3 (0, 0)))
    (hi1 : -9223372036854775808 ≤ id) (hi2 : id ≤ 9223372036854775807) :
    Calls Try.prog 30 #[.pointer (some ⟨b3, 0, none⟩), .pointer (some ⟨ib, 0, none⟩)] w fun e w' => (∃ v, e = .returned v) ∧ Ln w F w' lp (quitS S id) (n + 1) := by
  have HQ := Kit.hid (quit_lane id h hn0 hn hi1 hi2)
  have c3 := blk_cell h3 0
  have ci := blk_cell hi 0
  have l3 := blk_lt h3
  have li := blk_lt hi
  clear h h3 hi
  go_enter Try.func30, Try.ntmps30
  go_wp2_with fail
  (with_reducible refine HQ.out.mono ?_); rintro e w1 ⟨rfl, hl, _⟩
  have HL := Kit.hid hl
  clear hl HQ
  go_wp2
  first
    | exact bodyPost_ret (results_none rfl _ _ _) rfl ⟨⟨_, rfl⟩, HL.out⟩
    | exact bodyPost_end (results_none rfl _ _ _) rfl ⟨⟨_, rfl⟩, HL.out⟩
end
/-- The lane behind some undone. -/
def stU (S : LS) (rs : List (Nat × Int)) : LS := rs.foldl (fun S q => quitS S q.2) S
/-- What holds while all are undone. -/
def UnI (w0 : World) (G0 : Nat → Prop) (lp : Nat) (S' : LS) (m : Nat) (rids : List (Nat × Int)) : (Nat → Prop) → List (Nat × Nat) → World → Prop := fun M pre W =>
  LF M W lp (stU S' (rids.take pre.length)) (m + pre.length) ∧ (∀ k, M k → Ext G0 w0 k) ∧ Kept G0 w0 W
theorem UnI.abide {w0 : World} {G0 : Nat → Prop} {lp m : Nat} {S' : LS} {rids : List (Nat × Int)} {B : Nat} (hB : w0.heap.size ≤ B) : Abide B (UnI w0 G0 lp S' m rids) := by
  rintro M s A A' ⟨h1, h2, h3⟩ ha
  refine ⟨h1.same fun k hk => ha.same k (h1.lt k hk) (.inr hk), h2, ?_⟩
  exact ⟨ha.os.trans h3.os, ha.tape.trans h3.tape, ha.output.trans h3.output, Nat.le_trans h3.size ha.size, fun k hk hn => (ha.same k (Nat.lt_of_lt_of_le hk h3.size) (.inl (by omega))).trans (h3.block k hk hn)⟩
end Go.Proofs.Ytpgfenelckonoaa.La
namespace Go.Proofs.Ytpgfenelckonoaa.La
open Go.RowKit Go.Shelf Go.Proofs.Ytpgfenelckonoaa.Kit Go.Proofs.Ytpgfenelckonoaa.ShM Go.Proofs.Ytpgfenelckonoaa.Sh Go.Proofs.Ytpgfenelckonoaa.QuM Go.Proofs.Ytpgfenelckonoaa.Qu Go.Proofs.Ytpgfenelckonoaa.LaM Go.Proofs.Ytpgfenelckonoaa.Seq
open Go.Proofs.Ytpgfenelckonoaa.Ki (Row row_nil row_of iv iv_len iv_one search_row contains_row clone_row insert_own delete_own)
set_option linter.unusedVariables false
set_option linter.unusedSimpArgs false
theorem infoF : (Try.prog.info? 1).map (fun i => (i.zero, i.size, i.bytes)) = some (some Value.nilFunc, 1, 8) := by kernel_rfl
def memO (m : Mem) : Obj := .cells #[.int .i64 m.id, .int .i64 m.wt, .int .i64 m.v, .int .i64 m.rem] 35 (0, 0)
/-- The blocks that Enter has laid beside the lane. -/
def OwnE (b3 b5 b8 : Nat) (v : Value) (rids : List (Nat × Int)) (k : Nat) : Prop := k = b3 ∨ k = b5 ∨ k = b8 ∨ v.ownBlock = some k ∨ ∃ q ∈ rids, q.1 = k
/-- What Enter holds at its label. -/
structure EnM (w : World) (F : Nat → Prop) (wr : World) (lp : Nat) (S' : LS) (m' : Nat) (G : Nat → Prop) (b3 b5 b8 : Nat) (m x : Mem) (Ab : Option Addr) (cb : Nat) (rids : List (Nat × Int)) : Prop where
  lf : LF G wr lp S' m'
  ext : ∀ k, G k → Ext F w k
  kept : Kept F w wr
  o3 : wr.heap[b3]? = some (.cells #[.pointer (some ⟨lp, 0, none⟩)] 24 (0, 0))
  o5 : wr.heap[b5]? = some (memO m)
  o8 : wr.heap[b8]? = some (memO x)
  row : wr.ownsRow w.heap.size 1 1 (.slice Ab rids.length cb) rids.length (rids.reverse.map fun q => clo b3 q.1)
  oid : ∀ q ∈ rids, wr.heap[q.1]? = some (.cells #[.int .i64 q.2] 3 (0, 0)) ∧ int64 q.2
  off : ∀ k, OwnE b3 b5 b8 (.slice Ab rids.length cb) rids k → ¬ G k
  ge : ∀ k, OwnE b3 b5 b8 (.slice Ab rids.length cb) rids k → w.heap.size ≤ k
  rne : ∀ k, (Value.slice Ab rids.length cb).ownBlock = some k → k ≠ b3 ∧ k ≠ b5 ∧ k ≠ b8 ∧ ∀ q ∈ rids, q.1 ≠ k
  ne8 : b8 ≠ b3 ∧ b8 ≠ b5 ∧ ∀ q ∈ rids, q.1 ≠ b8
section
variable {w wr w' : World} {lp n m' b3 b5 b8 cb : Nat} {S S' : LS} {F G : Nat → Prop} {m x : Mem} {Ab : Option Addr} {rids : List (Nat × Int)}
theorem EnM.lt (h : EnM w F wr lp S' m' G b3 b5 b8 m x Ab cb rids) : ∀ k, OwnE b3 b5 b8 (.slice Ab rids.length cb) rids k → k < wr.heap.size := by
  rintro k (rfl | rfl | rfl | hk | ⟨q, hq, rfl⟩)
  · exact blk_lt h.o3
  · exact blk_lt h.o5
  · exact blk_lt h.o8
  · exact (h.row.lt k hk).2
  · exact blk_lt (h.oid q hq).1
theorem EnM.same {G2 : Nat → Prop} {S2 : LS} {m2 : Nat} (h : EnM w F wr lp S' m' G b3 b5 b8 m x Ab cb rids) (hs : ∀ k, OwnE b3 b5 b8 (.slice Ab rids.length cb) rids k → w'.heap[k]? = wr.heap[k]?)
    (hl : LF G2 w' lp S2 m2) (he : ∀ k, G2 k → Ext F w k) (hk : Kept F w w') (ho : ∀ k, OwnE b3 b5 b8 (.slice Ab rids.length cb) rids k → ¬ G2 k) : EnM w F w' lp S2 m2 G2 b3 b5 b8 m x Ab cb rids :=
  ⟨hl, he, hk, (hs b3 (.inl rfl)).trans h.o3, (hs b5 (.inr (.inl rfl))).trans h.o5, (hs b8 (.inr (.inr (.inl rfl)))).trans h.o8, own_same h.row fun g hg => hs g (.inr (.inr (.inr (.inl hg)))),
    fun q hq => ⟨(hs q.1 (.inr (.inr (.inr (.inr ⟨q, hq, rfl⟩))))).trans (h.oid q hq).1, (h.oid q hq).2⟩, ho, h.ge, h.rne, h.ne8⟩
/-- A call on the lane. -/
theorem EnM.step {S2 : LS} {m2 : Nat} (h : EnM w F wr lp S' m' G b3 b5 b8 m x Ab cb rids) (hl : Ln wr G w' lp S2 m2) : ∃ G2, EnM w F w' lp S2 m2 G2 b3 b5 b8 m x Ab cb rids := by
  obtain ⟨G2, g1, g2, g3⟩ := hl
  refine ⟨G2, h.same (fun k hk => g3.block k (h.lt k hk) (h.off k hk)) g1 (fun k hk => ?_) (h.kept.trans g3 h.ext) (fun k hk hg => ?_)⟩
  · rcases g2 k hk with e | e
    · exact h.ext k e
    · exact .inr (Nat.le_trans h.kept.size e)
  · rcases g2 k hg with e | e
    · exact h.off k hk e
    · have := h.lt k hk; omega
theorem EnM.below (h : EnM w F wr lp S' m' G b3 b5 b8 m x Ab cb rids) (hb : Below wr.heap.size wr w') : EnM w F w' lp S' m' G b3 b5 b8 m x Ab cb rids :=
  h.same (fun k hk => hb.block k (h.lt k hk)) (h.lf.below hb) h.ext (h.kept.below hb) h.off
theorem EnM.more {m2 : Nat} (h : EnM w F wr lp S' m' G b3 b5 b8 m x Ab cb rids) (hm : m' ≤ m2) : EnM w F wr lp S' m2 G b3 b5 b8 m x Ab cb rids :=
  { h with lf := h.lf.more hm }
theorem EnM.ln (h : EnM w F wr lp S' m' G b3 b5 b8 m x Ab cb rids) : Ln w F wr lp S' m' := ⟨G, h.lf, h.ext, h.kept⟩
/-- Who is to join next is stored. -/
theorem EnM.setx {x' : Mem} (h : EnM w F wr lp S' m' G b3 b5 b8 m x Ab cb rids) (hg : wr.grownBy w' (some b8)) (ho : w'.heap[b8]? = some (memO x')) : EnM w F w' lp S' m' G b3 b5 b8 m x' Ab cb rids := by
  have hs : ∀ k, k < wr.heap.size → k ≠ b8 → w'.heap[k]? = wr.heap[k]? := fun k hk e => hg.block k hk (fun e' => e (Option.some.inj e'))
  have lt := h.lt
  exact ⟨h.lf.same fun k hk => hs k (h.lf.lt k hk) (fun e => h.off b8 (.inr (.inr (.inl rfl))) (by rw [← e]; exact hk)), h.ext, h.kept.grown hg (fun k e => by cases e; exact .inr (h.ge _ (.inr (.inr (.inl rfl))))),
    (hs b3 (lt b3 (.inl rfl)) (fun e => h.ne8.1 e.symm)).trans h.o3, (hs b5 (lt b5 (.inr (.inl rfl))) (fun e => h.ne8.2.1 e.symm)).trans h.o5, ho,
    own_same h.row (fun g hg' => hs g (lt g (.inr (.inr (.inr (.inl hg'))))) (h.rne g hg').2.2.1), fun q hq => ⟨(hs q.1 (lt q.1 (.inr (.inr (.inr (.inr ⟨q, hq, rfl⟩))))) (h.ne8.2.2 q hq)).trans (h.oid q hq).1, (h.oid q hq).2⟩, h.off, h.ge, h.rne, h.ne8⟩
/-- One more is to be undone, if the next join fails. -/
theorem EnM.push {w4 w6 : World} {ib c6 : Nat} {A6 : Option Addr} {id : Int} (h : EnM w F wr lp S' m' G b3 b5 b8 m x Ab cb rids) (hb : Below wr.heap.size wr w4) (hib : wr.heap.size ≤ ib) (hib2 : w4.heap[ib]? = some (.cells #[.int .i64 id] 3 (0, 0))) (hid : int64 id)
    (hr : w6.ownsRow w.heap.size 1 1 (.slice A6 (rids.length + 1) c6) (rids.length + 1) ((rids.reverse.map fun q => clo b3 q.1) ++ [clo b3 ib])) (hg : w4.grownBy w6 (Value.slice Ab rids.length cb).ownBlock)
    (ho : (Value.slice A6 (rids.length + 1) c6).ownBlock = (Value.slice Ab rids.length cb).ownBlock ∨ (Value.slice A6 (rids.length + 1) c6).ownBlock = some w4.heap.size) :
    EnM w F w6 lp S' m' G b3 b5 b8 m x A6 c6 ((ib, id) :: rids) := by
  have h4 := h.below hb
  have lt := h.lt
  have lib := blk_lt hib2
  have hs : ∀ k, k < w4.heap.size → (Value.slice Ab rids.length cb).ownBlock ≠ some k → w6.heap[k]? = w4.heap[k]? := fun k hk e => hg.block k hk (fun e' => e e'.symm)
  have own_lt : ∀ k, (Value.slice Ab rids.length cb).ownBlock = some k → k < wr.heap.size := fun k hk => lt k (.inr (.inr (.inr (.inl hk))))
  have ribs : ∀ q ∈ rids, q.1 < wr.heap.size := fun q hq => lt q.1 (.inr (.inr (.inr (.inr ⟨q, hq, rfl⟩))))
  have ho' : ∀ k, (Value.slice A6 (rids.length + 1) c6).ownBlock = some k → (Value.slice Ab rids.length cb).ownBlock = some k ∨ k = w4.heap.size := fun k hk => by
    rcases ho with e | e
    · exact .inl (by rw [← e]; exact hk)
    · rw [e] at hk; exact .inr (Option.some.inj hk).symm
  have glt := h.lf.lt
  have sz := hb.size
  have l3 := lt b3 (.inl rfl)
  have l5 := lt b5 (.inr (.inl rfl))
  have l8 := lt b8 (.inr (.inr (.inl rfl)))
  have cases' : ∀ k, OwnE b3 b5 b8 (.slice A6 ((ib, id) :: rids).length c6) ((ib, id) :: rids) k → OwnE b3 b5 b8 (.slice Ab rids.length cb) rids k ∨ k = ib ∨ k = w4.heap.size := by
    rintro k (hk | hk | hk | hk | ⟨q, hq, hk⟩)
    · exact .inl (.inl hk)
    · exact .inl (.inr (.inl hk))
    · exact .inl (.inr (.inr (.inl hk)))
    · rcases ho' k hk with e | e
      · exact .inl (.inr (.inr (.inr (.inl e))))
      · exact .inr (.inr e)
    · rcases List.mem_cons.1 hq with rfl | hq
      · exact .inr (.inl hk.symm)
      · exact .inl (.inr (.inr (.inr (.inr ⟨q, hq, hk⟩))))
  refine ⟨h4.lf.same fun k hk => hs k (h4.lf.lt k hk) (fun e => h.off k (.inr (.inr (.inr (.inl e)))) hk), h.ext, h4.kept.grown hg (fun k e => .inr (h.ge k (.inr (.inr (.inr (.inl e)))))),
    (hs b3 (by omega) (fun e => (h.rne _ e).1 rfl)).trans h4.o3, (hs b5 (by omega) (fun e => (h.rne _ e).2.1 rfl)).trans h4.o5, (hs b8 (by omega) (fun e => (h.rne _ e).2.2.1 rfl)).trans h4.o8, ?_, ?_, ?_, ?_, ?_, ?_⟩
  · rw [List.reverse_cons, List.map_append]
    exact hr
  · intro q hq
    rcases List.mem_cons.1 hq with rfl | hq
    · exact ⟨(hs ib lib (fun e => by have := own_lt _ e; omega)).trans hib2, hid⟩
    · have := ribs q hq
      exact ⟨(hs q.1 (by omega) (fun e => (h.rne _ e).2.2.2 q hq rfl)).trans (h4.oid q hq).1, (h.oid q hq).2⟩
  · intro k hk hg'
    have := glt k hg'
    rcases cases' k hk with e | e | e
    · exact h.off k e hg'
    · omega
    · omega
  · intro k hk
    have hk0 := h.kept.size
    rcases cases' k hk with e | e | e
    · exact h.ge k e
    · omega
    · omega
  · intro k hk
    rcases ho' k hk with e | e
    · obtain ⟨e1, e2, e3, e4⟩ := h.rne k e
      refine ⟨e1, e2, e3, fun q hq => ?_⟩
      rcases List.mem_cons.1 hq with rfl | hq
      · have := own_lt _ e; show ib ≠ k; omega
      · exact e4 q hq
    · refine ⟨by omega, by omega, by omega, fun q hq => ?_⟩
      rcases List.mem_cons.1 hq with rfl | hq
      · show ib ≠ k; omega
      · have := ribs q hq; omega
  · refine ⟨h.ne8.1, h.ne8.2.1, fun q hq => ?_⟩
    rcases List.mem_cons.1 hq with rfl | hq
    · show ib ≠ b8; omega
    · exact h.ne8.2.2 q hq
/-- What holds at Enter's label. -/
def EnJ (w : World) (F : Nat → Prop) (lp b3 b5 : Nat) (S : LS) (p : List St) (m : Mem) (M : Nat) (j : Nat) (a' : Act) (wr : World) : Prop :=
  ∃ (S' : LS) (p' : List St) (A' : Option Addr) (cap' : Nat) (x : Mem) (Ab : Option Addr) (cb : Nat) (rids : List (Nat × Int)) (m' b8 : Nat) (G : Nat → Prop), a'.tmps.size = 88 ∧ a'.defers = [] ∧ a'.tmps.getD 0 undef = .pointer (some ⟨lp, 0, none⟩) ∧
    a'.tmps.getD 1 undef = .slice A' p'.length cap' ∧ a'.tmps.getD 3 undef = .pointer (some ⟨b3, 0, none⟩) ∧ a'.tmps.getD 5 undef = .pointer (some ⟨b5, 0, none⟩) ∧ a'.tmps.getD 7 undef = .slice Ab rids.length cb ∧ a'.tmps.getD 8 undef = .pointer (some ⟨b8, 0, none⟩) ∧
    Hid (EnM w F wr lp S' m' G b3 b5 b8 m x Ab cb rids) ∧ Hid (SRow wr A' p' ∧ p'.length ≤ cap' ∧ (p' ≠ [] → ∀ a, A' = some a → a.block < w.heap.size ∧ ¬ F a.block)) ∧ Hid (j = p'.length ∧ m' + 4 * p'.length ≤ M ∧ 1 ≤ m' ∧ rids.length + p'.length ≤ 8) ∧
    Hid (enterGo S' p' x = enterGo S p m) ∧ Hid (stU S' rids = S) ∧ Hid (S'.kept = S.kept ∧ S'.tasks = S.tasks) ∧ Hid (int64 x.id ∧ (x.id = m.id ∨ m.id ≠ 0)) ∧
    Hid (m.id ≠ 0 → ∃ k sn, WP S' m.id x.id k sn ∧ oddGo S' p' sn = false ∧ m.id ∈ sn ∧ k + p'.length ≤ 8)
theorem lits88 (f : Nat → Value) : (List.range 88).map f = f 0 :: f 1 :: f 2 :: f 3 :: f 4 :: f 5 :: f 6 :: f 7 :: f 8 :: f 9 :: f 10 :: f 11 :: f 12 :: f 13 :: f 14 :: f 15 :: f 16 :: f 17 :: f 18 :: f 19 :: f 20 :: f 21 :: f 22 :: f 23 :: f 24 :: f 25 :: f 26 :: f 27 :: f 28 :: f 29 :: f 30 :: f 31 :: f 32 :: f 33 :: f 34 :: f 35 :: f 36 :: f 37 :: f 38 :: f 39 :: f 40 :: f 41 :: f 42 :: f 43 :: f 44 :: f 45 :: f 46 :: f 47 :: f 48 :: f 49 :: f 50 :: f 51 :: f 52 :: f 53 :: f 54 :: f 55 :: f 56 :: f 57 :: f 58 :: f 59 :: f 60 :: f 61 :: f 62 :: f 63 :: f 64 :: f 65 :: f 66 :: f 67 :: f 68 :: f 69 :: f 70 :: f 71 :: f 72 :: f 73 :: f 74 :: f 75 :: f 76 :: f 77 :: f 78 :: f 79 :: f 80 :: f 81 :: f 82 :: f 83 :: f 84 :: f 85 :: f 86 :: f 87 :: [] := rfl
theorem EnJ.open {M j : Nat} {p : List St} {a' : Act} (h : EnJ w F lp b3 b5 S p m M j a' wr) :
  ∃ (S' : LS) (p' : List St) (A' : Option Addr) (cap' : Nat) (x : Mem) (Ab : Option Addr) (cb : Nat) (rids : List (Nat × Int)) (m' b8 : Nat) (G : Nat → Prop) (u : Nat → Value), a' = { tmps := (.pointer (some ⟨lp, 0, none⟩) :: .slice A' p'.length cap' :: u 2 :: .pointer (some ⟨b3, 0, none⟩) :: u 4 :: .pointer (some ⟨b5, 0, none⟩) :: u 6 :: .slice Ab rids.length cb :: .pointer (some ⟨b8, 0, none⟩) :: u 9 :: u 10 :: u 11 :: u 12 :: u 13 :: u 14 :: u 15 :: u 16 :: u 17 :: u 18 :: u 19 :: u 20 :: u 21 :: u 22 :: u 23 :: u 24 :: u 25 :: u 26 :: u 27 :: u 28 :: u 29 :: u 30 :: u 31 :: u 32 :: u 33 :: u 34 :: u 35 :: u 36 :: u 37 :: u 38 :: u 39 :: u 40 :: u 41 :: u 42 :: u 43 :: u 44 :: u 45 :: u 46 :: u 47 :: u 48 :: u 49 :: u 50 :: u 51 :: u 52 :: u 53 :: u 54 :: u 55 :: u 56 :: u 57 :: u 58 :: u 59 :: u 60 :: u 61 :: u 62 :: u 63 :: u 64 :: u 65 :: u 66 :: u 67 :: u 68 :: u 69 :: u 70 :: u 71 :: u 72 :: u 73 :: u 74 :: u 75 :: u 76 :: u 77 :: u 78 :: u 79 :: u 80 :: u 81 :: u 82 :: u 83 :: u 84 :: u 85 :: u 86 :: u 87 :: []).toArray, defers := [] } ∧
    Hid (EnM w F wr lp S' m' G b3 b5 b8 m x Ab cb rids) ∧ Hid (SRow wr A' p' ∧ p'.length ≤ cap' ∧ (p' ≠ [] → ∀ a, A' = some a → a.block < w.heap.size ∧ ¬ F a.block)) ∧ Hid (j = p'.length ∧ m' + 4 * p'.length ≤ M ∧ 1 ≤ m' ∧ rids.length + p'.length ≤ 8) ∧
    Hid (enterGo S' p' x = enterGo S p m) ∧ Hid (stU S' rids = S) ∧ Hid (S'.kept = S.kept ∧ S'.tasks = S.tasks) ∧ Hid (int64 x.id ∧ (x.id = m.id ∨ m.id ≠ 0)) ∧
    Hid (m.id ≠ 0 → ∃ k sn, WP S' m.id x.id k sn ∧ oddGo S' p' sn = false ∧ m.id ∈ sn ∧ k + p'.length ≤ 8) := by
  obtain ⟨S', p', A', cap', x, Ab, cb, rids, m', b8, G, hs, hd, h0, h1, h3, h5, h7, h8, rest⟩ := h
  obtain ⟨⟨l⟩, df⟩ := a'
  cases hd
  have e := (list_lits l 88 hs).trans (lits88 _)
  have gg : ∀ i, l.getD i undef = (Array.mk l).getD i undef := fun i => by by_cases h : i < l.length <;> simp [Array.getD, h]
  rw [gg 0, h0, gg 1, h1, gg 3, h3, gg 5, h5, gg 7, h7, gg 8, h8] at e
  exact ⟨S', p', A', cap', x, Ab, cb, rids, m', b8, G, fun i => l.getD i undef, congrArg (fun x => (⟨Array.mk x, []⟩ : Act)) e, rest⟩
end
end Go.Proofs.Ytpgfenelckonoaa.La
namespace Go.Proofs.Ytpgfenelckonoaa.La
open Go.RowKit Go.Shelf Go.Proofs.Ytpgfenelckonoaa.Kit Go.Proofs.Ytpgfenelckonoaa.ShM Go.Proofs.Ytpgfenelckonoaa.Sh Go.Proofs.Ytpgfenelckonoaa.QuM Go.Proofs.Ytpgfenelckonoaa.Qu Go.Proofs.Ytpgfenelckonoaa.LaM Go.Proofs.Ytpgfenelckonoaa.Seq
open Go.Proofs.Ytpgfenelckonoaa.Ki (Row row_nil row_of iv iv_len iv_one search_row contains_row clone_row insert_own delete_own)
set_option linter.unusedVariables false
set_option linter.unusedSimpArgs false
attribute [local go_sem] Oper.semAt_some
theorem lit_one (w : World) (v : Value) (t : TypeId) : Cells (w.alloc (.cells #[v] t)) (some ⟨w.heap.size, 0, none⟩) [v] := fun i hi => ⟨_, rfl, by
  have hi : i < 1 := by simpa using hi
  obtain rfl : i = 0 := by omega
  rw [add_lit, blk_cell (blk_new w _)]
  rfl⟩
theorem srow_kept {w w1 w2 : World} {F : Nat → Prop} {A : Option Addr} {p : List St} (h : SRow w1 A p) (k1 : Kept F w w1) (k2 : Kept F w w2) (hA : p ≠ [] → ∀ a, A = some a → a.block < w.heap.size ∧ ¬ F a.block) : SRow w2 A p := by
  by_cases hp : p = []
  · subst hp; exact fun i hi => absurd hi (Nat.not_lt_zero _)
  · exact h.same fun a ha => (k2.block _ (hA hp a ha).1 (hA hp a ha).2).trans (k1.block _ (hA hp a ha).1 (hA hp a ha).2).symm
theorem first_int {w : World} {A : Option Addr} {p : List St} (h : SRow w A p) : int64 (firstS p) := by
  cases p with
  | nil => exact ⟨by decide, by decide⟩
  | cons s p =>
    obtain ⟨_, _, _, _, h⟩ := h 0 (by simp)
    exact h
theorem memberS_kept {S S2 : LS} (h : S2.kept = S.kept) (s : St) : memberS S2 s = memberS S s := by unfold memberS; rw [h]
theorem joinS_same (S : LS) (g : Int) (m : Mem) : (joinS S g m).2.kept = S.kept ∧ (joinS S g m).2.tasks = S.tasks ∧ ((joinS S g m).1 ≠ 0 → (joinS S g m).2 = S) := by
  unfold joinS
  split
  · exact ⟨rfl, rfl, fun h => absurd rfl h⟩
  · exact ⟨rfl, rfl, fun _ => rfl⟩
theorem insT_len (x : Int) : ∀ l : List Int, (insT x l).length = l.length + 1
  | [] => rfl
  | y :: l => by unfold insT; split <;> simp [insT_len x l]
theorem grown_below {w7 WA w8 : World} {o : Option Nat} (hb : Below w7.heap.size w7 WA) (hg : WA.grownBy w8 o) : w7.grownBy w8 o :=
  ⟨hg.os.trans hb.os, hg.tape.trans hb.tape, hg.output.trans hb.output, Nat.le_trans hb.size hg.size, fun k hk hne => (hg.block k (Nat.lt_of_lt_of_le hk hb.size) hne).trans (hb.block k hk)⟩
/-- A number is laid into the tasks' row. -/
theorem ins_task {w7 : World} {v : Value} {T : List Int} {x : Int} {i : Nat} (h : Row 0 w7 v T) (hT : T.Pairwise (· < ·)) (hl : T.length ≤ 1000000) (hi : i = T.countP (fun y => decide (y < x))) (WA : World) (hb : Below w7.heap.size w7 WA)
    (hv : WA.heap[w7.heap.size]? = some (.cells #[.int .i64 x] 3 (0, 0))) :
    Calls Try.prog 34 #[v, .int .i64 i, .slice (some ⟨w7.heap.size, 0, none⟩) 1 1] WA fun e w' => ∃ v', e = .returned v' ∧ Row 0 w' v' (insT x T) ∧ w7.grownBy w' v.ownBlock ∧ (v'.ownBlock = v.ownBlock ∨ ∀ k, v'.ownBlock = some k → w7.heap.size ≤ k) := by
  have h1 := insert_own (x := x) (h.below hb) i (by rw [hi]; exact List.countP_le_length) hl (Nat.zero_le _) hv (fun g hg e => by have := (h.own_lt g hg).2; omega)
  refine h1.mono ?_
  rintro e w' ⟨v', rfl, h2, h3, h4⟩
  refine ⟨v', rfl, ?_, grown_below hb h3, ?_⟩
  · rw [hi, rise_ins hT] at h2
    exact h2
  · rcases h4 with h4 | h4
    · exact .inl h4
    · exact .inr fun k hk => Nat.le_trans hb.size (h4 k hk)
theorem UnI.next {w4 W w2 W' : World} {G3 M : Nat → Prop} {lp m : Nat} {S' : LS} {rids : List (Nat × Int)} {pre : List (Nat × Nat)} {x : Nat × Nat} {q : Nat × Int} (h : UnI w4 G3 lp S' m rids M pre w2) (hs : W.heap.size ≤ w2.heap.size) (hq : rids[pre.length]? = some q)
    (hl : Ln w2 M W' lp (quitS (stU S' (rids.take pre.length)) q.2) (m + pre.length + 1)) : Lie (fun k => M k ∨ W.heap.size ≤ k) w2 W' ∧ ∃ M', Grows M M' W W' ∧ UnI w4 G3 lp S' m rids M' (pre ++ [x]) W' := by
  obtain ⟨M', k1, k2, k3⟩ := hl
  refine ⟨⟨k3.size, fun k hk hn => k3.block k hk (fun e => hn (.inl e))⟩, M', fun k hk => ⟨k1.lt k hk, ?_⟩, ?_, fun k hk => ?_, h.2.2.trans k3 h.2.1⟩
  · rcases k2 k hk with e | e
    · exact .inl e
    · exact .inr (Nat.le_trans hs e)
  · have e1 : stU S' (rids.take (pre ++ [x]).length) = quitS (stU S' (rids.take pre.length)) q.2 := by
      rw [List.length_append, List.length_singleton, List.take_add_one, hq]
      unfold stU
      rw [List.foldl_append]
      rfl
    rw [e1, List.length_append, List.length_singleton]
    exact k1
  · rcases k2 k hk with e | e
    · exact h.2.1 k e
    · exact .inr (Nat.le_trans h.2.2.size e)
section
variable {w w' : World} {lp n : Nat} {S : LS} {F : Nat → Prop}
set_option maxRecDepth 100000 in
set_option maxHeartbeats 12800000 in
theorem enter_lane (A : Option Addr) (p : List St) (cap : Nat) (m : Mem) (h : LF F w lp S n) (wl : WL S) (hr : SRow w A p) (hA : p ≠ [] → ∀ a, A = some a → a.block < w.heap.size ∧ ¬ F a.block) (hc : p.length ≤ cap) (hl : p.length ≤ 8) (hn0 : 1 ≤ n) (hn : n ≤ 3800) (hi : int64 m.id) :
    Calls Try.prog 10 #[.pointer (some ⟨lp, 0, none⟩), .slice A p.length cap, .agg #[.int .i64 m.id, .int .i64 m.wt, .int .i64 m.v, .int .i64 m.rem]] w fun e w' => e = .returned (.int .i64 (enterS S p m).1) ∧ Ln w F w' lp (enterS S p m).2 (n + 60) := by
  have HLF := Kit.hid h
  have HWL := Kit.hid wl
  have HIR := Kit.hid hi
  have HSR := Kit.hid hr
  have HAB := Kit.hid hA
  have HLT := Kit.hid h.lt
  obtain ⟨b3, hb3⟩ : ∃ b3, b3 = w.heap.size := ⟨_, rfl⟩
  obtain ⟨b5, hb5⟩ : ∃ b5, b5 = w.heap.size + 1 := ⟨_, rfl⟩
  obtain ⟨W1, hW1⟩ : ∃ W1, W1 = (w.alloc (.cells #[.pointer (some ⟨lp, 0, none⟩)] 24)).alloc (.cells #[.int .i64 m.id, .int .i64 m.wt, .int .i64 m.v, .int .i64 m.rem] 35) := ⟨_, rfl⟩
  have HB1 : Hid (Below w.heap.size w W1) := Kit.hid (by rw [hW1]; exact ((Below.refl _ _).alloc (Nat.le_refl _) _).alloc (by simp) _)
  have H31 : Hid (W1.heap[b3]? = some (.cells #[.pointer (some ⟨lp, 0, none⟩)] 24 (0, 0))) := Kit.hid (by rw [hW1, hb3]; exact blk_alloc (blk_new _ _) _)
  have H51 : Hid (W1.heap[b5]? = some (memO m)) := Kit.hid (by
    rw [hW1, hb5]
    have := blk_new (w.alloc (.cells #[.pointer (some ⟨lp, 0, none⟩)] 24)) (.cells #[.int .i64 m.id, .int .i64 m.wt, .int .i64 m.v, .int .i64 m.rem] 35)
    rw [World.size_alloc] at this
    exact this)
  have HNF : Hid (¬ F b3 ∧ ¬ F b5) := Kit.hid ⟨fun hf => by have := HLT.out _ hf; omega, fun hf => by have := HLT.out _ hf; omega⟩
  have HGE : Hid (w.heap.size ≤ b3 ∧ w.heap.size ≤ b5 ∧ b3 ≠ b5) := Kit.hid ⟨by omega, by omega, by omega⟩
  have HL1 := Kit.hid (h.below HB1.out)
  have HW1 := Kit.hid hW1
  have HE3 := Kit.hid hb3
  have HE5 := Kit.hid hb5
  have d3 := blk_cell H31.out 0
  have d5 : W1.cell? ⟨b5, 0, none⟩ = some (.int .i64 m.id) := blk_cell H51.out 0
  have l3 := blk_lt H31.out
  have l5 := blk_lt H51.out
  clear h hi hr hA hW1 hb3 hb5
  refine (callsIn_wide (n := 3)).1 ?_
  refine callsIn_of_wp_marks Try.func10 rfl trivial ?_ rfl
  refine wpIn_wide.2 ?_
  generalize hQ : bodyPostM (Fence.wide) 3 Try.prog Try.f10 _ = Q'
  have HQ := Kit.hid hQ
  clear hQ
  simp only [Try.ntmps10, List.size_toArray, List.length_cons, List.length_nil, Nat.reduceAdd, Nat.reduceSub, Array.replicate_succ, Array.replicate_zero, List.push_toArray, List.append_toArray, List.nil_append, List.cons_append]
  go_wp2
  rw [← HE5.out, ← HE3.out, ← HW1.out]
  have HTS := Kit.hid (task_any m.id HL1.out (by omega) HIR.out.1 HIR.out.2)
  by_cases h1 : m.id ∈ S.tasks
  · have HRES : Hid (enterS S p m = (9, S)) := Kit.hid (by unfold enterS; rw [if_pos h1])
    rw [decide_eq_true h1] at HTS
    clear h1
    refine scope_label_n 0 (fun _ _ _ => False) rfl (fun n a w h => h.elim) ?_
    intro HF
    go_wp2_with fail
    (with_reducible refine HTS.out.mono ?_); rintro e w2 ⟨rfl, hb2⟩
    have HB2 := Kit.hid (HB1.out.trans (hb2.mono HB1.out.size))
    clear hb2 HTS
    go_wp2
    simp only [Exit.jump]
    rw [← HQ.out]
    exact ⟨_, results_tmp rfl _ _ _, by rw [HRES.out]; rfl, by rw [HRES.out]; exact (HLF.out.self_below HB2.out).more (by omega)⟩
  have A1 := Kit.hid h1
  rw [decide_eq_false h1] at HTS
  have HOD : Hid (∀ w', Below W1.heap.size W1 w' → Calls Try.prog 25 #[.pointer (some ⟨lp, 0, none⟩), .slice A p.length cap, .int .i64 m.id] w' fun e w'' => e = .returned (.bool (oddS S p m.id)) ∧ Below w'.heap.size w' w'') := Kit.hid (fun w' hb =>
    odd_any A p cap m.id (HL1.out.below hb) (HSR.out.below (HB1.out.trans (hb.mono HB1.out.size))) hc hl (by omega) HIR.out.1 HIR.out.2)
  clear h1
  by_cases h2 : oddS S p m.id = true
  · have HRES : Hid (enterS S p m = (11, S)) := Kit.hid (by unfold enterS; rw [if_neg A1.out, if_pos h2])
    rw [h2] at HOD
    clear h2
    refine scope_label_n 0 (fun _ _ _ => False) rfl (fun n a w h => h.elim) ?_
    intro HF
    go_wp2_with fail
    (with_reducible refine HTS.out.mono ?_); rintro e w2 ⟨rfl, hb2⟩
    have HB2 := Kit.hid hb2
    have h32 := blk_below H31.out hb2
    have h52 := blk_below H51.out hb2
    have e3 := blk_cell h32 0
    have e5 : w2.cell? ⟨b5, 0, none⟩ = some (.int .i64 m.id) := blk_cell h52 0
    have k3 := blk_lt h32
    have k5 := blk_lt h52
    clear hb2 HTS h32 h52 d3 d5
    go_wp2_with fail
    (with_reducible refine (HOD.out _ HB2.out).mono ?_); rintro e w3 ⟨rfl, hb3⟩
    have HB3 := Kit.hid (HB1.out.trans ((HB2.out.trans (hb3.mono HB2.out.size)).mono HB1.out.size))
    clear hb3
    go_wp2
    simp only [Exit.jump]
    rw [← HQ.out]
    exact ⟨_, results_tmp rfl _ _ _, by rw [HRES.out]; rfl, by rw [HRES.out]; exact (HLF.out.self_below HB3.out).more (by omega)⟩
  have A2 := Kit.hid h2
  have h2f : oddS S p m.id = false := by simpa using h2
  rw [h2f] at HOD
  have HOF := Kit.hid h2f
  clear h2 h2f
  have HOP : Hid (oddGo S p [m.id] = false ∧ S.home m.id = none) := Kit.hid (by
    have ho : oddGo S p [m.id] = false ∧ (S.home m.id).isSome = false := by
      have := HOF.out
      unfold oddS at this
      simpa using this
    refine ⟨ho.1, ?_⟩
    cases hh : S.home m.id with
    | none => rfl
    | some j => rw [hh] at ho; cases ho.2)
  have HWP0 : Hid (m.id ≠ 0 → ∃ k sn, WP S m.id m.id k sn ∧ oddGo S p sn = false ∧ m.id ∈ sn ∧ k + p.length ≤ 8) := Kit.hid (fun h0 => ⟨0, [m.id], wp_start HWL.out A1.out HOP.out.2 h0, HOP.out.1, by simp, by omega⟩)
  refine scope_label_n 0 (EnJ w F lp b3 b5 S p m (n + 32)) rfl ?_ ?_
  · rintro j a' wr hJ
    obtain ⟨S', p', A', cap', x, Ab, cb, rids, m', b8, G, u, rfl, HEM, HSP, HM, HEG, HST, HKT, HXI, HWP⟩ := hJ.open
    clear hJ
    have hmm : m' + 4 * p'.length ≤ n + 32 ∧ 1 ≤ m' := ⟨HM.out.2.1, HM.out.2.2.1⟩
    have hp8 : rids.length + p'.length ≤ 8 := HM.out.2.2.2
    have HC1 := Kit.hid (first_any A' p' p'.length cap' wr rfl HSP.out.1)
    obtain ⟨g, hg⟩ : ∃ g, g = firstS p' := ⟨_, rfl⟩
    have HGI : Hid (int64 g) := Kit.hid (by rw [hg]; exact first_int HSP.out.1)
    rw [← hg] at HC1
    have HGE2 := Kit.hid hg
    clear hg
    go_wp2_with fail
    (with_reducible refine HC1.out.mono ?_); rintro e w1 ⟨rfl, hb1⟩
    have HEM1 := Kit.hid (HEM.out.below hb1)
    have HS1 := Kit.hid (HSP.out.1.below hb1)
    have HE := Kit.hid (empty_any g HEM1.out.lf hmm.2 (by omega) HGI.out.1 HGI.out.2)
    have c3 := blk_cell HEM1.out.o3 0
    have k3 := blk_lt HEM1.out.o3
    obtain ⟨rb, hrb⟩ : ∃ rb, rb = decide ((S'.Q g).1 = []) := ⟨_, rfl⟩
    have HRB := Kit.hid hrb
    rw [← hrb] at HE
    clear hb1 HC1 hrb
    go_wp2_with fail
    (with_reducible refine HE.out.mono ?_); rintro e w2 ⟨rfl, hl2⟩
    obtain ⟨G2, hem2⟩ := HEM1.out.step hl2
    have HEM2 := Kit.hid hem2
    have HS2 := Kit.hid (srow_kept HS1.out HEM1.out.kept hem2.kept HSP.out.2.2)
    have HJN := Kit.hid (join_lane g x hem2.lf (by omega) (by omega) HGI.out.1 HGI.out.2 HXI.out.1.1 HXI.out.1.2)
    have c32 := blk_cell hem2.o3 0
    have k32 := blk_lt hem2.o3
    have c80 : w2.cell? ⟨b8, 0, none⟩ = some (.int .i64 x.id) := blk_cell hem2.o8 0
    have c81 : w2.cell? ⟨b8, 1, none⟩ = some (.int .i64 x.wt) := blk_cell hem2.o8 1
    have c82 : w2.cell? ⟨b8, 2, none⟩ = some (.int .i64 x.v) := blk_cell hem2.o8 2
    have c83 : w2.cell? ⟨b8, 3, none⟩ = some (.int .i64 x.rem) := blk_cell hem2.o8 3
    have k82 := blk_lt hem2.o8
    obtain ⟨je, S2, hjs⟩ : ∃ je S2, joinS S' g x = (je, S2) := ⟨_, _, rfl⟩
    have HJS := Kit.hid hjs
    rw [hjs] at HJN
    clear hl2 hem2 HE c3 k3 hjs
    go_wp2_with fail
    (with_reducible refine HJN.out.mono ?_); rintro e w3 ⟨rfl, hl3⟩
    obtain ⟨G3, hem3⟩ := HEM2.out.step hl3
    have HEM3 := Kit.hid hem3
    have HS3 := Kit.hid (srow_kept HS2.out HEM2.out.kept hem3.kept HSP.out.2.2)
    clear hl3 hem3 HJN c32 k32 c80 c81 c82 c83 k82
    by_cases hje : je = 0
    · subst hje
      have g1 : ((0 : Int) != 0) = false := by decide
      have HJ0 : Hid ((joinS S' g x).1 = 0) := Kit.hid (by rw [HJS.out])
      have HS2K : Hid (S2.kept = S'.kept ∧ S2.tasks = S'.tasks) := Kit.hid (by have := joinS_same S' g x; rw [HJS.out] at this; exact ⟨this.1, this.2.1⟩)
      obtain ⟨L', hse, hL, hjc⟩ := join_is HJ0.out
      have HJC := Kit.hid hjc
      have hx1 := (join_ok hjc).1
      have hm0 : m.id ≠ 0 := by
        rcases HXI.out.2 with e | e
        · omega
        · exact e
      obtain ⟨k, sn, hwp, hog, hms, hk8⟩ := HWP.out hm0
      have HWPK := Kit.hid hwp
      have HOG := Kit.hid hog
      have HMS := Kit.hid hms
      have HM0 := Kit.hid hm0
      have HSE : Hid (S2 = { S' with Q := upd S'.Q g (joinL x (S'.Q g).1 (S'.Q g).2, (S'.Q g).2), home := upd S'.home x.id (some g) }) := Kit.hid (by
        have := HJS.out
        rw [← hL, ← hse, this])
      have HUN : Hid (∀ ib, stU S2 ((ib, x.id) :: rids) = S) := Kit.hid (fun ib => by
        have h1 := join_quit HJ0.out hwp.next.1
        rw [HJS.out] at h1
        show stU (quitS S2 x.id) rids = S
        rw [h1]
        exact HST.out)
      have c80 : w3.cell? ⟨b8, 0, none⟩ = some (.int .i64 x.id) := blk_cell HEM3.out.o8 0
      have k83 := blk_lt HEM3.out.o8
      obtain ⟨ib, hib⟩ : ∃ ib, ib = w3.heap.size := ⟨_, rfl⟩
      have HIB := Kit.hid hib
      have hownA : ((w3.alloc (.cells #[.int .i64 x.id] 3)).alloc (.cells #[clo b3 w3.heap.size] 1)).ownsRow w.heap.size 1 1 (.slice Ab rids.length cb) rids.length (rids.reverse.map fun q => clo b3 q.1) := own_belowS HEM3.out.row (((Below.refl _ _).alloc (Nat.le_refl _) _).alloc (by simp) _)
      have HB4 : Hid (Below w3.heap.size w3 ((w3.alloc (.cells #[.int .i64 x.id] 3)).alloc (.cells #[clo b3 w3.heap.size] 1))) := Kit.hid (((Below.refl _ _).alloc (Nat.le_refl _) _).alloc (by simp) _)
      have hcA : Cells ((w3.alloc (.cells #[.int .i64 x.id] 3)).alloc (.cells #[clo b3 w3.heap.size] 1)) (some ⟨w3.heap.size + 1, 0, none⟩) [clo b3 w3.heap.size] := by
        have := lit_one (w3.alloc (.cells #[.int .i64 x.id] 3)) (clo b3 w3.heap.size) 1
        rwa [World.size_alloc] at this
      have hI4 : ((w3.alloc (.cells #[.int .i64 x.id] 3)).alloc (.cells #[clo b3 w3.heap.size] 1)).heap[w3.heap.size]? = some (.cells #[.int .i64 x.id] 3 (0, 0)) := blk_alloc (blk_new _ _) _
      have HI4 := Kit.hid hI4
      have HSZ : Hid (w.heap.size ≤ w3.heap.size) := Kit.hid HEM3.out.kept.size
      unfold clo at hcA hownA
      clear hse hL hjc hwp hog hms hm0 hib hI4
      by_cases hgo : rb = true ∧ 0 < p'.length
      · obtain ⟨hrb, hpl⟩ := hgo
        subst hrb
        have HQE : Hid ((S'.Q g).1 = []) := Kit.hid (by have := HRB.out; exact of_decide_eq_true this.symm)
        obtain ⟨s, q, rfl⟩ : ∃ s q, p' = s :: q := by
          cases p' with
          | nil => simp at hpl
          | cons s q => exact ⟨s, q, rfl⟩
        have HGS : Hid (g = s.id) := Kit.hid HGE2.out
        have HSI : Hid (int64 s.id) := Kit.hid (by rw [← HGS.out]; exact HGI.out)
        obtain ⟨o1, o2, o3, o4, o5⟩ := odd_cons HOG.out
        have hne : s.id ≠ m.id := fun e => o2 (by rw [e]; exact HMS.out)
        have hq : (S'.Q s.id).1 = [] := by rw [← HGS.out]; exact HQE.out
        have hh : S'.home s.id = none := by
          cases hh : S'.home s.id with
          | none => rfl
          | some j => exact absurd hq (HWPK.out.full s.id j hh (by exact o3) hne)
        have HWP2 : Hid (WP S2 m.id s.id (k + 1) (sn ++ [s.id])) := Kit.hid (by
          rw [HSE.out, HGS.out]
          refine wp_join HWPK.out rfl ?_ o2 hh (by omega) (by exact o3) hne
          have := HJC.out
          rw [HGS.out] at this
          exact this)
        have HOG2 : Hid (oddGo S2 q (sn ++ [s.id]) = false) := Kit.hid (by
          rw [← o5]
          refine odd_same (S := S') HS2K.out.2 (fun a ha => ?_)
          rw [HSE.out]
          exact upd_ne _ _ (fun e => odd_notin o5 a ha (by rw [e]; exact List.mem_append_left _ HWPK.out.next.2.1)))
        have HMB : Hid (∀ w', Below w3.heap.size w3 w' → True) := Kit.hid (fun _ _ => trivial)
        obtain ⟨y, hy⟩ : ∃ y, y = memberS S' s := ⟨_, rfl⟩
        have HYI : Hid (y.id = s.id) := Kit.hid (by rw [hy]; exact memberS_id _ _)
        have HEG2 : Hid (enterGo S2 q y = enterGo S p m) := Kit.hid (by
          rw [← HEG.out, hy]
          conv => rhs; unfold enterGo
          have h1 := HJ0.out
          have h2 := HJS.out
          rw [HGS.out] at h1 h2
          rw [if_neg (by simpa using h1), if_pos hq, h2])
        have HMY : Hid (memberS S2 s = y) := Kit.hid (by rw [hy]; exact memberS_kept HS2K.out.1 s)
        have HKB : Hid (∀ k, S2.kept s.id = some k → 1 ≤ k.wt ∧ k.wt ≤ 1048576 ∧ 0 ≤ k.rem ∧ k.rem < k.wt) := Kit.hid (fun k hk => by
          rw [HS2K.out.1, HKT.out.1] at hk
          obtain ⟨e1, e2, e3, e4, _⟩ := HWL.out.kept _ k hk
          exact ⟨e1, e2, e3, e4⟩)
        have hm4 : m' + 4 * q.length + 4 ≤ n + 32 := by have := hmm.1; simp at this; omega
        have hr8 : rids.length + 1 + q.length ≤ 8 := by simp at hp8; omega
        have hpl2 : (0 : Int) < ((s :: q).length : Int) := by rw [List.length_cons]; omega
        clear o1 o2 o3 o4 o5 hne hq hh hy
        go_wp2_with (at_builtin; refine wpList_append_src rfl _ _ 69 rfl w.heap.size 1 Value.nilFunc 8 Try.underlying69 infoF rfl (.slice Ab rids.length cb) _ _ rfl hownA (some ⟨w3.heap.size + 1, 0, none⟩) 1 1 [.func (.func 30) #[] #[.pointer (some ⟨b3, 0, none⟩), .pointer (some ⟨w3.heap.size, 0, none⟩)]] rfl rfl hcA (fun u hu => by rw [List.mem_singleton.1 hu]; rfl) (by unfold maxLen; omega) (by omega) (by simp; have := HSZ.out; omega) ?_
                     intro v6 w6 hown6 hg6 ho6
                     obtain ⟨g6, c6, rfl⟩ := ownsRow_succ hown6
                     have HEM6 := Kit.hid (HEM3.out.push HB4.out (Nat.le_refl _) HI4.out HXI.out.1 hown6 hg6 ho6)
                     clear hown6 hg6 ho6)
        have HS6 := Kit.hid (srow_kept HS3.out HEM3.out.kept HEM6.out.kept HSP.out.2.2)
        obtain ⟨ad, hA, a0, a1, _⟩ := srow_at (i := 0) HS6.out rfl
        have hA2 := HSP.out.2.2 (by simp) ad hA
        subst hA
        have HS18 : Hid (∀ w' : World, Below w6.heap.size w6 w' → w'.cell? ⟨b3, 0, none⟩ = some (.pointer (some ⟨lp, 0, none⟩)) ∧ w'.cell? ad = some (.int .i64 s.id) ∧ w'.cell? ⟨ad.block, ad.off + 1, none⟩ = some (.int .i64 s.wt)) := Kit.hid (fun w' hb =>
          ⟨blk_cell ((hb.block b3 (blk_lt HEM6.out.o3)).trans HEM6.out.o3) 0, (hb.cell (cell_lt a0)).trans a0, (hb.cell (cell_lt a1)).trans a1⟩)
        have HMC : Hid (∀ w', Below w6.heap.size w6 w' → Calls Try.prog 32 #[.pointer (some ⟨lp, 0, none⟩), .agg #[.int .i64 s.id, .int .i64 s.wt]] w' fun e w'' => e = .returned (memV y) ∧ Below w'.heap.size w' w'') := Kit.hid (fun w' hb => by
          have := member_any s (HEM6.out.lf.below hb) HKB.out HSI.out.1 HSI.out.2
          rw [HMY.out] at this
          exact this)
        unfold memV at HMC
        clear hownA hcA c80 k83 a0 a1
        refine wp_region_noPanic ?_
        refine wp_region_T (fun (w' : World) => Below w6.heap.size w6 w') 5 (by kernel_rfl) (Below.refl _ w6).drew (fun hHeld => ?_)
        refine wpAnyT_take (i := 0) (hi := by simp only [List.getElem?_toArray, List.getElem?_cons_succ, List.getElem?_cons_zero]; rfl) (v := ?_) (by kernel_rfl) (by kernel_rfl) (by kernel_rfl) (by kernel_rfl) (fun _ _ _ h => h) (Or.inl ⟨by rfl, ?_⟩) (by assumption) ?_
        rotate_left
        · (intro w hSw; (try dsimp only at hSw); (obtain ⟨x0, x1, x2⟩ := HS18.out _ hSw); go_simp; first | done | with_reducible rfl)
        try simp only [Act.put, List.setIfInBounds_toArray, List.set_cons_zero, List.set_cons_succ]
        refine wpAnyT_take (i := 1) (hi := by simp only [List.getElem?_toArray, List.getElem?_cons_succ, List.getElem?_cons_zero]; rfl) (v := ?_) (by kernel_rfl) (by kernel_rfl) (by kernel_rfl) (by kernel_rfl) (fun _ _ _ h => h) (Or.inl ⟨by rfl, ?_⟩) (by assumption) ?_
        rotate_left
        · (intro w hSw; (try dsimp only at hSw); go_simp; first | done | with_reducible rfl)
        try simp only [Act.put, List.setIfInBounds_toArray, List.set_cons_zero, List.set_cons_succ]
        refine wpAnyT_take (i := 2) (hi := by simp only [List.getElem?_toArray, List.getElem?_cons_succ, List.getElem?_cons_zero]; rfl) (v := ?_) (by kernel_rfl) (by kernel_rfl) (by kernel_rfl) (by kernel_rfl) (fun _ _ _ h => h) (Or.inl ⟨by rfl, ?_⟩) (by assumption) ?_
        rotate_left
        · (intro w hSw; (try dsimp only at hSw); (obtain ⟨x0, x1, x2⟩ := HS18.out _ hSw); go_simp; first | done | with_reducible rfl)
        try simp only [Act.put, List.setIfInBounds_toArray, List.set_cons_zero, List.set_cons_succ]
        refine wpAnyT_take (i := 3) (hi := by simp only [List.getElem?_toArray, List.getElem?_cons_succ, List.getElem?_cons_zero]; rfl) (v := ?_) (by kernel_rfl) (by kernel_rfl) (by kernel_rfl) (by kernel_rfl) (fun _ _ _ h => h) (Or.inl ⟨by rfl, ?_⟩) (by assumption) ?_
        rotate_left
        · (intro w hSw; (try dsimp only at hSw); (obtain ⟨x0, x1, x2⟩ := HS18.out _ hSw); go_simp; first | done | with_reducible rfl)
        try simp only [Act.put, List.setIfInBounds_toArray, List.set_cons_zero, List.set_cons_succ]
        refine wpAnyT_step (i := 4) (by kernel_rfl) (ho := by simp only [List.getElem?_toArray, List.getElem?_cons_succ, List.getElem?_cons_zero]; rfl) (fun K hK => ?_)
        go_simp
        go_at_call 32; (with_reducible refine (HMC.out _ (Below.refl _ w6).drew).mono ?_); rintro e w7 ⟨rfl, hb7⟩
        have HB7 : Hid (Below w6.heap.size w6 w7) := Kit.hid ((Below.refl _ w6).drew.trans hb7)
        have HEM7 := Kit.hid (HEM6.out.below HB7.out)
        have f0 := blk_frozen HEM7.out.o8 0
        have f1 := blk_frozen HEM7.out.o8 1
        have f2 := blk_frozen HEM7.out.o8 2
        have f3 := blk_frozen HEM7.out.o8 3
        have y0 : w7.cell? ⟨b8, 0, none⟩ = some (.int .i64 x.id) := blk_cell HEM7.out.o8 0
        have y1 : w7.cell? ⟨b8, 1, none⟩ = some (.int .i64 x.wt) := blk_cell HEM7.out.o8 1
        have y2 : w7.cell? ⟨b8, 2, none⟩ = some (.int .i64 x.v) := blk_cell HEM7.out.o8 2
        have y3 : w7.cell? ⟨b8, 3, none⟩ = some (.int .i64 x.rem) := blk_cell HEM7.out.o8 3
        have yl := blk_lt HEM7.out.o8
        clear hb7
        go_wp2_with fail
        refine hK.out _ _ ?_ (fun hHeldN => ?_)
        · exact HB7.out
        clear hHeld
        have hHeld := hHeldN
        clear hHeldN
        clear hK K
        try simp only [Act.put, List.setIfInBounds_toArray, List.set_cons_zero, List.set_cons_succ]
        refine wpAnyT_last (by kernel_rfl) (ho := by simp only [List.getElem?_toArray, List.getElem?_cons_succ, List.getElem?_cons_zero]; rfl) (fun K hK => ?_)
        go_simp
        go_wp2_with fail
        refine hK.out _ _ ?_
        clear hK K
        try simp only [Act.put, List.setIfInBounds_toArray, List.set_cons_zero, List.set_cons_succ]
        clear hHeld
        refine wpAnyT_done (by kernel_rfl) ?_ _
        refine NoPanic.normal ?_
        generalize hW8 : World.setCell _ _ _ = w8
        have HEM8 : Hid (EnM w F w8 lp S2 (m' + 4) G3 b3 b5 b8 m y (some ⟨g6, 0, none⟩) c6 ((w3.heap.size, x.id) :: rids)) := Kit.hid (by rw [← hW8]; exact HEM7.out.setx (set4_grown _ _ _ _ _ _) (mem_store HEM7.out.o8))
        clear hW8 f0 f1 f2 f3 y0 y1 y2 y3 yl
        obtain ⟨Aq, hAq⟩ : ∃ Aq, Aq = (if cap' = 1 then some ad else some (ad.add 2)) := ⟨_, rfl⟩
        have HAQ := Kit.hid hAq
        have eAq := hAq.symm
        have hcap : (1 : Int) ≤ ((s :: q).length : Int) := by rw [List.length_cons]; omega
        have HSQ : Hid (SRow w8 Aq q ∧ q.length ≤ cap' - 1 ∧ (q ≠ [] → ∀ a, Aq = some a → a.block < w.heap.size ∧ ¬ F a.block)) := Kit.hid (by
          have hs := srow_kept HS6.out HEM6.out.kept HEM8.out.kept HSP.out.2.2
          have hd := srow_drop hs 1 (by simp) HSP.out.2.1
          refine ⟨?_, by have := HSP.out.2.1; simp at this; omega, fun _ a ha => ?_⟩
          · rw [HAQ.out]; exact hd
          · rw [HAQ.out] at ha
            have hb : ∀ n, (ad.add n).block = ad.block := fun n => by unfold Addr.add; split <;> rfl
            split at ha
            · cases ha; exact hA2
            · cases ha; rw [hb]; exact hA2)
        have HSQ1 : Hid (cap' = 1 → SRow w8 (some ad) q ∧ q.length ≤ 0 ∧ (q ≠ [] → ∀ a, some ad = some a → a.block < w.heap.size ∧ ¬ F a.block)) := Kit.hid (fun e => by
          have h := HSQ.out
          rw [HAQ.out, if_pos e, e] at h
          exact h)
        have HSQ2 : Hid (¬ cap' = 1 → SRow w8 (some (ad.add 2)) q ∧ q.length ≤ cap' - 1 ∧ (q ≠ [] → ∀ a, some (ad.add 2) = some a → a.block < w.heap.size ∧ ¬ F a.block)) := Kit.hid (fun e => by
          have h := HSQ.out
          rw [HAQ.out, if_neg e] at h
          exact h)
        clear hAq eAq
        go_wp2
        all_goals
          go_step3
          refine ⟨rfl, q.length, by have := HM.out.1; simp at this; omega, S2, q, _, _, y, some ⟨g6, 0, none⟩, c6, (w3.heap.size, x.id) :: rids, m' + 4, b8, G3, rfl, rfl, rfl, rfl, rfl, rfl, rfl, rfl, HEM8, ?_, Kit.hid ⟨rfl, by omega, by omega, by simp; omega⟩, HEG2, HUN.out _, Kit.hid ⟨HS2K.out.1.trans HKT.out.1, HS2K.out.2.trans HKT.out.2⟩, Kit.hid ⟨by rw [HYI.out]; exact HSI.out, .inr HM0.out⟩, Kit.hid (fun _ => ⟨k + 1, sn ++ [s.id], by rw [HYI.out]; exact HWP2.out, HOG2.out, List.mem_append_left _ HMS.out, by simp at hk8; omega⟩)⟩
          first
            | exact Kit.hid (HSQ1.out (by assumption))
            | exact Kit.hid (HSQ2.out (by assumption))
      · have HEGO : Hid (enterGo S p m = (0, S2)) := Kit.hid (by
          rw [← HEG.out]
          cases p' with
          | nil =>
            unfold enterGo
            have := HJS.out
            rw [HGE2.out] at this
            exact this
          | cons s q =>
            have h1 := HJ0.out
            have h2 := HJS.out
            have h3 := HGE2.out
            have h3 : g = s.id := h3
            rw [h3] at h1 h2
            unfold enterGo
            rw [if_neg (by simpa using h1), if_neg (fun e => hgo ⟨by rw [HRB.out, h3]; exact decide_eq_true e, by simp⟩), h2])
        have HRES : Hid (enterS S p m = (0, { S2 with tasks := insT m.id S2.tasks })) := Kit.hid (by
          unfold enterS
          rw [if_neg A1.out, if_neg A2.out, HEGO.out, if_neg (by simp)])
        have hgo2 : rb = false ∨ rb = true ∧ p'.length = 0 := by
          cases rb with
          | false => exact .inl rfl
          | true => exact .inr ⟨rfl, by by_cases e : p'.length = 0; exact e; exact absurd ⟨rfl, by omega⟩ hgo⟩
        clear hgo
        rcases hgo2 with hrb | ⟨hrb, hpl⟩
        · subst hrb
          go_wp2_with (at_builtin; refine wpList_append_src rfl _ _ 69 rfl w.heap.size 1 Value.nilFunc 8 Try.underlying69 infoF rfl (.slice Ab rids.length cb) _ _ rfl hownA (some ⟨w3.heap.size + 1, 0, none⟩) 1 1 [.func (.func 30) #[] #[.pointer (some ⟨b3, 0, none⟩), .pointer (some ⟨w3.heap.size, 0, none⟩)]] rfl rfl hcA (fun u hu => by rw [List.mem_singleton.1 hu]; rfl) (by unfold maxLen; omega) (by omega) (by simp; have := HSZ.out; omega) ?_
                       intro v6 w6 hown6 hg6 ho6
                       obtain ⟨g6, c6, rfl⟩ := ownsRow_succ hown6
                       have HEM6 := Kit.hid (HEM3.out.push HB4.out (Nat.le_refl _) HI4.out HXI.out.1 hown6 hg6 ho6)
                       clear hown6 hg6 ho6)
          obtain ⟨mb, mh, mk, vt, Qp, Fq, hFe, hx6⟩ := HEM6.out.lf
          have HFE := Kit.hid hFe
          have HT2 : Hid (S2.tasks = S.tasks) := Kit.hid (HS2K.out.2.trans HKT.out.2)
          have hrow := hx6.row
          have htn := hx6.tn
          rw [HT2.out] at hrow htn
          have HX6 := Kit.hid hx6
          obtain ⟨A5, c5, rfl, _, _, _⟩ := hrow.reads
          have HROW := Kit.hid hrow
          have HTN := Kit.hid htn
          have HSRC := Kit.hid (search_row (hrow.below (Below.refl _ w6).drew) m.id (by omega) (rise_le HWL.out.tasks))
          obtain ⟨i, hi⟩ : ∃ i, i = S.tasks.countP (fun y => decide (y < m.id)) := ⟨_, rfl⟩
          have HII := Kit.hid hi
          rw [← hi] at HSRC
          generalize S.tasks.contains m.id = bb at HSRC
          have HS20 : Hid (∀ w' : World, Below w6.heap.size w6 w' → w'.cell? ⟨b3, 0, none⟩ = some (.pointer (some ⟨lp, 0, none⟩)) ∧ w'.cell? ⟨lp, 2, none⟩ = some (.slice A5 S.tasks.length c5) ∧ w'.cell? ⟨b5, 0, none⟩ = some (.int .i64 m.id)) := Kit.hid (fun w' hb =>
            ⟨blk_cell ((hb.block b3 (blk_lt HEM6.out.o3)).trans HEM6.out.o3) 0, blk_cell ((hb.block lp (blk_lt HX6.out.at_)).trans HX6.out.at_) 2, blk_cell ((hb.block b5 (blk_lt HEM6.out.o5)).trans HEM6.out.o5) 0⟩)
          clear hownA hcA c80 k83 hFe hx6 hrow htn hi
          refine wp_region_noPanic ?_
          refine wp_region_held_drew (S := fun (w' : World) => Below w6.heap.size w6 w') (by kernel_rfl) (Below.refl _ w6).drew (fun hHeld => ?_)
          refine wpAnyH_take (i := 0) (hi := by simp only [List.getElem?_toArray, List.getElem?_cons_succ, List.getElem?_cons_zero]; rfl) (v := ?_) (by kernel_rfl) (by kernel_rfl) (by kernel_rfl) (fun _ _ _ h => h) (Or.inl ⟨by rfl, ?_⟩) (by assumption) ?_
          rotate_left
          · (intro w hSw; (try dsimp only at hSw); (obtain ⟨x0, x1, x2⟩ := HS20.out _ hSw); go_simp; first | done | with_reducible rfl)
          try simp only [Act.put, List.setIfInBounds_toArray, List.set_cons_zero, List.set_cons_succ]
          refine wpAnyH_take (i := 1) (hi := by simp only [List.getElem?_toArray, List.getElem?_cons_succ, List.getElem?_cons_zero]; rfl) (v := ?_) (by kernel_rfl) (by kernel_rfl) (by kernel_rfl) (fun _ _ _ h => h) (Or.inl ⟨by rfl, ?_⟩) (by assumption) ?_
          rotate_left
          · (intro w hSw; (try dsimp only at hSw); (obtain ⟨x0, x1, x2⟩ := HS20.out _ hSw); go_simp; first | done | with_reducible rfl)
          try simp only [Act.put, List.setIfInBounds_toArray, List.set_cons_zero, List.set_cons_succ]
          refine wpAnyH_take (i := 2) (hi := by simp only [List.getElem?_toArray, List.getElem?_cons_succ, List.getElem?_cons_zero]; rfl) (v := ?_) (by kernel_rfl) (by kernel_rfl) (by kernel_rfl) (fun _ _ _ h => h) (Or.inl ⟨by rfl, ?_⟩) (by assumption) ?_
          rotate_left
          · (intro w hSw; (try dsimp only at hSw); go_simp; first | done | with_reducible rfl)
          try simp only [Act.put, List.setIfInBounds_toArray, List.set_cons_zero, List.set_cons_succ]
          refine wpAnyH_take (i := 3) (hi := by simp only [List.getElem?_toArray, List.getElem?_cons_succ, List.getElem?_cons_zero]; rfl) (v := ?_) (by kernel_rfl) (by kernel_rfl) (by kernel_rfl) (fun _ _ _ h => h) (Or.inl ⟨by rfl, ?_⟩) (by assumption) ?_
          rotate_left
          · (intro w hSw; (try dsimp only at hSw); (obtain ⟨x0, x1, x2⟩ := HS20.out _ hSw); go_simp; first | done | with_reducible rfl)
          try simp only [Act.put, List.setIfInBounds_toArray, List.set_cons_zero, List.set_cons_succ]
          refine wpAnyH_take (i := 4) (hi := by simp only [List.getElem?_toArray, List.getElem?_cons_succ, List.getElem?_cons_zero]; rfl) (v := ?_) (by kernel_rfl) (by kernel_rfl) (by kernel_rfl) (fun _ _ _ h => h) (Or.inl ⟨by rfl, ?_⟩) (by assumption) ?_
          rotate_left
          · (intro w hSw; (try dsimp only at hSw); go_simp; first | done | with_reducible rfl)
          try simp only [Act.put, List.setIfInBounds_toArray, List.set_cons_zero, List.set_cons_succ]
          refine wpAnyH_take (i := 5) (hi := by simp only [List.getElem?_toArray, List.getElem?_cons_succ, List.getElem?_cons_zero]; rfl) (v := ?_) (by kernel_rfl) (by kernel_rfl) (by kernel_rfl) (fun _ _ _ h => h) (Or.inl ⟨by rfl, ?_⟩) (by assumption) ?_
          rotate_left
          · (intro w hSw; (try dsimp only at hSw); (obtain ⟨x0, x1, x2⟩ := HS20.out _ hSw); go_simp; first | done | with_reducible rfl)
          try simp only [Act.put, List.setIfInBounds_toArray, List.set_cons_zero, List.set_cons_succ]
          refine wpAnyH_ready (rs := [6]) (by kernel_rfl) (by simp) ?_
          refine AllReadyH.cons (ho := by simp only [List.getElem?_toArray, List.getElem?_cons_succ, List.getElem?_cons_zero]; rfl) (fun K hK => ?_) (AllReadyH.nil)
          go_simp
          go_at_call 33; (with_reducible refine HSRC.out.mono ?_); rintro e w7 ⟨rfl, q7, hq7⟩
          have HB7 : Hid (Below w6.heap.size w6 w7) := Kit.hid (by rw [hq7]; exact below_drewN (Below.refl _ w6).drew q7)
          clear hq7
          go_wp2_with fail
          refine hK.out _ _ ?_ (fun hHeldN => ?_)
          · exact HB7.out
          clear hHeld
          have hHeld := hHeldN
          clear hHeldN
          clear hK K
          try simp only [Act.put, List.setIfInBounds_toArray, List.set_cons_zero, List.set_cons_succ]
          refine wpAnyH_take (i := 7) (hi := by simp only [List.getElem?_toArray, List.getElem?_cons_succ, List.getElem?_cons_zero]; rfl) (v := ?_) (by kernel_rfl) (by kernel_rfl) (by kernel_rfl) (fun _ _ _ h => h) (Or.inl ⟨by rfl, ?_⟩) (by assumption) ?_
          rotate_left
          · (intro w hSw; (try dsimp only at hSw); go_simp; first | done | with_reducible rfl)
          try simp only [Act.put, List.setIfInBounds_toArray, List.set_cons_zero, List.set_cons_succ]
          refine wpAnyH_take (i := 8) (hi := by simp only [List.getElem?_toArray, List.getElem?_cons_succ, List.getElem?_cons_zero]; rfl) (v := ?_) (by kernel_rfl) (by kernel_rfl) (by kernel_rfl) (fun _ _ _ h => h) (Or.inl ⟨by rfl, ?_⟩) (by assumption) ?_
          rotate_left
          · (intro w hSw; (try dsimp only at hSw); go_simp; first | done | with_reducible rfl)
          try simp only [Act.put, List.setIfInBounds_toArray, List.set_cons_zero, List.set_cons_succ]
          refine wpAnyH_take (i := 9) (hi := by simp only [List.getElem?_toArray, List.getElem?_cons_succ, List.getElem?_cons_zero]; rfl) (v := ?_) (by kernel_rfl) (by kernel_rfl) (by kernel_rfl) (fun _ _ _ h => h) (Or.inl ⟨by rfl, ?_⟩) (by assumption) ?_
          rotate_left
          · (intro w hSw; (try dsimp only at hSw); go_simp; first | done | with_reducible rfl)
          try simp only [Act.put, List.setIfInBounds_toArray, List.set_cons_zero, List.set_cons_succ]
          refine wpAnyH_take (i := 10) (hi := by simp only [List.getElem?_toArray, List.getElem?_cons_succ, List.getElem?_cons_zero]; rfl) (v := ?_) (by kernel_rfl) (by kernel_rfl) (by kernel_rfl) (fun _ _ _ h => h) (Or.inl ⟨by rfl, ?_⟩) (by assumption) ?_
          rotate_left
          · (intro w hSw; (try dsimp only at hSw); go_simp; first | done | with_reducible rfl)
          try simp only [Act.put, List.setIfInBounds_toArray, List.set_cons_zero, List.set_cons_succ]
          refine wpAnyH_take (i := 11) (hi := by simp only [List.getElem?_toArray, List.getElem?_cons_succ, List.getElem?_cons_zero]; rfl) (v := ?_) (by kernel_rfl) (by kernel_rfl) (by kernel_rfl) (fun _ _ _ h => h) (Or.inl ⟨by rfl, ?_⟩) (by assumption) ?_
          rotate_left
          · (intro w hSw; (try dsimp only at hSw); go_simp; first | done | with_reducible rfl)
          try simp only [Act.put, List.setIfInBounds_toArray, List.set_cons_zero, List.set_cons_succ]
          clear hHeld
          refine wpAnyH_done (by kernel_rfl) ?_ _
          refine NoPanic.normal ?_
          skip
          have HEM7 := Kit.hid (HEM6.out.below HB7.out)
          have HX7 := Kit.hid (HX6.out.below HB7.out)
          have HPT := Kit.hid HX7.out.parts
          have HROW7 := Kit.hid (HROW.out.below HB7.out)
          have HINS := Kit.hid (fun WA hb hv => ins_task (x := m.id) (i := i) HROW7.out HWL.out.tasks (by have := HTN.out; omega) HII.out WA hb hv)
          have HL7 : Hid (b3 < w7.heap.size ∧ b5 < w7.heap.size ∧ lp < w7.heap.size) := Kit.hid ⟨blk_lt HEM7.out.o3, blk_lt HEM7.out.o5, blk_lt HX7.out.at_⟩
          have HOWN : Hid (∀ k, (Value.slice A5 S.tasks.length c5).ownBlock = some k → k ≠ b3 ∧ k ≠ b5 ∧ k ≠ lp) := Kit.hid (fun k hk => by
            have hgk : G3 k := by rw [HFE.out]; exact .inr (.inr (.inr (.inr (.inl hk))))
            exact ⟨fun e => HEM7.out.off b3 (.inl rfl) (by rw [← e]; exact hgk), fun e => HEM7.out.off b5 (.inr (.inl rfl)) (by rw [← e]; exact hgk), fun e => HPT.out.2.2.2.2 (by rw [← e]; exact hk)⟩)
          have HS21 : Hid (∀ w' : World, (w'.heap[b3]? = w7.heap[b3]? ∧ w'.heap[b5]? = w7.heap[b5]? ∧ w'.heap[lp]? = w7.heap[lp]?) → w'.cell? ⟨b3, 0, none⟩ = some (.pointer (some ⟨lp, 0, none⟩)) ∧ w'.cell? ⟨lp, 2, none⟩ = some (.slice A5 S.tasks.length c5) ∧ w'.cell? ⟨b5, 0, none⟩ = some (.int .i64 m.id)) := Kit.hid (fun w' h =>
            ⟨blk_cell (h.1.trans HEM7.out.o3) 0, blk_cell (h.2.2.trans HX7.out.at_) 2, blk_cell (h.2.1.trans HEM7.out.o5) 0⟩)
          go_wp2_with fail
          refine wp_region_noPanic ?_
          refine wp_region_T (fun (w' : World) => w'.heap[b3]? = w7.heap[b3]? ∧ w'.heap[b5]? = w7.heap[b5]? ∧ w'.heap[lp]? = w7.heap[lp]?) 12 (by kernel_rfl) ⟨rfl, rfl, rfl⟩ (fun hHeld => ?_)
          refine wpAnyT_take (i := 0) (hi := by simp only [List.getElem?_toArray, List.getElem?_cons_succ, List.getElem?_cons_zero]; rfl) (v := ?_) (by kernel_rfl) (by kernel_rfl) (by kernel_rfl) (by kernel_rfl) (fun _ _ _ h => h) (Or.inl ⟨by rfl, ?_⟩) (by assumption) ?_
          rotate_left
          · (intro w hSw; (try dsimp only at hSw); (obtain ⟨x0, x1, x2⟩ := HS21.out _ hSw); go_simp; first | done | with_reducible rfl)
          try simp only [Act.put, List.setIfInBounds_toArray, List.set_cons_zero, List.set_cons_succ]
          refine wpAnyT_take (i := 1) (hi := by simp only [List.getElem?_toArray, List.getElem?_cons_succ, List.getElem?_cons_zero]; rfl) (v := ?_) (by kernel_rfl) (by kernel_rfl) (by kernel_rfl) (by kernel_rfl) (fun _ _ _ h => h) (Or.inl ⟨by rfl, ?_⟩) (by assumption) ?_
          rotate_left
          · (intro w hSw; (try dsimp only at hSw); (obtain ⟨x0, x1, x2⟩ := HS21.out _ hSw); go_simp; first | done | with_reducible rfl)
          try simp only [Act.put, List.setIfInBounds_toArray, List.set_cons_zero, List.set_cons_succ]
          refine wpAnyT_take (i := 2) (hi := by simp only [List.getElem?_toArray, List.getElem?_cons_succ, List.getElem?_cons_zero]; rfl) (v := ?_) (by kernel_rfl) (by kernel_rfl) (by kernel_rfl) (by kernel_rfl) (fun _ _ _ h => h) (Or.inl ⟨by rfl, ?_⟩) (by assumption) ?_
          rotate_left
          · (intro w hSw; (try dsimp only at hSw); (obtain ⟨x0, x1, x2⟩ := HS21.out _ hSw); go_simp; first | done | with_reducible rfl)
          try simp only [Act.put, List.setIfInBounds_toArray, List.set_cons_zero, List.set_cons_succ]
          refine wpAnyT_take (i := 3) (hi := by simp only [List.getElem?_toArray, List.getElem?_cons_succ, List.getElem?_cons_zero]; rfl) (v := ?_) (by kernel_rfl) (by kernel_rfl) (by kernel_rfl) (by kernel_rfl) (fun _ _ _ h => h) (Or.inl ⟨by rfl, ?_⟩) (by assumption) ?_
          rotate_left
          · (intro w hSw; (try dsimp only at hSw); go_simp; first | done | with_reducible rfl)
          try simp only [Act.put, List.setIfInBounds_toArray, List.set_cons_zero, List.set_cons_succ]
          refine wpAnyT_take (i := 4) (hi := by simp only [List.getElem?_toArray, List.getElem?_cons_succ, List.getElem?_cons_zero]; rfl) (v := ?_) (by kernel_rfl) (by kernel_rfl) (by kernel_rfl) (by kernel_rfl) (fun _ _ _ h => h) (Or.inl ⟨by rfl, ?_⟩) (by assumption) ?_
          rotate_left
          · (intro w hSw; (try dsimp only at hSw); (obtain ⟨x0, x1, x2⟩ := HS21.out _ hSw); go_simp; first | done | with_reducible rfl)
          try simp only [Act.put, List.setIfInBounds_toArray, List.set_cons_zero, List.set_cons_succ]
          refine wpAnyT_take (i := 5) (hi := by simp only [List.getElem?_toArray, List.getElem?_cons_succ, List.getElem?_cons_zero]; rfl) (v := ?_) (by kernel_rfl) (by kernel_rfl) (by kernel_rfl) (by kernel_rfl) (fun _ _ _ h => h) (Or.inl ⟨by rfl, ?_⟩) (by assumption) ?_
          rotate_left
          · (intro w hSw; (try dsimp only at hSw); go_simp; first | done | with_reducible rfl)
          try simp only [Act.put, List.setIfInBounds_toArray, List.set_cons_zero, List.set_cons_succ]
          refine wpAnyT_take (i := 6) (hi := by simp only [List.getElem?_toArray, List.getElem?_cons_succ, List.getElem?_cons_zero]; rfl) (v := ?_) (by kernel_rfl) (by kernel_rfl) (by kernel_rfl) (by kernel_rfl) (fun _ _ _ h => h) (Or.inl ⟨by rfl, ?_⟩) (by assumption) ?_
          rotate_left
          · (intro w hSw; (try dsimp only at hSw); go_simp; first | done | with_reducible rfl)
          try simp only [Act.put, List.setIfInBounds_toArray, List.set_cons_zero, List.set_cons_succ]
          refine wpAnyT_take (i := 7) (hi := by simp only [List.getElem?_toArray, List.getElem?_cons_succ, List.getElem?_cons_zero]; rfl) (v := ?_) (by kernel_rfl) (by kernel_rfl) (by kernel_rfl) (by kernel_rfl) (fun _ _ _ h => h) (Or.inl ⟨by rfl, ?_⟩) (by assumption) ?_
          rotate_left
          · (intro w hSw; (try dsimp only at hSw); (obtain ⟨x0, x1, x2⟩ := HS21.out _ hSw); go_simp; first | done | with_reducible rfl)
          try simp only [Act.put, List.setIfInBounds_toArray, List.set_cons_zero, List.set_cons_succ]
          refine wpAnyT_step (i := 8) (by kernel_rfl) (ho := by simp only [List.getElem?_toArray, List.getElem?_cons_succ, List.getElem?_cons_zero]; rfl) (fun K hK => ?_)
          go_simp
          go_wp2_with fail
          refine hK.out _ _ ?_ (fun hHeldN => ?_)
          · refine ⟨?_, ?_, ?_⟩
            · first
                | exact ((Below.refl _ w7).drew.alloc (Nat.le_refl _) _).block _ HL7.out.1
                | exact (((Below.refl _ w7).alloc (Nat.le_refl _) _).drew).block _ HL7.out.1
            · first
                | exact ((Below.refl _ w7).drew.alloc (Nat.le_refl _) _).block _ HL7.out.2.1
                | exact (((Below.refl _ w7).alloc (Nat.le_refl _) _).drew).block _ HL7.out.2.1
            · first
                | exact ((Below.refl _ w7).drew.alloc (Nat.le_refl _) _).block _ HL7.out.2.2
                | exact (((Below.refl _ w7).alloc (Nat.le_refl _) _).drew).block _ HL7.out.2.2
          clear hHeld
          have hHeld := hHeldN
          clear hHeldN
          clear hK K
          try simp only [Act.put, List.setIfInBounds_toArray, List.set_cons_zero, List.set_cons_succ]
          refine wpAnyT_step (i := 9) (by kernel_rfl) (ho := by simp only [List.getElem?_toArray, List.getElem?_cons_succ, List.getElem?_cons_zero]; rfl) (fun K hK => ?_)
          go_simp
          go_at_call 34; (with_reducible refine (HINS.out _ ?_ ?_).mono ?_)
          · first
              | exact (Below.refl _ w7).drew.alloc (Nat.le_refl _) _
              | exact ((Below.refl _ w7).alloc (Nat.le_refl _) _).drew
          · first
              | exact blk_new w7.drew _
              | exact blk_new w7 _
          rintro e w8 ⟨v8, rfl, hr8, hg8, ho8⟩
          have HR8 := Kit.hid hr8
          have HG8 := Kit.hid hg8
          have HO8 := Kit.hid ho8
          obtain ⟨A8, c8, rfl, _, _, _⟩ := hr8.reads
          have HLP8 : Hid (w8.heap[lp]? = some (.cells #[.map (some mb), .map (some mh), .slice A5 S.tasks.length c5, .map (some mk)] 66 (0, 0))) := Kit.hid ((hg8.block lp HL7.out.2.2 (fun e => (HOWN.out lp e.symm).2.2 rfl)).trans HX7.out.at_)
          have p2 := blk_cell HLP8.out 2
          have pf := blk_frozen HLP8.out 2
          have pl := blk_lt HLP8.out
          have HLN : Hid (Ln w F (w8.setCell ⟨lp, 2, none⟩ (.slice A8 (insT m.id S.tasks).length c8)) lp { S2 with tasks := insT m.id S2.tasks } (n + 60)) := Kit.hid (by
            rw [HT2.out]
            refine Ln.more (n := m' + 5) (Ln.trans HEM7.out.ext HEM7.out.kept ?_) (by omega)
            rw [HFE.out]
            refine HX7.out.setTasks (vt' := .slice A8 (insT m.id S.tasks).length c8) (T := insT m.id S.tasks) (n' := m' + 5) ?_ (blk_put HLP8.out 2 _ rfl) ?_ ?_ (by omega) ?_ ?_ ?_
            · intro k hk hk1 hk2
              exact (Below.heap_setCell _ _ _ _ hk1).trans (HG8.out.block k (HX7.out.lt k hk) (fun e => hk2 e.symm))
            · exact HR8.out.same fun g hg => Below.heap_setCell _ _ _ _ (fun e => by
                have e : g = lp := e
                rcases HO8.out with h | h
                · exact (HOWN.out g (by rw [← h]; exact hg)).2.2 e
                · have := h g hg; have := HL7.out.2.2; omega)
            · intro k hk
              rcases HO8.out with h | h
              · exact .inl (by rw [← h]; exact hk)
              · exact .inr (h k hk)
            · exact insT_lt HWL.out.tasks A1.out
            · have h1 : (insT m.id S.tasks).length = S.tasks.length + 1 := insT_len _ _
              have := HTN.out
              omega
            · exact ((Kept.refl _ _).grown HG8.out fun k hk => .inl (.inr (.inr (.inr (.inr (.inl hk)))))).setCell (a := ⟨lp, 2, none⟩) (.inl (.inl rfl)) _)
          clear hr8 hg8 ho8
          go_wp2_with fail
          refine hK.out _ _ ?_ (fun hHeldN => ?_)
          · exact ⟨HG8.out.block b3 HL7.out.1 (fun e => (HOWN.out b3 e.symm).1 rfl), HG8.out.block b5 HL7.out.2.1 (fun e => (HOWN.out b5 e.symm).2.1 rfl), HG8.out.block lp HL7.out.2.2 (fun e => (HOWN.out lp e.symm).2.2 rfl)⟩
          clear hHeld
          have hHeld := hHeldN
          clear hHeldN
          clear hK K
          try simp only [Act.put, List.setIfInBounds_toArray, List.set_cons_zero, List.set_cons_succ]
          refine wpAnyT_step (i := 10) (by kernel_rfl) (ho := by simp only [List.getElem?_toArray, List.getElem?_cons_succ, List.getElem?_cons_zero]; rfl) (fun K hK => ?_)
          go_simp
          refine hK.out _ _ ?_ (fun hHeldN => ?_)
          · exact hHeld
          clear hHeld
          have hHeld := hHeldN
          clear hHeldN
          clear hK K
          try simp only [Act.put, List.setIfInBounds_toArray, List.set_cons_zero, List.set_cons_succ]
          refine wpAnyT_take (i := 11) (hi := by simp only [List.getElem?_toArray, List.getElem?_cons_succ, List.getElem?_cons_zero]; rfl) (v := ?_) (by kernel_rfl) (by kernel_rfl) (by kernel_rfl) (by kernel_rfl) (fun _ _ _ h => h) (Or.inl ⟨by rfl, ?_⟩) (by assumption) ?_
          rotate_left
          · (intro w hSw; (try dsimp only at hSw); go_simp; first | done | with_reducible rfl)
          try simp only [Act.put, List.setIfInBounds_toArray, List.set_cons_zero, List.set_cons_succ]
          refine wpAnyT_last (by kernel_rfl) (ho := by simp only [List.getElem?_toArray, List.getElem?_cons_succ, List.getElem?_cons_zero]; rfl) (fun K hK => ?_)
          go_simp
          go_wp2_with fail
          refine hK.out _ _ ?_
          clear hK K
          try simp only [Act.put, List.setIfInBounds_toArray, List.set_cons_zero, List.set_cons_succ]
          clear hHeld
          refine wpAnyT_done (by kernel_rfl) ?_ _
          refine NoPanic.normal ?_
          skip
          go_wp2
          simp only [Exit.jump]
          rw [← HQ.out]
          refine ⟨_, results_tmp rfl _ _ _, by rw [HRES.out]; rfl, ?_⟩
          rw [HRES.out]
          exact HLN.out
        · subst hrb
          have hpl2 : ¬ ((0 : Int) < (p'.length : Int)) := by omega
          have HPL := Kit.hid hpl
          clear hpl
          go_wp2_with (at_builtin; refine wpList_append_src rfl _ _ 69 rfl w.heap.size 1 Value.nilFunc 8 Try.underlying69 infoF rfl (.slice Ab rids.length cb) _ _ rfl hownA (some ⟨w3.heap.size + 1, 0, none⟩) 1 1 [.func (.func 30) #[] #[.pointer (some ⟨b3, 0, none⟩), .pointer (some ⟨w3.heap.size, 0, none⟩)]] rfl rfl hcA (fun u hu => by rw [List.mem_singleton.1 hu]; rfl) (by unfold maxLen; omega) (by omega) (by simp; have := HSZ.out; omega) ?_
                       intro v6 w6 hown6 hg6 ho6
                       obtain ⟨g6, c6, rfl⟩ := ownsRow_succ hown6
                       have HEM6 := Kit.hid (HEM3.out.push HB4.out (Nat.le_refl _) HI4.out HXI.out.1 hown6 hg6 ho6)
                       clear hown6 hg6 ho6)
          obtain ⟨mb, mh, mk, vt, Qp, Fq, hFe, hx6⟩ := HEM6.out.lf
          have HFE := Kit.hid hFe
          have HT2 : Hid (S2.tasks = S.tasks) := Kit.hid (HS2K.out.2.trans HKT.out.2)
          have hrow := hx6.row
          have htn := hx6.tn
          rw [HT2.out] at hrow htn
          have HX6 := Kit.hid hx6
          obtain ⟨A5, c5, rfl, _, _, _⟩ := hrow.reads
          have HROW := Kit.hid hrow
          have HTN := Kit.hid htn
          have HSRC := Kit.hid (search_row (hrow.below (Below.refl _ w6).drew) m.id (by omega) (rise_le HWL.out.tasks))
          obtain ⟨i, hi⟩ : ∃ i, i = S.tasks.countP (fun y => decide (y < m.id)) := ⟨_, rfl⟩
          have HII := Kit.hid hi
          rw [← hi] at HSRC
          generalize S.tasks.contains m.id = bb at HSRC
          have HS20 : Hid (∀ w' : World, Below w6.heap.size w6 w' → w'.cell? ⟨b3, 0, none⟩ = some (.pointer (some ⟨lp, 0, none⟩)) ∧ w'.cell? ⟨lp, 2, none⟩ = some (.slice A5 S.tasks.length c5) ∧ w'.cell? ⟨b5, 0, none⟩ = some (.int .i64 m.id)) := Kit.hid (fun w' hb =>
            ⟨blk_cell ((hb.block b3 (blk_lt HEM6.out.o3)).trans HEM6.out.o3) 0, blk_cell ((hb.block lp (blk_lt HX6.out.at_)).trans HX6.out.at_) 2, blk_cell ((hb.block b5 (blk_lt HEM6.out.o5)).trans HEM6.out.o5) 0⟩)
          clear hownA hcA c80 k83 hFe hx6 hrow htn hi
          refine wp_region_noPanic ?_
          refine wp_region_held_drew (S := fun (w' : World) => Below w6.heap.size w6 w') (by kernel_rfl) (Below.refl _ w6).drew (fun hHeld => ?_)
          refine wpAnyH_take (i := 0) (hi := by simp only [List.getElem?_toArray, List.getElem?_cons_succ, List.getElem?_cons_zero]; rfl) (v := ?_) (by kernel_rfl) (by kernel_rfl) (by kernel_rfl) (fun _ _ _ h => h) (Or.inl ⟨by rfl, ?_⟩) (by assumption) ?_
          rotate_left
          · (intro w hSw; (try dsimp only at hSw); (obtain ⟨x0, x1, x2⟩ := HS20.out _ hSw); go_simp; first | done | with_reducible rfl)
          try simp only [Act.put, List.setIfInBounds_toArray, List.set_cons_zero, List.set_cons_succ]
          refine wpAnyH_take (i := 1) (hi := by simp only [List.getElem?_toArray, List.getElem?_cons_succ, List.getElem?_cons_zero]; rfl) (v := ?_) (by kernel_rfl) (by kernel_rfl) (by kernel_rfl) (fun _ _ _ h => h) (Or.inl ⟨by rfl, ?_⟩) (by assumption) ?_
          rotate_left
          · (intro w hSw; (try dsimp only at hSw); (obtain ⟨x0, x1, x2⟩ := HS20.out _ hSw); go_simp; first | done | with_reducible rfl)
          try simp only [Act.put, List.setIfInBounds_toArray, List.set_cons_zero, List.set_cons_succ]
          refine wpAnyH_take (i := 2) (hi := by simp only [List.getElem?_toArray, List.getElem?_cons_succ, List.getElem?_cons_zero]; rfl) (v := ?_) (by kernel_rfl) (by kernel_rfl) (by kernel_rfl) (fun _ _ _ h => h) (Or.inl ⟨by rfl, ?_⟩) (by assumption) ?_
          rotate_left
          · (intro w hSw; (try dsimp only at hSw); go_simp; first | done | with_reducible rfl)
          try simp only [Act.put, List.setIfInBounds_toArray, List.set_cons_zero, List.set_cons_succ]
          refine wpAnyH_take (i := 3) (hi := by simp only [List.getElem?_toArray, List.getElem?_cons_succ, List.getElem?_cons_zero]; rfl) (v := ?_) (by kernel_rfl) (by kernel_rfl) (by kernel_rfl) (fun _ _ _ h => h) (Or.inl ⟨by rfl, ?_⟩) (by assumption) ?_
          rotate_left
          · (intro w hSw; (try dsimp only at hSw); (obtain ⟨x0, x1, x2⟩ := HS20.out _ hSw); go_simp; first | done | with_reducible rfl)
          try simp only [Act.put, List.setIfInBounds_toArray, List.set_cons_zero, List.set_cons_succ]
          refine wpAnyH_take (i := 4) (hi := by simp only [List.getElem?_toArray, List.getElem?_cons_succ, List.getElem?_cons_zero]; rfl) (v := ?_) (by kernel_rfl) (by kernel_rfl) (by kernel_rfl) (fun _ _ _ h => h) (Or.inl ⟨by rfl, ?_⟩) (by assumption) ?_
          rotate_left
          · (intro w hSw; (try dsimp only at hSw); go_simp; first | done | with_reducible rfl)
          try simp only [Act.put, List.setIfInBounds_toArray, List.set_cons_zero, List.set_cons_succ]
          refine wpAnyH_take (i := 5) (hi := by simp only [List.getElem?_toArray, List.getElem?_cons_succ, List.getElem?_cons_zero]; rfl) (v := ?_) (by kernel_rfl) (by kernel_rfl) (by kernel_rfl) (fun _ _ _ h => h) (Or.inl ⟨by rfl, ?_⟩) (by assumption) ?_
          rotate_left
          · (intro w hSw; (try dsimp only at hSw); (obtain ⟨x0, x1, x2⟩ := HS20.out _ hSw); go_simp; first | done | with_reducible rfl)
          try simp only [Act.put, List.setIfInBounds_toArray, List.set_cons_zero, List.set_cons_succ]
          refine wpAnyH_ready (rs := [6]) (by kernel_rfl) (by simp) ?_
          refine AllReadyH.cons (ho := by simp only [List.getElem?_toArray, List.getElem?_cons_succ, List.getElem?_cons_zero]; rfl) (fun K hK => ?_) (AllReadyH.nil)
          go_simp
          go_at_call 33; (with_reducible refine HSRC.out.mono ?_); rintro e w7 ⟨rfl, q7, hq7⟩
          have HB7 : Hid (Below w6.heap.size w6 w7) := Kit.hid (by rw [hq7]; exact below_drewN (Below.refl _ w6).drew q7)
          clear hq7
          go_wp2_with fail
          refine hK.out _ _ ?_ (fun hHeldN => ?_)
          · exact HB7.out
          clear hHeld
          have hHeld := hHeldN
          clear hHeldN
          clear hK K
          try simp only [Act.put, List.setIfInBounds_toArray, List.set_cons_zero, List.set_cons_succ]
          refine wpAnyH_take (i := 7) (hi := by simp only [List.getElem?_toArray, List.getElem?_cons_succ, List.getElem?_cons_zero]; rfl) (v := ?_) (by kernel_rfl) (by kernel_rfl) (by kernel_rfl) (fun _ _ _ h => h) (Or.inl ⟨by rfl, ?_⟩) (by assumption) ?_
          rotate_left
          · (intro w hSw; (try dsimp only at hSw); go_simp; first | done | with_reducible rfl)
          try simp only [Act.put, List.setIfInBounds_toArray, List.set_cons_zero, List.set_cons_succ]
          refine wpAnyH_take (i := 8) (hi := by simp only [List.getElem?_toArray, List.getElem?_cons_succ, List.getElem?_cons_zero]; rfl) (v := ?_) (by kernel_rfl) (by kernel_rfl) (by kernel_rfl) (fun _ _ _ h => h) (Or.inl ⟨by rfl, ?_⟩) (by assumption) ?_
          rotate_left
          · (intro w hSw; (try dsimp only at hSw); go_simp; first | done | with_reducible rfl)
          try simp only [Act.put, List.setIfInBounds_toArray, List.set_cons_zero, List.set_cons_succ]
          refine wpAnyH_take (i := 9) (hi := by simp only [List.getElem?_toArray, List.getElem?_cons_succ, List.getElem?_cons_zero]; rfl) (v := ?_) (by kernel_rfl) (by kernel_rfl) (by kernel_rfl) (fun _ _ _ h => h) (Or.inl ⟨by rfl, ?_⟩) (by assumption) ?_
          rotate_left
          · (intro w hSw; (try dsimp only at hSw); go_simp; first | done | with_reducible rfl)
          try simp only [Act.put, List.setIfInBounds_toArray, List.set_cons_zero, List.set_cons_succ]
          refine wpAnyH_take (i := 10) (hi := by simp only [List.getElem?_toArray, List.getElem?_cons_succ, List.getElem?_cons_zero]; rfl) (v := ?_) (by kernel_rfl) (by kernel_rfl) (by kernel_rfl) (fun _ _ _ h => h) (Or.inl ⟨by rfl, ?_⟩) (by assumption) ?_
          rotate_left
          · (intro w hSw; (try dsimp only at hSw); go_simp; first | done | with_reducible rfl)
          try simp only [Act.put, List.setIfInBounds_toArray, List.set_cons_zero, List.set_cons_succ]
          refine wpAnyH_take (i := 11) (hi := by simp only [List.getElem?_toArray, List.getElem?_cons_succ, List.getElem?_cons_zero]; rfl) (v := ?_) (by kernel_rfl) (by kernel_rfl) (by kernel_rfl) (fun _ _ _ h => h) (Or.inl ⟨by rfl, ?_⟩) (by assumption) ?_
          rotate_left
          · (intro w hSw; (try dsimp only at hSw); go_simp; first | done | with_reducible rfl)
          try simp only [Act.put, List.setIfInBounds_toArray, List.set_cons_zero, List.set_cons_succ]
          clear hHeld
          refine wpAnyH_done (by kernel_rfl) ?_ _
          refine NoPanic.normal ?_
          skip
          have HEM7 := Kit.hid (HEM6.out.below HB7.out)
          have HX7 := Kit.hid (HX6.out.below HB7.out)
          have HPT := Kit.hid HX7.out.parts
          have HROW7 := Kit.hid (HROW.out.below HB7.out)
          have HINS := Kit.hid (fun WA hb hv => ins_task (x := m.id) (i := i) HROW7.out HWL.out.tasks (by have := HTN.out; omega) HII.out WA hb hv)
          have HL7 : Hid (b3 < w7.heap.size ∧ b5 < w7.heap.size ∧ lp < w7.heap.size) := Kit.hid ⟨blk_lt HEM7.out.o3, blk_lt HEM7.out.o5, blk_lt HX7.out.at_⟩
          have HOWN : Hid (∀ k, (Value.slice A5 S.tasks.length c5).ownBlock = some k → k ≠ b3 ∧ k ≠ b5 ∧ k ≠ lp) := Kit.hid (fun k hk => by
            have hgk : G3 k := by rw [HFE.out]; exact .inr (.inr (.inr (.inr (.inl hk))))
            exact ⟨fun e => HEM7.out.off b3 (.inl rfl) (by rw [← e]; exact hgk), fun e => HEM7.out.off b5 (.inr (.inl rfl)) (by rw [← e]; exact hgk), fun e => HPT.out.2.2.2.2 (by rw [← e]; exact hk)⟩)
          have HS21 : Hid (∀ w' : World, (w'.heap[b3]? = w7.heap[b3]? ∧ w'.heap[b5]? = w7.heap[b5]? ∧ w'.heap[lp]? = w7.heap[lp]?) → w'.cell? ⟨b3, 0, none⟩ = some (.pointer (some ⟨lp, 0, none⟩)) ∧ w'.cell? ⟨lp, 2, none⟩ = some (.slice A5 S.tasks.length c5) ∧ w'.cell? ⟨b5, 0, none⟩ = some (.int .i64 m.id)) := Kit.hid (fun w' h =>
            ⟨blk_cell (h.1.trans HEM7.out.o3) 0, blk_cell (h.2.2.trans HX7.out.at_) 2, blk_cell (h.2.1.trans HEM7.out.o5) 0⟩)
          go_wp2_with fail
          refine wp_region_noPanic ?_
          refine wp_region_T (fun (w' : World) => w'.heap[b3]? = w7.heap[b3]? ∧ w'.heap[b5]? = w7.heap[b5]? ∧ w'.heap[lp]? = w7.heap[lp]?) 12 (by kernel_rfl) ⟨rfl, rfl, rfl⟩ (fun hHeld => ?_)
          refine wpAnyT_take (i := 0) (hi := by simp only [List.getElem?_toArray, List.getElem?_cons_succ, List.getElem?_cons_zero]; rfl) (v := ?_) (by kernel_rfl) (by kernel_rfl) (by kernel_rfl) (by kernel_rfl) (fun _ _ _ h => h) (Or.inl ⟨by rfl, ?_⟩) (by assumption) ?_
          rotate_left
          · (intro w hSw; (try dsimp only at hSw); (obtain ⟨x0, x1, x2⟩ := HS21.out _ hSw); go_simp; first | done | with_reducible rfl)
          try simp only [Act.put, List.setIfInBounds_toArray, List.set_cons_zero, List.set_cons_succ]
          refine wpAnyT_take (i := 1) (hi := by simp only [List.getElem?_toArray, List.getElem?_cons_succ, List.getElem?_cons_zero]; rfl) (v := ?_) (by kernel_rfl) (by kernel_rfl) (by kernel_rfl) (by kernel_rfl) (fun _ _ _ h => h) (Or.inl ⟨by rfl, ?_⟩) (by assumption) ?_
          rotate_left
          · (intro w hSw; (try dsimp only at hSw); (obtain ⟨x0, x1, x2⟩ := HS21.out _ hSw); go_simp; first | done | with_reducible rfl)
          try simp only [Act.put, List.setIfInBounds_toArray, List.set_cons_zero, List.set_cons_succ]
          refine wpAnyT_take (i := 2) (hi := by simp only [List.getElem?_toArray, List.getElem?_cons_succ, List.getElem?_cons_zero]; rfl) (v := ?_) (by kernel_rfl) (by kernel_rfl) (by kernel_rfl) (by kernel_rfl) (fun _ _ _ h => h) (Or.inl ⟨by rfl, ?_⟩) (by assumption) ?_
          rotate_left
          · (intro w hSw; (try dsimp only at hSw); (obtain ⟨x0, x1, x2⟩ := HS21.out _ hSw); go_simp; first | done | with_reducible rfl)
          try simp only [Act.put, List.setIfInBounds_toArray, List.set_cons_zero, List.set_cons_succ]
          refine wpAnyT_take (i := 3) (hi := by simp only [List.getElem?_toArray, List.getElem?_cons_succ, List.getElem?_cons_zero]; rfl) (v := ?_) (by kernel_rfl) (by kernel_rfl) (by kernel_rfl) (by kernel_rfl) (fun _ _ _ h => h) (Or.inl ⟨by rfl, ?_⟩) (by assumption) ?_
          rotate_left
          · (intro w hSw; (try dsimp only at hSw); go_simp; first | done | with_reducible rfl)
          try simp only [Act.put, List.setIfInBounds_toArray, List.set_cons_zero, List.set_cons_succ]
          refine wpAnyT_take (i := 4) (hi := by simp only [List.getElem?_toArray, List.getElem?_cons_succ, List.getElem?_cons_zero]; rfl) (v := ?_) (by kernel_rfl) (by kernel_rfl) (by kernel_rfl) (by kernel_rfl) (fun _ _ _ h => h) (Or.inl ⟨by rfl, ?_⟩) (by assumption) ?_
          rotate_left
          · (intro w hSw; (try dsimp only at hSw); (obtain ⟨x0, x1, x2⟩ := HS21.out _ hSw); go_simp; first | done | with_reducible rfl)
          try simp only [Act.put, List.setIfInBounds_toArray, List.set_cons_zero, List.set_cons_succ]
          refine wpAnyT_take (i := 5) (hi := by simp only [List.getElem?_toArray, List.getElem?_cons_succ, List.getElem?_cons_zero]; rfl) (v := ?_) (by kernel_rfl) (by kernel_rfl) (by kernel_rfl) (by kernel_rfl) (fun _ _ _ h => h) (Or.inl ⟨by rfl, ?_⟩) (by assumption) ?_
          rotate_left
          · (intro w hSw; (try dsimp only at hSw); go_simp; first | done | with_reducible rfl)
          try simp only [Act.put, List.setIfInBounds_toArray, List.set_cons_zero, List.set_cons_succ]
          refine wpAnyT_take (i := 6) (hi := by simp only [List.getElem?_toArray, List.getElem?_cons_succ, List.getElem?_cons_zero]; rfl) (v := ?_) (by kernel_rfl) (by kernel_rfl) (by kernel_rfl) (by kernel_rfl) (fun _ _ _ h => h) (Or.inl ⟨by rfl, ?_⟩) (by assumption) ?_
          rotate_left
          · (intro w hSw; (try dsimp only at hSw); go_simp; first | done | with_reducible rfl)
          try simp only [Act.put, List.setIfInBounds_toArray, List.set_cons_zero, List.set_cons_succ]
          refine wpAnyT_take (i := 7) (hi := by simp only [List.getElem?_toArray, List.getElem?_cons_succ, List.getElem?_cons_zero]; rfl) (v := ?_) (by kernel_rfl) (by kernel_rfl) (by kernel_rfl) (by kernel_rfl) (fun _ _ _ h => h) (Or.inl ⟨by rfl, ?_⟩) (by assumption) ?_
          rotate_left
          · (intro w hSw; (try dsimp only at hSw); (obtain ⟨x0, x1, x2⟩ := HS21.out _ hSw); go_simp; first | done | with_reducible rfl)
          try simp only [Act.put, List.setIfInBounds_toArray, List.set_cons_zero, List.set_cons_succ]
          refine wpAnyT_step (i := 8) (by kernel_rfl) (ho := by simp only [List.getElem?_toArray, List.getElem?_cons_succ, List.getElem?_cons_zero]; rfl) (fun K hK => ?_)
          go_simp
          go_wp2_with fail
          refine hK.out _ _ ?_ (fun hHeldN => ?_)
          · refine ⟨?_, ?_, ?_⟩
            · first
                | exact ((Below.refl _ w7).drew.alloc (Nat.le_refl _) _).block _ HL7.out.1
                | exact (((Below.refl _ w7).alloc (Nat.le_refl _) _).drew).block _ HL7.out.1
            · first
                | exact ((Below.refl _ w7).drew.alloc (Nat.le_refl _) _).block _ HL7.out.2.1
                | exact (((Below.refl _ w7).alloc (Nat.le_refl _) _).drew).block _ HL7.out.2.1
            · first
                | exact ((Below.refl _ w7).drew.alloc (Nat.le_refl _) _).block _ HL7.out.2.2
                | exact (((Below.refl _ w7).alloc (Nat.le_refl _) _).drew).block _ HL7.out.2.2
          clear hHeld
          have hHeld := hHeldN
          clear hHeldN
          clear hK K
          try simp only [Act.put, List.setIfInBounds_toArray, List.set_cons_zero, List.set_cons_succ]
          refine wpAnyT_step (i := 9) (by kernel_rfl) (ho := by simp only [List.getElem?_toArray, List.getElem?_cons_succ, List.getElem?_cons_zero]; rfl) (fun K hK => ?_)
          go_simp
          go_at_call 34; (with_reducible refine (HINS.out _ ?_ ?_).mono ?_)
          · first
              | exact (Below.refl _ w7).drew.alloc (Nat.le_refl _) _
              | exact ((Below.refl _ w7).alloc (Nat.le_refl _) _).drew
          · first
              | exact blk_new w7.drew _
              | exact blk_new w7 _
          rintro e w8 ⟨v8, rfl, hr8, hg8, ho8⟩
          have HR8 := Kit.hid hr8
          have HG8 := Kit.hid hg8
          have HO8 := Kit.hid ho8
          obtain ⟨A8, c8, rfl, _, _, _⟩ := hr8.reads
          have HLP8 : Hid (w8.heap[lp]? = some (.cells #[.map (some mb), .map (some mh), .slice A5 S.tasks.length c5, .map (some mk)] 66 (0, 0))) := Kit.hid ((hg8.block lp HL7.out.2.2 (fun e => (HOWN.out lp e.symm).2.2 rfl)).trans HX7.out.at_)
          have p2 := blk_cell HLP8.out 2
          have pf := blk_frozen HLP8.out 2
          have pl := blk_lt HLP8.out
          have HLN : Hid (Ln w F (w8.setCell ⟨lp, 2, none⟩ (.slice A8 (insT m.id S.tasks).length c8)) lp { S2 with tasks := insT m.id S2.tasks } (n + 60)) := Kit.hid (by
            rw [HT2.out]
            refine Ln.more (n := m' + 5) (Ln.trans HEM7.out.ext HEM7.out.kept ?_) (by omega)
            rw [HFE.out]
            refine HX7.out.setTasks (vt' := .slice A8 (insT m.id S.tasks).length c8) (T := insT m.id S.tasks) (n' := m' + 5) ?_ (blk_put HLP8.out 2 _ rfl) ?_ ?_ (by omega) ?_ ?_ ?_
            · intro k hk hk1 hk2
              exact (Below.heap_setCell _ _ _ _ hk1).trans (HG8.out.block k (HX7.out.lt k hk) (fun e => hk2 e.symm))
            · exact HR8.out.same fun g hg => Below.heap_setCell _ _ _ _ (fun e => by
                have e : g = lp := e
                rcases HO8.out with h | h
                · exact (HOWN.out g (by rw [← h]; exact hg)).2.2 e
                · have := h g hg; have := HL7.out.2.2; omega)
            · intro k hk
              rcases HO8.out with h | h
              · exact .inl (by rw [← h]; exact hk)
              · exact .inr (h k hk)
            · exact insT_lt HWL.out.tasks A1.out
            · have h1 : (insT m.id S.tasks).length = S.tasks.length + 1 := insT_len _ _
              have := HTN.out
              omega
            · exact ((Kept.refl _ _).grown HG8.out fun k hk => .inl (.inr (.inr (.inr (.inr (.inl hk)))))).setCell (a := ⟨lp, 2, none⟩) (.inl (.inl rfl)) _)
          clear hr8 hg8 ho8
          go_wp2_with fail
          refine hK.out _ _ ?_ (fun hHeldN => ?_)
          · exact ⟨HG8.out.block b3 HL7.out.1 (fun e => (HOWN.out b3 e.symm).1 rfl), HG8.out.block b5 HL7.out.2.1 (fun e => (HOWN.out b5 e.symm).2.1 rfl), HG8.out.block lp HL7.out.2.2 (fun e => (HOWN.out lp e.symm).2.2 rfl)⟩
          clear hHeld
          have hHeld := hHeldN
          clear hHeldN
          clear hK K
          try simp only [Act.put, List.setIfInBounds_toArray, List.set_cons_zero, List.set_cons_succ]
          refine wpAnyT_step (i := 10) (by kernel_rfl) (ho := by simp only [List.getElem?_toArray, List.getElem?_cons_succ, List.getElem?_cons_zero]; rfl) (fun K hK => ?_)
          go_simp
          refine hK.out _ _ ?_ (fun hHeldN => ?_)
          · exact hHeld
          clear hHeld
          have hHeld := hHeldN
          clear hHeldN
          clear hK K
          try simp only [Act.put, List.setIfInBounds_toArray, List.set_cons_zero, List.set_cons_succ]
          refine wpAnyT_take (i := 11) (hi := by simp only [List.getElem?_toArray, List.getElem?_cons_succ, List.getElem?_cons_zero]; rfl) (v := ?_) (by kernel_rfl) (by kernel_rfl) (by kernel_rfl) (by kernel_rfl) (fun _ _ _ h => h) (Or.inl ⟨by rfl, ?_⟩) (by assumption) ?_
          rotate_left
          · (intro w hSw; (try dsimp only at hSw); go_simp; first | done | with_reducible rfl)
          try simp only [Act.put, List.setIfInBounds_toArray, List.set_cons_zero, List.set_cons_succ]
          refine wpAnyT_last (by kernel_rfl) (ho := by simp only [List.getElem?_toArray, List.getElem?_cons_succ, List.getElem?_cons_zero]; rfl) (fun K hK => ?_)
          go_simp
          go_wp2_with fail
          refine hK.out _ _ ?_
          clear hK K
          try simp only [Act.put, List.setIfInBounds_toArray, List.set_cons_zero, List.set_cons_succ]
          clear hHeld
          refine wpAnyT_done (by kernel_rfl) ?_ _
          refine NoPanic.normal ?_
          skip
          go_wp2
          simp only [Exit.jump]
          rw [← HQ.out]
          refine ⟨_, results_tmp rfl _ _ _, by rw [HRES.out]; rfl, ?_⟩
          rw [HRES.out]
          exact HLN.out
    · obtain rfl : S2 = S' := by
        have := (joinS_same S' g x).2.2
        rw [HJS.out] at this
        exact this hje
      have g1 : (je != 0) = true := by simp [hje]
      have HEGO : Hid (enterGo S p m = (je, S2)) := Kit.hid (by
        rw [← HEG.out]
        cases p' with
        | nil =>
          unfold enterGo
          have := HJS.out
          rw [HGE2.out] at this
          exact this
        | cons s q =>
          have h2 := HJS.out
          have h3 : g = s.id := HGE2.out
          rw [h3] at h2
          unfold enterGo
          rw [h2, if_pos hje])
      have HRES : Hid (enterS S p m = (je, S)) := Kit.hid (by
        unfold enterS
        rw [if_neg A1.out, if_neg A2.out, HEGO.out, if_pos hje])
      have HBK := Kit.hid (back_mk Ab rids.length cb w3)
      clear hje
      go_wp2_with fail
      (with_reducible refine HBK.out.mono ?_); rintro e w4 ⟨rfl, hb4, hz4, hX4⟩
      have HEM4 := Kit.hid (HEM3.out.below hb4)
      have HX4 := Kit.hid hX4
      have HZ4 := Kit.hid hz4
      have HG3 := Kit.hid HEM3.out.lf.lt
      have hrow4 := own_reads HEM4.out.row
      obtain ⟨Ab', cb', hv, hcs, hcap4, hA4⟩ := hrow4
      cases hv
      have HCS := Kit.hid hcs
      have HOB : Hid (∀ ad : Addr, Ab = some ad → (Value.slice Ab rids.length cb).ownBlock = some ad.block ∧ ad.block < w4.heap.size) := Kit.hid (fun ad e => by
        rcases hA4 with ⟨e1, _⟩ | ⟨g', e1, _, h2⟩
        · rw [e1] at e; cases e
        · rw [e1] at e ⊢
          cases e
          exact ⟨rfl, h2⟩)
      have HSEQ : Hid (∀ W, Below w4.heap.size w4 W → SeqAt Try.prog 49 #[.pointer (some ⟨w3.heap.size, 0, none⟩)] (encB b3) (bk rids) (fun k => k = w3.heap.size ∨ ∃ ad : Addr, Ab = some ad ∧ k = ad.block) W) := Kit.hid (fun W hb =>
        back_seq Ab w3.heap.size cb b3 rids W ((hb.block _ (blk_lt HX4.out)).trans HX4.out) (fun j q hq => by
          obtain ⟨hj, _⟩ := List.getElem?_eq_some_iff.1 hq
          have hl : (rids.reverse.map fun q => clo b3 q.1).length = rids.length := by simp
          obtain ⟨ad, e1, e2⟩ := HCS.out (rids.length - 1 - j) (by rw [hl]; omega)
          refine ⟨ad, e1, (hb.cell (cell_lt e2)).trans (e2.trans ?_)⟩
          have hq' := (List.getElem?_eq_some_iff.1 hq).2
          simp only [List.getElem_map, List.getElem_reverse]
          congr 3
          have e3 : rids.length - 1 - (rids.length - 1 - j) = j := by omega
          simp only [e3, hq']) (by omega))
      have HU0 : Hid (UnI w4 G3 lp S2 (m' + 1 + 3) rids G3 [] w4) := Kit.hid ⟨HEM4.out.lf, fun k hk => .inl hk, Kept.refl _ _⟩
      have HBL := Kit.hid (bk_len rids)
      clear hX4 hz4 hcs hA4 hcap4
      go_wp2
      refine (wpIn_wide (n := 3)).1 (wpIn_rangeO (gf := 49) (lb := #[.pointer (some ⟨w3.heap.size, 0, none⟩)]) rfl (enters_of Try.func49 (by kernel_rfl) rfl)
        (encs := encB b3) (xs := bk rids) (Rd := fun k => k = w3.heap.size ∨ ∃ ad : Addr, Ab = some ad ∧ k = ad.block) HSEQ.out (fun _ => rfl)
        (UnI w4 G3 lp S2 (m' + 1 + 3) rids) (fun _ _ _ _ => False) (UnI.abide (Nat.le_refl _)) (fun c N s A A' h hag => h)
        G3 (fun k hk => ?_) (fun k hk => ?_) HU0.out ?round ?done ?stop)
      · have := HG3.out k hk
        have := HZ4.out
        refine ⟨by omega, fun h => ?_⟩
        rcases h with h | ⟨ad, e, h⟩
        · omega
        · exact HEM3.out.off k (.inr (.inr (.inr (.inl (by rw [h]; exact (HOB.out ad e).1))))) hk
      · rcases hk with h | ⟨ad, e, h⟩
        · have := HZ4.out; omega
        · rw [h]; exact (HOB.out ad e).2
      case stop =>
        rintro D M3 c pre W3 hD hMD hpre h
        exact h.elim
      case round =>
        rintro k l' M pre ⟨xj, xb⟩ W3 hpre hI hM3 hl1 hl2 hnl
        have hpl : pre.length < rids.length := by
          have := hpre.length_le
          rw [HBL.out] at this
          simp at this
          omega
        obtain ⟨q, hq⟩ : ∃ q, rids[pre.length]? = some q := ⟨_, List.getElem?_eq_getElem hpl⟩
        have hxq : (xj, xb) = (rids.length - 1 - pre.length, q.1) := by
          have h1 := bk_at rids _ q hq
          obtain ⟨z, hz⟩ := hpre
          rw [← hz, List.append_assoc, List.getElem?_append_right (Nat.le_refl _)] at h1
          simpa using h1
        cases hxq
        have HQQ := Kit.hid hq
        have HI := Kit.hid hI
        have hE : encB b3 (rids.length - 1 - pre.length, q.1) = #[.int .i64 ((rids.length - 1 - pre.length : Nat) : Int), .func (.func 30) #[] #[.pointer (some ⟨b3, 0, none⟩), .pointer (some ⟨q.1, 0, none⟩)]] := rfl
        simp only [hE]
        clear hq hE hpre hI
        gi_wp2
        refine ⟨Below.refl _ _, fun w₂ hI2 hs2 ho2 => ?_⟩
        have HI2 := Kit.hid hI2
        have HS2 : Hid (W3.heap.size ≤ w₂.heap.size) := Kit.hid (Nat.le_of_eq hs2.symm)
        have hqm : q ∈ rids := List.mem_of_getElem? HQQ.out
        have h3 := (hI2.2.2.block b3 (blk_lt HEM4.out.o3) (HEM4.out.off b3 (.inl rfl))).trans HEM4.out.o3
        have hib := (hI2.2.2.block q.1 (blk_lt (HEM4.out.oid q hqm).1) (HEM4.out.off q.1 (.inr (.inr (.inr (.inr ⟨q, hqm, rfl⟩)))))).trans (HEM4.out.oid q hqm).1
        have HC := Kit.hid (undo1_any b3 q.1 q.2 hI2.1 (by omega) (by omega) h3 hib (HEM4.out.oid q hqm).2.1 (HEM4.out.oid q hqm).2.2)
        clear h3 hib hI2 hs2 ho2 hqm
        gi_wp2
        refine ⟨trivial, fun h => (by cases h), (CallsIn.inRound l' (callsIn_wide.2 HC.out)).mono ?_⟩
        rintro e W4 ⟨⟨v, rfl⟩, hl⟩
        have HN := Kit.hid (HI2.out.next (x := (rids.length - 1 - pre.length, q.1)) HS2.out HQQ.out hl)
        clear hl
        gi_wp2
        exact HN.out
      case done =>
        intro D M3 W3 hD hMD hI3 hK
        have HLN : Hid (Ln w F (W3.putObj D (.deferred none)) lp S (n + 60)) := Kit.hid (by
          obtain ⟨i1, i2, i3⟩ := hI3
          have e1 : stU S2 (rids.take (bk rids).length) = S := by rw [HBL.out, List.take_length]; exact HST.out
          rw [e1, HBL.out] at i1
          refine Ln.more (n := m' + 1 + 3 + rids.length) ⟨M3, i1.same fun k hk => World.putObj_heap_other (fun e => hMD (by rw [← e]; exact hk)), fun k hk => ?_, ?_⟩ (by omega)
          · rcases i2 k hk with e | e
            · exact HEM4.out.ext k e
            · exact .inr (Nat.le_trans HEM4.out.kept.size e)
          · exact (HEM4.out.kept.trans i3 HEM4.out.ext).grown (row := some D) ⟨rfl, rfl, rfl, by simp, fun k hk hne => World.putObj_heap_other (fun e => hne (by rw [e]))⟩ (fun k e => by cases e; exact .inr (Nat.le_trans HEM4.out.kept.size hD)))
        clear hI3
        go_wp2
        simp only [Exit.jump]
        rw [← HQ.out]
        exact leaves_mark hK ⟨_, results_tmp rfl _ _ _, by rw [HRES.out]; rfl, by rw [HRES.out]; exact HLN.out⟩
  · intro HF
    go_wp2_with fail
    (with_reducible refine HTS.out.mono ?_); rintro e w2 ⟨rfl, hb2⟩
    have HB2 := Kit.hid hb2
    have h32 := blk_below H31.out hb2
    have h52 := blk_below H51.out hb2
    have e3 := blk_cell h32 0
    have e5 : w2.cell? ⟨b5, 0, none⟩ = some (.int .i64 m.id) := blk_cell h52 0
    have k3 := blk_lt h32
    have k5 := blk_lt h52
    clear hb2 HTS h32 h52 d3 d5
    go_wp2_with fail
    (with_reducible refine (HOD.out _ HB2.out).mono ?_); rintro e w3 ⟨rfl, hb3⟩
    have HB3 := Kit.hid (HB2.out.trans (hb3.mono HB2.out.size))
    have H33 := Kit.hid (blk_below H31.out HB3.out)
    have H53 := Kit.hid (blk_below H51.out HB3.out)
    have m0 : w3.cell? ⟨b5, 0, none⟩ = some (.int .i64 m.id) := blk_cell H53.out 0
    have m1 : w3.cell? ⟨b5, 1, none⟩ = some (.int .i64 m.wt) := blk_cell H53.out 1
    have m2 : w3.cell? ⟨b5, 2, none⟩ = some (.int .i64 m.v) := blk_cell H53.out 2
    have m3 : w3.cell? ⟨b5, 3, none⟩ = some (.int .i64 m.rem) := blk_cell H53.out 3
    have q5 := blk_lt H53.out
    obtain ⟨w4, hw4⟩ : ∃ w4, w4 = w3.alloc (.cells #[.int .i64 m.id, .int .i64 m.wt, .int .i64 m.v, .int .i64 m.rem] 35) := ⟨_, rfl⟩
    have hb4 : Below w3.heap.size w3 w4 := by rw [hw4]; exact (Below.refl _ _).alloc (Nat.le_refl _) _
    have hX4 : w4.heap[w3.heap.size]? = some (memO m) := by rw [hw4]; exact blk_new _ _
    have HBW : Hid (Below w.heap.size w w4) := Kit.hid (HB1.out.trans ((HB3.out.trans (hb4.mono HB3.out.size)).mono HB1.out.size))
    have hsz1 := HB1.out.size
    have hsz3 := HB3.out.size
    have q3 := blk_lt H33.out
    have HEM : Hid (EnM w F w4 lp S n F b3 b5 w3.heap.size m m none 0 []) := Kit.hid ⟨HLF.out.below HBW.out, fun k hk => .inl hk, (Kept.refl F w).below HBW.out, blk_below H33.out hb4, blk_below H53.out hb4, hX4, ⟨rfl, .inl ⟨rfl, rfl⟩⟩, (fun q hq => by cases hq), (by
      rintro k (rfl | rfl | rfl | hk | ⟨q, hq, _⟩)
      · exact HNF.out.1
      · exact HNF.out.2
      · intro hf; have := HLT.out _ hf; omega
      · cases hk
      · cases hq), (by
      rintro k (rfl | rfl | rfl | hk | ⟨q, hq, _⟩)
      · exact HGE.out.1
      · exact HGE.out.2.1
      · omega
      · cases hk
      · cases hq), (fun k hk => by cases hk), ⟨by omega, by omega, fun q hq => by cases hq⟩⟩
    have HSR4 : Hid (SRow w4 A p ∧ p.length ≤ cap ∧ (p ≠ [] → ∀ a, A = some a → a.block < w.heap.size ∧ ¬ F a.block)) := Kit.hid ⟨HSR.out.below HBW.out, hc, HAB.out⟩
    clear hb3 hb4 hX4 hsz1 hsz3 q3 e3 e5 k3 k5
    go_wp2
    go_step3
    rename_i K hK
    refine hK _ _ ?_
    rw [← hw4]
    exact HF.out p.length _ _ ⟨S, p, A, cap, m, none, 0, [], n, w3.heap.size, F, rfl, rfl, rfl, rfl, rfl, rfl, rfl, rfl, HEM, HSR4, Kit.hid ⟨rfl, by omega, hn0, by simpa using hl⟩, Kit.hid rfl, Kit.hid rfl, Kit.hid ⟨rfl, rfl⟩, Kit.hid ⟨HIR.out, .inl rfl⟩, HWP0⟩
end
end Go.Proofs.Ytpgfenelckonoaa.La

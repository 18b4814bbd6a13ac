/- The law LaneShares. -/
import Derived.Test.YtpgfenelckonoaaLxF
import Derived.Test.YtpgfenelckonoaaOwnS
import Derived.Deep.OwnRows
namespace Go.Proofs.Ytpgfenelckonoaa.LaM
open Go.Proofs.Ytpgfenelckonoaa.ShM Go.Proofs.Ytpgfenelckonoaa.QuM
set_option linter.unusedVariables false
theorem way_steps {S : LS} : ∀ {l : List Int} {t g : Int}, S.home t = some g → IsWay S g l → ∀ k, k ≤ l.length → ∃ y j, (t :: l)[k]? = some y ∧ (l ++ [0])[k]? = some j ∧ S.home y = some j
  | [], t, g, ht, hw, k, hk => by
    obtain rfl : k = 0 := by simpa using hk
    have : g = 0 := hw
    subst this
    exact ⟨t, 0, rfl, rfl, ht⟩
  | x :: l, t, g, ht, hw, k, hk => by
    obtain ⟨rfl, h0, hn, h, hh, hl⟩ := hw
    cases k with
    | zero => exact ⟨t, x, rfl, rfl, ht⟩
    | succ k =>
      obtain ⟨y, j, e1, e2, e3⟩ := way_steps hh hl k (by simpa using hk)
      exact ⟨y, j, e1, e2, e3⟩
theorem cnt_snoc {l : List Mem} {m x : Mem} {i : Nat} (h : l[i]? = some x) : (l.take (i + 1)).countP (fun y => decide (y = m)) = (l.take i).countP (fun y => decide (y = m)) + (if x = m then 1 else 0) := by
  rw [List.take_add_one, h, List.countP_append]
  simp [List.countP_cons]
theorem cnt_none {m : Mem} : ∀ {l : List Mem}, (∀ y ∈ l, y.id ≠ m.id) → l.countP (fun y => decide (y = m)) = 0
  | l, h => by
    rw [List.countP_eq_zero]
    intro y hy e
    have := of_decide_eq_true e
    exact h y hy (by rw [this])
theorem cnt_one {m : Mem} : ∀ {l : List Mem}, l.Pairwise (fun a b => a.id ≠ b.id) → m ∈ l → l.countP (fun y => decide (y = m)) = 1
  | [], _, h => by cases h
  | y :: l, hp, h => by
    obtain ⟨h1, h2⟩ := List.pairwise_cons.1 hp
    rw [List.countP_cons]
    rcases List.mem_cons.1 h with rfl | h
    · rw [cnt_none (fun z hz e => h1 z hz e.symm)]
      simp
    · have hne : y ≠ m := fun e => h1 m h (by rw [e])
      rw [cnt_one h2 h]
      simp [hne]
end Go.Proofs.Ytpgfenelckonoaa.LaM
namespace Go.Proofs.Ytpgfenelckonoaa.La
open Go.RowKit Go.Proofs.Ytpgfenelckonoaa.Kit Go.Proofs.Ytpgfenelckonoaa.ShM Go.Proofs.Ytpgfenelckonoaa.Sh Go.Proofs.Ytpgfenelckonoaa.QuM Go.Proofs.Ytpgfenelckonoaa.Qu Go.Proofs.Ytpgfenelckonoaa.LaM
open Go.Proofs.Ytpgfenelckonoaa.Ki (Row row_nil row_of iv iv_len iv_one)
set_option linter.unusedVariables false
set_option linter.unusedSimpArgs false
theorem steps_way {S : LS} (wl : WL S) {t : Int} (ht : (S.home t).isSome = true) : ∀ k, k ≤ (wayS S t).length → ∃ y j, (t :: wayS S t)[k]? = some y ∧ (wayS S t ++ [0])[k]? = some j ∧ S.home y = some j := by
  cases hh : S.home t with
  | none => rw [hh] at ht; cases ht
  | some g =>
    obtain ⟨l, h1, _, h3⟩ := way_is wl hh
    rw [h3]
    exact way_steps hh h1
theorem told_once {S : LS} (wl : WL S) {x j : Int} (h : S.home x = some j) : (told (S.Q j).2 (S.Q j).1).countP (fun y => decide (y = memS S j x)) = 1 := by
  obtain ⟨y, hy, hm, hi⟩ := member_some wl h
  have e : memS S j x = { y with v := y.v - (S.Q j).2 } := by unfold memS; rw [hy]
  rw [e]
  refine cnt_one ?_ ?_
  · unfold told
    rw [List.pairwise_map]
    exact (wl.wq j).uniq
  · exact List.mem_map.2 ⟨y, hm, rfl⟩
theorem told_pos {S : LS} (wl : WL S) (j : Int) : ∀ m ∈ told (S.Q j).2 (S.Q j).1, 0 ≤ m.v := by
  intro m hm
  obtain ⟨y, hy, rfl⟩ := List.mem_map.1 hm
  have := (wl.qb j).each y hy
  show 0 ≤ y.v - (S.Q j).2
  omega
theorem row_cells2 {B : Nat} {w : World} {A : Option Addr} {n c : Nat} {l : List Int} (h : Row B w (.slice A n c) l) : Cells w A (iv l) := by
  obtain ⟨A', c', e, hc, _⟩ := h.reads
  cases e
  exact hc
theorem eql_mem (a b : Mem) (w : World) : (binOp .eql 35 (.agg #[.int .i64 a.id, .int .i64 a.wt, .int .i64 a.v, .int .i64 a.rem]) (.agg #[.int .i64 b.id, .int .i64 b.wt, .int .i64 b.v, .int .i64 b.rem])).run Try.prog w = .ok (.bool (decide (a = b))) w := by
  rw [run_eql_struct, equalIn_mem]
  rfl
/-- A lane, and kept blocks beside it. -/
structure Bye (w0 w : World) (lp : Nat) (S : LS) (n : Nat) (K : Nat → Prop) : Prop where
  ex : ∃ G : Nat → Prop, LF G w lp S n ∧ (∀ x, G x → w0.heap.size ≤ x) ∧ (∀ k, K k → k < w.heap.size ∧ ¬ G k)
  bel : Below w0.heap.size w0 w
section
variable {w0 w w' : World} {lp n : Nat} {S : LS} {K : Nat → Prop}
theorem Bye.lane (h : Bye w0 w lp S n K) : ∃ G, LF G w lp S n ∧ (∀ x, G x → w0.heap.size ≤ x) ∧ ∀ w' S' n', Ln w G w' lp S' n' → Bye w0 w' lp S' n' K ∧ (∀ k, K k → w'.heap[k]? = w.heap[k]?) := by
  obtain ⟨⟨G, h1, h2, h3⟩, h7⟩ := h
  refine ⟨G, h1, h2, fun w' S' n' hl => ?_⟩
  obtain ⟨G2, g1, g2, g3⟩ := hl
  refine ⟨⟨⟨G2, g1, fun x hx => ?_, fun k hk => ?_⟩, ?_⟩, fun k hk => g3.block k (h3 k hk).1 (h3 k hk).2⟩
  · rcases g2 x hx with e | e
    · exact h2 x e
    · exact Nat.le_trans h7.size e
  · obtain ⟨e1, e2⟩ := h3 k hk
    refine ⟨Nat.lt_of_lt_of_le e1 g3.size, fun hg => ?_⟩
    rcases g2 k hg with e | e
    · exact e2 e
    · omega
  · exact ⟨g3.os.trans h7.os, g3.tape.trans h7.tape, g3.output.trans h7.output, Nat.le_trans h7.size g3.size, fun x hx => (g3.block x (Nat.lt_of_lt_of_le hx h7.size) (fun hg => by have := h2 x hg; omega)).trans (h7.block x hx)⟩
theorem Bye.lane2 (h : Bye w0 w lp S n K) : ∃ G, LF G w lp S n ∧ (∀ x, G x → w0.heap.size ≤ x) ∧ (∀ k, K k → k < w.heap.size ∧ ¬ G k) ∧ ∀ w' S' n', Ln w G w' lp S' n' → Bye w0 w' lp S' n' K ∧ (∀ k, K k → w'.heap[k]? = w.heap[k]?) := by
  obtain ⟨⟨G, h1, h2, h3⟩, h7⟩ := h
  refine ⟨G, h1, h2, h3, fun w' S' n' hl => ?_⟩
  obtain ⟨G2, g1, g2, g3⟩ := hl
  refine ⟨⟨⟨G2, g1, fun x hx => ?_, fun k hk => ?_⟩, ?_⟩, fun k hk => g3.block k (h3 k hk).1 (h3 k hk).2⟩
  · rcases g2 x hx with e | e
    · exact h2 x e
    · exact Nat.le_trans h7.size e
  · obtain ⟨e1, e2⟩ := h3 k hk
    refine ⟨Nat.lt_of_lt_of_le e1 g3.size, fun hg => ?_⟩
    rcases g2 k hg with e | e
    · exact e2 e
    · omega
  · exact ⟨g3.os.trans h7.os, g3.tape.trans h7.tape, g3.output.trans h7.output, Nat.le_trans h7.size g3.size, fun x hx => (g3.block x (Nat.lt_of_lt_of_le hx h7.size) (fun hg => by have := h2 x hg; omega)).trans (h7.block x hx)⟩
theorem Bye.below (h : Bye w0 w lp S n K) (hb : Below w.heap.size w w') : Bye w0 w' lp S n K := by
  obtain ⟨⟨G, h1, h2, h3⟩, h7⟩ := h
  exact ⟨⟨G, h1.below hb, h2, fun k hk => ⟨Nat.lt_of_lt_of_le (h3 k hk).1 hb.size, (h3 k hk).2⟩⟩, h7.trans (hb.mono h7.size)⟩
/-- What is laid beside the lane is kept too. -/
theorem Bye.add (h : Bye w0 w lp S n K) (hb : Below w.heap.size w w') (v : Value) (hv : ∀ k, v.ownBlock = some k → w.heap.size ≤ k ∧ k < w'.heap.size) : Bye w0 w' lp S n (fun k => K k ∨ v.ownBlock = some k) := by
  have h8 := h.below hb
  obtain ⟨⟨G, h1, h2, h3⟩, h7⟩ := h
  refine ⟨⟨G, h1.below hb, h2, fun k hk => ?_⟩, h8.bel⟩
  rcases hk with hk | hk
  · exact ⟨Nat.lt_of_lt_of_le (h3 k hk).1 hb.size, (h3 k hk).2⟩
  · obtain ⟨e1, e2⟩ := hv k hk
    exact ⟨e2, fun hg => by have := h1.lt k hg; omega⟩
/-- A lane's call that gives a row of one's own. -/
theorem Bye.laneO (h : Bye w0 w lp S n K) : ∃ G, LF G w lp S n ∧ (∀ x, G x → w0.heap.size ≤ x) ∧ ∀ w' S' n' v, LnO w G w' lp S' n' v → Bye w0 w' lp S' n' (fun k => K k ∨ v.ownBlock = some k) ∧ (∀ k, K k → w'.heap[k]? = w.heap[k]?) := by
  obtain ⟨⟨G, h1, h2, h3⟩, h7⟩ := h
  refine ⟨G, h1, h2, fun w' S' n' v hl => ?_⟩
  obtain ⟨G2, g1, g2, g3, g4⟩ := hl
  refine ⟨⟨⟨G2, g1, fun x hx => ?_, fun k hk => ?_⟩, ?_⟩, fun k hk => g3.block k (h3 k hk).1 (h3 k hk).2⟩
  · rcases g2 x hx with e | e
    · exact h2 x e
    · exact Nat.le_trans h7.size e
  · rcases hk with hk | hk
    · obtain ⟨e1, e2⟩ := h3 k hk
      refine ⟨Nat.lt_of_lt_of_le e1 g3.size, fun hg => ?_⟩
      rcases g2 k hg with e | e
      · exact e2 e
      · omega
    · exact ⟨(g4 k hk).2.1, (g4 k hk).2.2⟩
  · exact ⟨g3.os.trans h7.os, g3.tape.trans h7.tape, g3.output.trans h7.output, Nat.le_trans h7.size g3.size, fun x hx => (g3.block x (Nat.lt_of_lt_of_le hx h7.size) (fun hg => by have := h2 x hg; omega)).trans (h7.block x hx)⟩
theorem Bye.less {K' : Nat → Prop} (h : Bye w0 w lp S n K) (hK : ∀ k, K' k → K k) : Bye w0 w lp S n K' := by
  obtain ⟨⟨G, h1, h2, h3⟩, h7⟩ := h
  exact ⟨⟨G, h1, h2, fun k hk => h3 k (hK k hk)⟩, h7⟩
theorem Bye.of_ln (h : Ln w0 (fun _ => False) w lp S n) : Bye w0 w lp S n (fun _ => False) := by
  have hb := h.blw
  obtain ⟨G, h1, h2, h3⟩ := h
  exact ⟨⟨G, h1, fun k hk => (h2 k hk).resolve_left id, fun k hk => hk.elim⟩, hb⟩
variable {F : Nat → Prop}
theorem LF.qn (h : LF F w lp S n) (g : Int) : (S.Q g).1.length ≤ n := by
  obtain ⟨mb, mh, mk, vt, Qp, Fq, rfl, h⟩ := h
  cases hq : Qp g with
  | none => rw [h.none_ g hq]; exact Nat.zero_le _
  | some p => exact (h.queue g p hq).len
theorem home_full (wl : WL S) {x g : Int} (h : S.home x = some g) : (S.Q g).1 ≠ [] := fun e => by
  obtain ⟨y, _, hm, _⟩ := member_some wl h
  rw [e] at hm
  cases hm
set_option maxHeartbeats 1600000 in
/-- Get, of who is in a queue, changes nothing. -/
theorem get_full (id g : Int) (h : LF F w lp S n) (wl : WL S) (hn : n ≤ 3900) (hi : int64 id) (hh : S.home id = some g) :
    Calls Try.prog 14 #[.pointer (some ⟨lp, 0, none⟩), .int .i64 id] w fun e w' => e = .returned (.tuple #[memV (memS S g id), .bool true]) ∧ Below w.heap.size w w' := by
  have HLF := Kit.hid h
  have HIR := Kit.hid hi
  obtain ⟨gp, hgp⟩ : ∃ gp, gp = w.heap.size := ⟨_, rfl⟩
  obtain ⟨W1, hW1⟩ : ∃ W1, W1 = w.alloc (.cells #[.int .i64 0, .int .i64 0, .int .i64 0, .int .i64 0] 35) := ⟨_, rfl⟩
  have HB1 : Hid (Below w.heap.size w W1) := Kit.hid (by rw [hW1]; exact (Below.refl _ _).alloc (Nat.le_refl _) _)
  have HX1 : Hid (W1.heap[gp]? = some (.cells #[.int .i64 0, .int .i64 0, .int .i64 0, .int .i64 0] 35 (0, 0))) := Kit.hid (by rw [hW1, hgp]; exact blk_new _ _)
  obtain ⟨mb, mh, mk, vt, Qp, Fq, hFe, hx⟩ := (show LF F w lp S n from h)
  have x1 := blk_cell hx.at_ 1
  have hll := blk_lt hx.at_
  have HEQ : Hid (∀ o, (Instr.lookup 63 (.map (some mh)) (.int .i64 id) true).run Try.prog (w.alloc o) = .ok (.tuple #[.int .i64 ((S.home id).getD 0), .bool (S.home id).isSome]) (w.alloc o)) := Kit.hid (fun o => by
    rw [(hx.home.same (((Below.refl _ w).alloc (Nat.le_refl _) o).block mh hx.home.lt)).look true keyed Try.underlying63 (zero_int _) (int_key Try.underlying3 hi.1 hi.2)]
    cases S.home id <;> rfl)
  have heq := HEQ.out (.cells #[.int .i64 0, .int .i64 0, .int .i64 0, .int .i64 0] 35)
  have HL1 := Kit.hid (h.below HB1.out)
  have hgr := h.rng hh
  have HIS : Hid ((get (S.Q g).1 id).isSome = true) := Kit.hid ((wl.home id g).1 hh)
  rw [hh] at heq
  simp only [Option.getD_some, Option.isSome_some] at heq
  have HOF := Kit.hid (of_full g HL1.out (home_full wl hh) hgr)
  obtain ⟨m, hm⟩ : ∃ m, m = memS S g id := ⟨_, rfl⟩
  have hgv := gv_memS S g id
  rw [← hm] at hgv ⊢
  unfold memV at hgv ⊢
  have HGV := Kit.hid hgv
  have HGP := Kit.hid hgp
  have HW1 := Kit.hid hW1
  have HGL := Kit.hid (blk_lt HX1.out)
  clear h hi hx hFe hgp hW1 hh hgv hm hgr
  go_enter Try.func14, Try.ntmps14
  go_wp2_with fail
  rw [← HW1.out, ← HGP.out]
  (with_reducible refine HOF.out.mono ?_); rintro e w2 ⟨p, rfl, rfl, G, q1, q2, q3, q4, q5, q6, q7⟩
  have HGT := Kit.hid (get_any id q1 q2 HIR.out.1 HIR.out.2)
  rw [HGV.out, HIS.out] at HGT
  clear q1 q2 q3 q4 q5 q6 q7 HOF x1 hll heq
  go_wp2_with fail
  (with_reducible refine HGT.out.mono ?_); rintro e w3 ⟨rfl, hb3⟩
  have HX3 : Hid (w3.heap[gp]? = some (.cells #[.int .i64 0, .int .i64 0, .int .i64 0, .int .i64 0] 35 (0, 0))) := Kit.hid ((hb3.block gp HGL.out).trans HX1.out)
  have HB3 := Kit.hid (HB1.out.trans (hb3.mono HB1.out.size))
  have y0 := blk_cell HX3.out 0
  have y1 := blk_cell HX3.out 1
  have y2 := blk_cell HX3.out 2
  have y3 := blk_cell HX3.out 3
  have f0 := blk_frozen HX3.out 0
  have f1 := blk_frozen HX3.out 1
  have f2 := blk_frozen HX3.out 2
  have f3 := blk_frozen HX3.out 3
  have yl := blk_lt HX3.out
  clear hb3 HGT
  go_wp2
  exact cell_tmp_ret rfl gp _ _ _ _ rfl rfl (mem_store HX3.out) rfl ⟨rfl, HB3.out.grown (set4_grown _ _ _ _ _ _) HB3.out.size fun k hk => by cases hk; exact Nat.le_of_eq HGP.out.symm⟩
theorem queue_full (g : Int) (h : LF F w lp S n) (hn : n ≤ 3900) (hg : int64 g) (hq : (S.Q g).1 ≠ []) :
    Calls Try.prog 13 #[.pointer (some ⟨lp, 0, none⟩), .int .i64 g] w fun e w' => ∃ v, e = .returned v ∧ w'.ownsRow w.heap.size 35 4 v (S.Q g).1.length (flatM (S.Q g).2 (S.Q g).1) ∧ Below w.heap.size w w' := by
  have HOF := Kit.hid (of_full g h hq hg)
  clear h hq
  go_enter Try.func13, Try.ntmps13
  go_wp2_with fail
  (with_reducible refine HOF.out.mono ?_); rintro e w2 ⟨p, rfl, rfl, G, q1, q2, q3, q4, _⟩
  have HA := Kit.hid (qall_any q1 q2 (by omega))
  clear q1 q2 q3 q4 HOF
  go_wp2_with fail
  (with_reducible refine HA.out.mono ?_); rintro e w3 ⟨v, rfl, hv, hb3⟩
  have HV := Kit.hid hv
  have HB := Kit.hid hb3
  obtain ⟨A, c, rfl, _, _, _⟩ := own_readsS (by decide) hv
  clear hv hb3 HA
  go_wp2
  go_ret
  exact ⟨_, rfl, HV.out, HB.out⟩
end
/-! ### one thing ahead of a row of what is done -/
open Go.ChangeShapes Go.WideShapes Go.ChangeAt Go.Joins Go.Deep in
theorem lrow_cells {w : World} {A : Option Addr} {l : List LOp} (h : LRow w A l) : ∃ news : List Value, news.length = l.length * 8 ∧ Cells w A news ∧ (∀ u ∈ news, u.oneCell' = true) ∧
    ∀ i (hi : i < l.length), ∃ (Ap As : Option Addr) (cp cs : Nat), (∀ k, k < 8 → news[i * 8 + k]? = (opC l[i] Ap As cp cs)[k]?) ∧ SRow w Ap l[i].p ∧ l[i].p.length ≤ cp ∧ Cells w As (iv l[i].shut) ∧ int64 l[i].m.id ∧ int64 l[i].n := by
  by_cases hl : l.length = 0
  · refine ⟨[], (by simp [hl]), (fun i hi => nomatch hi), (fun u hu => nomatch hu), fun i hi => by omega⟩
  obtain ⟨ad, hA, _⟩ := h 0 (by omega)
  subst hA
  have key : ∀ i (hi : i < l.length), ∃ (Ap As : Option Addr) (cp cs : Nat), (∀ k, k < 8 → w.cell? (ad.add (i * 8 + k)) = (opC l[i] Ap As cp cs)[k]?) ∧ SRow w Ap l[i].p ∧ l[i].p.length ≤ cp ∧ Cells w As (iv l[i].shut) ∧ int64 l[i].m.id ∧ int64 l[i].n := by
    intro i hi
    obtain ⟨ad', e, Ap, As, cp, cs, h0, h1, h2, h3, h4, h5, h6, h7, h8⟩ := h i hi
    cases e
    refine ⟨Ap, As, cp, cs, fun k hk => ?_, h8⟩
    match k, hk with
    | 0, _ => exact h0
    | 1, _ => exact h1
    | 2, _ => exact h2
    | 3, _ => exact h3
    | 4, _ => exact h4
    | 5, _ => exact h5
    | 6, _ => exact h6
    | 7, _ => exact h7
  have each : ∀ j, j < l.length * 8 → ∃ u, w.cell? (ad.add j) = some u ∧ u.oneCell' = true := by
    intro j hj
    have hi : j / 8 < l.length := by omega
    have hk : j % 8 < 8 := Nat.mod_lt _ (by decide)
    obtain ⟨Ap, As, cp, cs, h1, _⟩ := key (j / 8) hi
    have h2 := h1 (j % 8) hk
    rw [show j / 8 * 8 + j % 8 = j from by omega] at h2
    rw [h2]
    generalize j % 8 = k at hk
    match k, hk with
    | 0, _ => exact ⟨_, rfl, rfl⟩
    | 1, _ => exact ⟨_, rfl, rfl⟩
    | 2, _ => exact ⟨_, rfl, rfl⟩
    | 3, _ => exact ⟨_, rfl, rfl⟩
    | 4, _ => exact ⟨_, rfl, rfl⟩
    | 5, _ => exact ⟨_, rfl, rfl⟩
    | 6, _ => exact ⟨_, rfl, rfl⟩
    | 7, _ => exact ⟨_, rfl, rfl⟩
  haveI : Inhabited Value := ⟨.bool false⟩
  obtain ⟨f, hf⟩ := choose_lt each
  refine ⟨(List.range (l.length * 8)).map f, by simp, fun j hj => ?_, fun u hu => ?_, fun i hi => ?_⟩
  · have hj' : j < l.length * 8 := by simpa using hj
    exact ⟨ad, rfl, by rw [(hf j hj').1]; simp⟩
  · obtain ⟨j, hj, rfl⟩ := List.mem_map.1 hu
    exact (hf j (List.mem_range.1 hj)).2
  · obtain ⟨Ap, As, cp, cs, h1, h2⟩ := key i hi
    refine ⟨Ap, As, cp, cs, fun k hk => ?_, h2⟩
    have hb : i * 8 + k < l.length * 8 := by omega
    rw [← h1 k hk, (hf (i * 8 + k) hb).1]
    simp [hb]
theorem lrow_cons {w : World} {A : Option Addr} {l : List LOp} {o : LOp} {Ap As : Option Addr} {cp cs : Nat} {news : List Value} (hc : Cells w A ((opC o Ap As cp cs).toList ++ news)) (hl : news.length = l.length * 8)
    (ho : SRow w Ap o.p ∧ o.p.length ≤ cp ∧ Cells w As (iv o.shut) ∧ int64 o.m.id ∧ int64 o.n)
    (hr : ∀ i (hi : i < l.length), ∃ (Ap As : Option Addr) (cp cs : Nat), (∀ k, k < 8 → news[i * 8 + k]? = (opC l[i] Ap As cp cs)[k]?) ∧ SRow w Ap l[i].p ∧ l[i].p.length ≤ cp ∧ Cells w As (iv l[i].shut) ∧ int64 l[i].m.id ∧ int64 l[i].n) : LRow w A (o :: l) := by
  have at_ : ∀ j u, ((opC o Ap As cp cs).toList ++ news)[j]? = some u → ∃ ad, A = some ad ∧ w.cell? (ad.add j) = some u := by
    intro j u hj
    obtain ⟨h1, rfl⟩ := List.getElem?_eq_some_iff.1 hj
    exact hc j h1
  obtain ⟨ad, rfl, _⟩ := at_ 0 _ rfl
  have cell : ∀ j u, ((opC o Ap As cp cs).toList ++ news)[j]? = some u → w.cell? (ad.add j) = some u := by
    intro j u hj
    obtain ⟨ad', e, c⟩ := at_ j u hj
    cases e
    exact c
  intro i hi
  refine ⟨ad, rfl, ?_⟩
  cases i with
  | zero =>
    exact ⟨Ap, As, cp, cs, cell 0 _ rfl, cell 1 _ rfl, cell 2 _ rfl, cell 3 _ rfl, cell 4 _ rfl, cell 5 _ rfl, cell 6 _ rfl, cell 7 _ rfl, ho⟩
  | succ i =>
    have hi' : i < l.length := by simpa using hi
    obtain ⟨Bp, Bs, dp, ds, h1, h2⟩ := hr i hi'
    have h3 : ∀ k u, k < 8 → (opC l[i] Bp Bs dp ds)[k]? = some u → w.cell? (ad.add ((i + 1) * 8 + k)) = some u := by
      intro k u hk hu
      refine cell _ _ ?_
      rw [List.getElem?_append_right (by show 8 ≤ _; omega)]
      rw [← hu, ← h1 k hk]
      congr 1
      show (i + 1) * 8 + k - 8 = _
      omega
    exact ⟨Bp, Bs, dp, ds, h3 0 _ (by decide) rfl, h3 1 _ (by decide) rfl, h3 2 _ (by decide) rfl, h3 3 _ (by decide) rfl, h3 4 _ (by decide) rfl, h3 5 _ (by decide) rfl, h3 6 _ (by decide) rfl, h3 7 _ (by decide) rfl, h2⟩
theorem infoOp : (Try.prog.info? 55).map (fun i => (i.zero, i.size, i.bytes)) = some (some (.agg #[.int .i64 0, .int .i64 0, .int .i64 0, .int .i64 0, .int .i64 0, .slice none 0 0, .int .i64 0, .slice none 0 0]), 8, 96) := by kernel_rfl
theorem op_own (w : World) (B : Nat) (hB : B ≤ w.heap.size) (o : LOp) (Ap As : Option Addr) (cp cs : Nat) : (w.alloc (.cells (opC o Ap As cp cs) 55)).ownsRow B 55 8 (.slice (some ⟨w.heap.size, 0, none⟩) 1 1) 1 (opC o Ap As cp cs).toList :=
  ⟨rfl, .inr ⟨_, _, _, rfl, hB, blk_new _ _, Nat.le_refl _, by unfold maxLen; omega, rfl, rfl⟩⟩
set_option maxRecDepth 100000 in
open Go.ChangeShapes Go.WideShapes Go.ChangeAt Go.Joins Go.Deep in
/-- What a row of what is done weighs. -/
theorem lops_weight {H : Type} {enc : TypeId × Value → H} {W : World} {base : Nat} {held : Bool} {A : Option Addr} {n cap : Nat} {d : DataW H} {ps : List MemPlace} {ts : List TypeId} {ds : List (DataW H)} (j : Nat)
    (hsz : (DataW.weightsEach Try.prog ts ds).all (· ≤ reachBytes) = true) (hj : ts[j]? = some 45) (hd : ds[j]? = some d)
    (h : DataW.Trod enc Try.prog W base (fun _ => true) held 45 (.slice A n cap) d ps) : n * 96 ≤ 140737488351232 := by
  obtain ⟨fuel, hf⟩ := h
  rcases open_slice Try.underlying45 hf with ⟨hcs, _⟩ | ⟨x, l, c, m, n', D, Pl, hcs, _, hl, hm, hmm, hx, _⟩
  · simp [Value.cells] at hcs
    obtain ⟨rfl, rfl, rfl⟩ := hcs
    simp
  · simp [Value.cells] at hcs
    obtain ⟨rfl, rfl, rfl⟩ := hcs
    obtain ⟨hx1, _⟩ := Prod.mk.inj hx
    subst hx1
    have z := sized_slice hsz hj hd Try.underlying45
    rw [show Try.prog.bytesOf 55 = 96 from by kernel_rfl] at z
    simp only [List.length_map, List.length_range] at z
    exact Nat.le_trans (Nat.mul_le_mul_right _ (Nat.le_add_right _ _)) z
end Go.Proofs.Ytpgfenelckonoaa.La
namespace Go.Proofs.Ytpgfenelckonoaa.QuM
open Go.Proofs.Ytpgfenelckonoaa.ShM
set_option linter.unusedVariables false
/-- Members that joined at once: W their weights. -/
structure Fair0 (W : List Int) (n : Nat) (L : List Mem) : Prop where
  ids : ∀ m ∈ L, 1 ≤ m.id ∧ m.id ≤ n
  has : ∀ j : Nat, j < n → ∃ m ∈ L, m.id = j + 1
  wt : ∀ m ∈ L, W[(m.id - 1).toNat]? = some m.wt
  zero : ∀ m ∈ L, m.v = 0 ∧ m.rem = 0
/-- R: how often each one ran. -/
structure FairR (W R : List Int) (n : Nat) (L : List Mem) : Prop where
  ids : ∀ m ∈ L, 1 ≤ m.id ∧ m.id ≤ n
  has : ∀ j : Nat, j < n → ∃ m ∈ L, m.id = j + 1
  wt : ∀ m ∈ L, W[(m.id - 1).toNat]? = some m.wt
  run : ∀ m ∈ L, ∃ r, R[(m.id - 1).toNat]? = some r ∧ m.v * m.wt + m.rem = 1048576 * r
  near : ∀ x ∈ L, ∀ y ∈ L, x.v - y.v ≤ 1048576 / x.wt + 1
theorem Fair0.nil (W : List Int) : Fair0 W 0 [] := ⟨fun m h => (by cases h), fun j h => absurd h (Nat.not_lt_zero _), fun m h => (by cases h), fun m h => (by cases h)⟩
theorem fair0_join {W : List Int} {i : Nat} {L : List Mem} {u : Int} (h : Fair0 W i L) (hi : i < 8) (hu : W[i]? = some u) (h1 : 1 ≤ u) (h2 : u ≤ 1048576) :
    joinC ⟨i + 1, u, 0, 0⟩ L 0 = 0 ∧ Fair0 W (i + 1) (joinL ⟨i + 1, u, 0, 0⟩ L 0) := by
  have hg : get L ((i : Int) + 1) = none := get_none.2 fun y hy => by have := (h.ids y hy).2; omega
  have hc : joinC ⟨i + 1, u, 0, 0⟩ L 0 = 0 := by
    unfold joinC
    dsimp only
    rw [if_neg (by omega), hg]
    rfl
  refine ⟨hc, ?_⟩
  unfold joinL
  rw [if_pos hc]
  refine ⟨fun m hm => ?_, fun j hj => ?_, fun m hm => ?_, fun m hm => ?_⟩
  · rcases put_mem.1 hm with rfl | ⟨hm, _⟩
    · show 1 ≤ (i : Int) + 1 ∧ (i : Int) + 1 ≤ ((i + 1 : Nat) : Int); omega
    · have := h.ids m hm; omega
  · by_cases e : j = i
    · exact ⟨_, put_mem.2 (.inl rfl), by rw [e]⟩
    · obtain ⟨m, hm, he⟩ := h.has j (by omega)
      exact ⟨m, put_mem.2 (.inr ⟨hm, by show m.id ≠ (i : Int) + 1; omega⟩), he⟩
  · rcases put_mem.1 hm with rfl | ⟨hm, _⟩
    · show W[((i : Int) + 1 - 1).toNat]? = some u
      rw [show ((i : Int) + 1 - 1).toNat = i by omega, hu]
    · exact h.wt m hm
  · rcases put_mem.1 hm with rfl | ⟨hm, _⟩
    · exact ⟨rfl, rfl⟩
    · exact h.zero m hm
theorem Fair0.fair {W : List Int} {n : Nat} {L : List Mem} (h : Fair0 W n L) (hq : QB L 0) : FairR W (List.replicate n 0) n L := by
  refine ⟨h.ids, h.has, h.wt, fun m hm => ⟨0, ?_, ?_⟩, fun x hx y hy => ?_⟩
  · have := h.ids m hm
    rw [List.getElem?_replicate, if_pos (by omega)]
  · obtain ⟨e1, e2⟩ := h.zero m hm
    rw [e1, e2]; simp
  · have e1 := (h.zero x hx).1
    have e2 := (h.zero y hy).1
    have := hq.each x hx
    have : 0 ≤ 1048576 / x.wt := Int.ediv_nonneg (by omega) (by omega)
    omega
theorem div_tick {u r : Int} (h1 : 1 ≤ u) (h2 : 0 ≤ r) (h3 : r < u) : (1048576 * 1 + r) / u ≤ 1048576 / u + 1 := by
  have e1 := Int.mul_ediv_add_emod 1048576 u
  have e2 := Int.emod_lt_of_pos 1048576 (b := u) (by omega)
  have : (1048576 * 1 + r) / u < 1048576 / u + 2 := by
    apply Int.ediv_lt_of_lt_mul (by omega)
    have : (1048576 / u + 2) * u = u * (1048576 / u) + 2 * u := by rw [Int.add_mul, Int.mul_comm]
    omega
  omega
theorem fair_first {W R : List Int} {n : Nat} {x : Mem} {T : List Mem} {b : Int} {t : Nat} (hw : WQ (x :: T)) (hq : QB (x :: T) b) (h : FairR W R n (x :: T)) (ht : t < 255) (hR : ∀ r ∈ R, 0 ≤ r ∧ r ≤ t) :
    ∃ r, R[(x.id - 1).toNat]? = some r ∧ 0 ≤ r ∧ r ≤ t ∧ 1 ≤ x.id ∧ x.id ≤ n ∧
      runR (x :: T) b x.id 1 = (0, putM (ranM x 1) (x :: T), max b (firstV (putM (ranM x 1) (x :: T)))) ∧
      FairR W (R.set (x.id - 1).toNat (r + 1)) n (putM (ranM x 1) (x :: T)) := by
  have hx : x ∈ x :: T := by simp
  obtain ⟨b1, b2, b3, b4, b5, b6, b7, b8⟩ := hq.each x hx
  obtain ⟨r, hr, he⟩ := h.run x hx
  have hr2 := hR r (List.mem_of_getElem? hr)
  have hb0 := hq.b0
  have hid := h.ids x hx
  have hg : get (x :: T) x.id = some x := get_of hw hx
  have e1 := Int.mul_ediv_add_emod (1048576 * 1 + x.rem) x.wt
  have hrun : (ranM x 1).v * x.wt + (ranM x 1).rem = 1048576 * (r + 1) := by
    show (x.v + (1048576 * 1 + x.rem) / x.wt) * x.wt + (1048576 * 1 + x.rem) % x.wt = _
    rw [Int.add_mul, Int.mul_comm ((1048576 * 1 + x.rem) / x.wt)]
    omega
  obtain ⟨r1, r2, r3⟩ := ran_ok (m := x) (t := 1) b3 b5 (by omega)
  have hv : (ranM x 1).v ≤ 1048576 * (r + 1) := by
    have : (ranM x 1).v * 1 ≤ (ranM x 1).v * x.wt := Int.mul_le_mul_of_nonneg_left (by omega) (by omega)
    omega
  refine ⟨r, hr, hr2.1, hr2.2, hid.1, hid.2, ?_, ?_, fun j hj => ?_, fun m hm => ?_, fun m hm => ?_, ?_⟩
  · unfold runR
    rw [hg]
    dsimp only
    rw [if_neg (by omega), if_neg (by omega)]
  · intro m hm
    rcases put_mem.1 hm with rfl | ⟨hm, _⟩
    · exact hid
    · exact h.ids m hm
  · obtain ⟨m, hm, he⟩ := h.has j hj
    by_cases e : m.id = x.id
    · exact ⟨_, put_mem.2 (.inl rfl), e.symm.trans he⟩
    · exact ⟨m, put_mem.2 (.inr ⟨hm, e⟩), he⟩
  · rcases put_mem.1 hm with rfl | ⟨hm, _⟩
    · exact h.wt x hx
    · exact h.wt m hm
  · rcases put_mem.1 hm with rfl | ⟨hm, hne⟩
    · refine ⟨r + 1, ?_, hrun⟩
      obtain ⟨hl, _⟩ := List.getElem?_eq_some_iff.1 hr
      show (R.set (x.id - 1).toNat (r + 1))[(x.id - 1).toNat]? = _
      rw [List.getElem?_set_self hl]
    · obtain ⟨r', hr', he'⟩ := h.run m hm
      refine ⟨r', ?_, he'⟩
      have h1 := h.ids m hm
      have h2 : m.id ≠ x.id := hne
      rw [List.getElem?_set_ne (by omega)]
      exact hr'
  · have hfl : ∀ y ∈ x :: T, x.v ≤ y.v := fun y hy => first_le hw y hy
    have hd := div_tick b3 b5 b6
    intro y hy z hz
    rcases put_mem.1 hy with rfl | ⟨hy, hyn⟩
    · rcases put_mem.1 hz with rfl | ⟨hz, hzn⟩
      · have : 0 ≤ 1048576 / (ranM x 1).wt := Int.ediv_nonneg (by omega) (by show 0 ≤ x.wt; omega)
        omega
      · have := hfl z hz
        show x.v + (1048576 * 1 + x.rem) / x.wt - z.v ≤ 1048576 / x.wt + 1
        omega
    · rcases put_mem.1 hz with rfl | ⟨hz, hzn⟩
      · have := h.near y hy x hx
        omega
      · exact h.near y hy z hz
theorem set_bound {R : List Int} {i : Nat} {r t : Int} (h : ∀ x ∈ R, 0 ≤ x ∧ x ≤ t) (h0 : 0 ≤ r) (h1 : r ≤ t) : ∀ x ∈ R.set i (r + 1), 0 ≤ x ∧ x ≤ t + 1 := fun x hx => by
  rcases List.mem_or_eq_of_mem_set hx with h2 | rfl
  · have := h x h2; omega
  · omega
end Go.Proofs.Ytpgfenelckonoaa.QuM
namespace Go.Proofs.Ytpgfenelckonoaa.LaM
open Go.Proofs.Ytpgfenelckonoaa.ShM Go.Proofs.Ytpgfenelckonoaa.QuM Go.Proofs.Ytpgfenelckonoaa.La
set_option linter.unusedVariables false
theorem told_get (b : Int) (L : List Mem) (i : Nat) (m : Mem) (h : L[i]? = some m) : (told b L)[i]? = some { m with v := m.v - b } := by
  unfold told
  rw [List.getElem?_map, h]
  rfl
/-- Who has entered: c tasks in each of i groups, k in the next. -/
def Tsk (c i k : Nat) (x : Int) : Prop := ∃ a b : Nat, b < c ∧ x = 100 * ((a : Int) + 1) + b ∧ (a < i ∨ (a = i ∧ b < k))
theorem Tsk.next {c i k : Nat} (hk : k < c) (x : Int) : Tsk c i (k + 1) x ↔ x = 100 * ((i : Int) + 1) + k ∨ Tsk c i k x := by
  constructor
  · rintro ⟨a, b, h1, h2, h3⟩
    by_cases e : a = i ∧ b = k
    · obtain ⟨rfl, rfl⟩ := e; exact .inl h2
    · exact .inr ⟨a, b, h1, h2, by omega⟩
  · rintro (h | ⟨a, b, h1, h2, h3⟩)
    · exact ⟨i, k, hk, h, by omega⟩
    · exact ⟨a, b, h1, h2, by omega⟩
theorem Tsk.turn {c i : Nat} (x : Int) : Tsk c (i + 1) 0 x ↔ Tsk c i c x := by
  constructor
  · rintro ⟨a, b, h1, h2, h3⟩; exact ⟨a, b, h1, h2, by omega⟩
  · rintro ⟨a, b, h1, h2, h3⟩; exact ⟨a, b, h1, h2, by omega⟩
def Ng (i k : Nat) : Nat := if k = 0 then i else i + 1
/-- While the tasks enter. -/
structure En (W : List Int) (c i k : Nat) (S : LS) : Prop where
  wl : WL S
  fair : Fair0 W (Ng i k) (S.Q 0).1
  base : ∀ g, (S.Q g).2 = 0
  home : ∀ x g, S.home x = some g ↔ (g = 0 ∧ 1 ≤ x ∧ x ≤ Ng i k) ∨ (Tsk c i k x ∧ g = x / 100)
  tasks : ∀ x, x ∈ S.tasks ↔ Tsk c i k x
  zero : ∀ g, ∀ m ∈ (S.Q g).1, m.v = 0 ∧ m.rem = 0
  kept : ∀ g, S.kept g = none
theorem En.new (W : List Int) (c : Nat) : En W c 0 0 LS.new := by
  refine ⟨WL.new, Fair0.nil W, fun _ => rfl, fun x g => ?_, fun x => ?_, fun g m h => (by cases h), fun g => rfl⟩
  · constructor
    · intro h; cases h
    · rintro (⟨_, h1, h2⟩ | ⟨⟨a, b, _, _, h3⟩, _⟩)
      · simp [Ng] at h2; omega
      · omega
  · constructor
    · intro h; cases h
    · rintro ⟨a, b, _, _, h3⟩; omega
theorem En.turn {W : List Int} {c i : Nat} {S : LS} (h : En W c i c S) (hc : 0 < c) : En W c (i + 1) 0 S := by
  have e : Ng i c = Ng (i + 1) 0 := by unfold Ng; rw [if_neg (by omega), if_pos rfl]
  refine ⟨h.wl, e ▸ h.fair, h.base, fun x g => ?_, fun x => ?_, h.zero, h.kept⟩
  · rw [h.home, e, Tsk.turn]
  · rw [h.tasks, Tsk.turn]
theorem tsk_div {c i k : Nat} {x : Int} (hc : c ≤ 3) (h : Tsk c i k x) : 100 ≤ x ∧ ∃ a b : Nat, b < c ∧ x = 100 * ((a : Int) + 1) + b ∧ x / 100 = (a : Int) + 1 ∧ a ≤ i := by
  obtain ⟨a, b, h1, h2, h3⟩ := h
  exact ⟨by omega, a, b, h1, h2, by omega, by omega⟩
/-- A task enters by its group. -/
theorem En.step {W : List Int} {c i k : Nat} {S : LS} {u : Int} (h : En W c i k S) (hi : i < 6) (hc : c ≤ 3) (hk : k < c) (hu : W[i]? = some u) (h1 : 1 ≤ u) (h2 : u ≤ 1048576) :
    (enterS S [⟨(i : Int) + 1, u⟩] ⟨100 * ((i : Int) + 1) + k, (k : Int) + 1, 0, 0⟩).1 = 0 ∧ En W c i (k + 1) (enterS S [⟨(i : Int) + 1, u⟩] ⟨100 * ((i : Int) + 1) + k, (k : Int) + 1, 0, 0⟩).2 := by
  obtain ⟨x, hx⟩ : ∃ x : Int, x = 100 * ((i : Int) + 1) + k := ⟨_, rfl⟩
  obtain ⟨g, hg⟩ : ∃ g : Int, g = (i : Int) + 1 := ⟨_, rfl⟩
  rw [← hx, ← hg]
  have hnt : ¬ Tsk c i k x := by
    rintro ⟨a, b, e1, e2, e3⟩
    omega
  have hng : Ng i k ≤ i + 1 := by unfold Ng; split <;> omega
  have hgt : ¬ Tsk c i k g := fun ht => by have := (tsk_div hc ht).1; omega
  have hxh : S.home x = none := by
    cases hh : S.home x with
    | none => rfl
    | some j =>
      rcases (h.home x j).1 hh with ⟨_, e1, e2⟩ | ⟨e, _⟩
      · omega
      · exact absurd e hnt
  have hgh : S.home g = if k = 0 then none else some 0 := by
    split
    · rename_i h0
      cases hh : S.home g with
      | none => rfl
      | some j =>
        rcases (h.home g j).1 hh with ⟨_, e1, e2⟩ | ⟨e, _⟩
        · rw [Ng, if_pos h0] at e2; omega
        · exact absurd e hgt
    · rename_i h0
      exact (h.home g 0).2 (.inl ⟨rfl, by omega, by rw [Ng, if_neg h0]; omega⟩)
  have hnx : get (S.Q g).1 x = none := by
    cases hh : get (S.Q g).1 x with
    | none => rfl
    | some y => have := (h.wl.home x g).2 (by rw [hh]; rfl); rw [hxh] at this; cases this
  obtain ⟨m, hm⟩ : ∃ m : Mem, m = ⟨x, (k : Int) + 1, 0, 0⟩ := ⟨_, rfl⟩
  rw [← hm]
  have hmi : m.id = x := by rw [hm]
  have hc1 : joinC m (S.Q g).1 (S.Q g).2 = 0 := by
    unfold joinC
    rw [hm]
    dsimp only
    rw [if_neg (by omega), hnx, if_neg (by simp), if_neg (by rw [h.base]; omega)]
  have hj1 : joinS S g m = (0, { S with Q := upd S.Q g (joinL m (S.Q g).1 (S.Q g).2, (S.Q g).2), home := upd S.home x (some g) }) := by
    unfold joinS
    rw [if_pos hc1, hmi]
  have hL1 : ∀ y, y ∈ joinL m (S.Q g).1 (S.Q g).2 → y = m ∨ y ∈ (S.Q g).1 := by
    intro y hy
    unfold joinL at hy
    rw [if_pos hc1] at hy
    rcases put_mem.1 hy with e | ⟨e, _⟩
    · left; rw [e, h.base, hm]; rfl
    · exact .inr e
  have hgx : g ≠ x := by omega
  have hod : oddS S [⟨g, u⟩] m.id = false := by
    unfold oddS
    rw [hmi, hxh]
    unfold oddGo
    rw [if_neg]
    · rfl
    · rintro (e | e | e | ⟨e1, e2⟩)
      · have : g < 1 := e; omega
      · have : g = x := by simpa using e
        exact hgx this
      · exact hgt ((h.tasks g).1 e)
      · have e2 : S.home g ≠ some 0 := e2
        rw [hgh] at e2
        have e1 : (S.home g).isSome = true := e1
        rw [hgh] at e1
        split at e1
        · cases e1
        · rename_i h0; rw [if_neg h0] at e2; exact e2 rfl
  have hxt : m.id ∉ S.tasks := by rw [hmi, h.tasks]; exact hnt
  have wl2 := h.wl.enter [⟨g, u⟩] (by simp) m
  have hQg : (S.Q g).1 = [] ↔ k = 0 := by
    constructor
    · intro e
      by_cases h0 : k = 0
      · exact h0
      · have hf := h.wl.full g 0 (by rw [hgh, if_neg h0]) (by rw [h.tasks]; exact hgt)
        exact absurd e hf
    · intro h0
      cases hq : (S.Q g).1 with
      | nil => rfl
      | cons y L =>
        exfalso
        have hy : S.home y.id = some g := mem_home h.wl (by rw [hq]; simp)
        rcases (h.home y.id g).1 hy with ⟨e, _⟩ | ⟨ht, e⟩
        · omega
        · obtain ⟨a, b, t1, t2, t3⟩ := ht
          omega
  have hgo : ∃ S1 : LS, enterGo S [⟨g, u⟩] m = (0, S1) ∧ S1.tasks = S.tasks ∧ S1.kept = S.kept ∧ (∀ j, (S1.Q j).2 = 0) ∧ (∀ j, ∀ y ∈ (S1.Q j).1, y.v = 0 ∧ y.rem = 0) ∧
      (∀ y j, S1.home y = some j ↔ (y = x ∧ j = g) ∨ (y = g ∧ j = 0) ∨ (y ≠ x ∧ y ≠ g ∧ S.home y = some j)) ∧ Fair0 W (i + 1) (S1.Q 0).1 := by
    have hg0 : g ≠ 0 := by omega
    by_cases h0 : k = 0
    · have hks : memberS S ⟨g, u⟩ = ⟨g, u, 0, 0⟩ := by unfold memberS; dsimp only; rw [h.kept]
      obtain ⟨S2, hS2⟩ : ∃ S2, S2 = ({ S with Q := upd S.Q g (joinL m (S.Q g).1 (S.Q g).2, (S.Q g).2), home := upd S.home x (some g) } : LS) := ⟨_, rfl⟩
      have hQ0 : S2.Q 0 = S.Q 0 := by rw [hS2]; exact upd_ne _ _ (Ne.symm hg0)
      have hfr := h.fair
      rw [Ng, if_pos h0] at hfr
      obtain ⟨f1, f2⟩ := fair0_join hfr (by omega) hu h1 h2
      have hc2 : joinC ⟨g, u, 0, 0⟩ (S2.Q 0).1 (S2.Q 0).2 = 0 := by rw [hQ0, h.base, hg]; exact f1
      have hj2 : joinS S2 0 ⟨g, u, 0, 0⟩ = (0, { S2 with Q := upd S2.Q 0 (joinL ⟨g, u, 0, 0⟩ (S2.Q 0).1 (S2.Q 0).2, (S2.Q 0).2), home := upd S2.home g (some 0) }) := by
        unfold joinS
        rw [if_pos hc2]
      refine ⟨({ S2 with Q := upd S2.Q 0 (joinL ⟨g, u, 0, 0⟩ (S2.Q 0).1 (S2.Q 0).2, (S2.Q 0).2), home := upd S2.home g (some 0) } : LS), ?_, ?_, ?_, ?_, ?_, ?_, ?_⟩
      · show enterGo S [⟨g, u⟩] m = (0, { S2 with Q := upd S2.Q 0 (joinL ⟨g, u, 0, 0⟩ (S2.Q 0).1 (S2.Q 0).2, (S2.Q 0).2), home := upd S2.home g (some 0) })
        rw [enterGo, hj1, if_neg (by simp), if_pos (hQg.2 h0), hks, ← hS2]
        exact hj2
      · rw [hS2]
      · rw [hS2]
      · intro j
        show (upd S2.Q 0 _ j).2 = 0
        unfold upd
        split
        · rw [hQ0]; exact h.base 0
        · rw [hS2]
          show (upd S.Q g _ j).2 = 0
          unfold upd
          split
          · exact h.base g
          · exact h.base j
      · intro j y hy
        have hy : y ∈ (upd S2.Q 0 (joinL ⟨g, u, 0, 0⟩ (S2.Q 0).1 (S2.Q 0).2, (S2.Q 0).2) j).1 := hy
        unfold upd at hy
        split at hy
        · have hy : y ∈ joinL ⟨g, u, 0, 0⟩ (S2.Q 0).1 (S2.Q 0).2 := hy
          unfold joinL at hy
          rw [if_pos hc2] at hy
          rcases put_mem.1 hy with e | ⟨e, _⟩
          · rw [e, hQ0, h.base]; exact ⟨rfl, rfl⟩
          · rw [hQ0] at e; exact h.zero 0 y e
        · rw [hS2] at hy
          have hy : y ∈ (upd S.Q g (joinL m (S.Q g).1 (S.Q g).2, (S.Q g).2) j).1 := hy
          unfold upd at hy
          split at hy
          · rcases hL1 y hy with e | e
            · rw [e, hm]; exact ⟨rfl, rfl⟩
            · exact h.zero g y e
          · exact h.zero j y hy
      · intro y j
        show upd S2.home g (some 0) y = some j ↔ _
        have e2 : S2.home = upd S.home x (some g) := by rw [hS2]
        rw [e2]
        by_cases ey : y = g
        · subst ey
          rw [upd_at]
          constructor
          · intro e; cases e; exact .inr (.inl ⟨rfl, rfl⟩)
          · rintro (⟨e, _⟩ | ⟨_, e⟩ | ⟨_, e, _⟩)
            · exact absurd e hgx
            · rw [e]
            · exact absurd rfl e
        · rw [upd_ne _ _ ey]
          by_cases ex : y = x
          · subst ex
            rw [upd_at]
            constructor
            · intro e; cases e; exact .inl ⟨rfl, rfl⟩
            · rintro (⟨_, e⟩ | ⟨e, _⟩ | ⟨e, _⟩)
              · rw [e]
              · exact absurd e ey
              · exact absurd rfl e
          · rw [upd_ne _ _ ex]
            constructor
            · intro e; exact .inr (.inr ⟨ex, ey, e⟩)
            · rintro (⟨e, _⟩ | ⟨e, _⟩ | ⟨_, _, e⟩)
              · exact absurd e ex
              · exact absurd e ey
              · exact e
      · show Fair0 W (i + 1) (upd S2.Q 0 _ 0).1
        rw [upd_at, hQ0, h.base, hg]
        exact f2
    · refine ⟨({ S with Q := upd S.Q g (joinL m (S.Q g).1 (S.Q g).2, (S.Q g).2), home := upd S.home x (some g) } : LS), ?_, ?_, ?_, ?_, ?_, ?_, ?_⟩
      · show enterGo S [⟨g, u⟩] m = (0, { S with Q := upd S.Q g (joinL m (S.Q g).1 (S.Q g).2, (S.Q g).2), home := upd S.home x (some g) })
        rw [enterGo, hj1, if_neg (by simp), if_neg (fun e => h0 (hQg.1 e))]
      · rfl
      · rfl
      · intro j
        show (upd S.Q g _ j).2 = 0
        unfold upd
        split
        · exact h.base g
        · exact h.base j
      · intro j y hy
        have hy : y ∈ (upd S.Q g (joinL m (S.Q g).1 (S.Q g).2, (S.Q g).2) j).1 := hy
        unfold upd at hy
        split at hy
        · rcases hL1 y hy with e | e
          · rw [e, hm]; exact ⟨rfl, rfl⟩
          · exact h.zero g y e
        · exact h.zero j y hy
      · intro y j
        show upd S.home x (some g) y = some j ↔ _
        by_cases ex : y = x
        · subst ex
          rw [upd_at]
          constructor
          · intro e; cases e; exact .inl ⟨rfl, rfl⟩
          · rintro (⟨_, e⟩ | ⟨e, _⟩ | ⟨e, _⟩)
            · rw [e]
            · exact absurd e.symm hgx
            · exact absurd rfl e
        · rw [upd_ne _ _ ex]
          constructor
          · intro e
            by_cases ey : y = g
            · subst ey
              rw [hgh, if_neg h0] at e
              cases e
              exact .inr (.inl ⟨rfl, rfl⟩)
            · exact .inr (.inr ⟨ex, ey, e⟩)
          · rintro (⟨e, _⟩ | ⟨e, e'⟩ | ⟨_, _, e⟩)
            · exact absurd e ex
            · rw [e, e', hgh, if_neg h0]
            · exact e
      · show Fair0 W (i + 1) (upd S.Q g _ 0).1
        rw [upd_ne _ _ (Ne.symm hg0)]
        have := h.fair
        rw [Ng, if_neg h0] at this
        exact this
  obtain ⟨S1, g1, g2, g3, g4, g5, g6, g7⟩ := hgo
  have he : enterS S [⟨g, u⟩] m = (0, { S1 with tasks := insT m.id S1.tasks }) := by
    unfold enterS
    rw [if_neg hxt, hod, if_neg (by simp), g1, if_neg (by simp)]
  rw [he] at wl2 ⊢
  have hng' : Ng i (k + 1) = i + 1 := by unfold Ng; rw [if_neg (by omega)]
  refine ⟨rfl, wl2, ?_, g4, fun y j => ?_, fun y => ?_, g5, fun y => ?_⟩
  · rw [hng']; exact g7
  · show S1.home y = some j ↔ _
    rw [g6, hng', Tsk.next hk]
    constructor
    · rintro (⟨e1, e2⟩ | ⟨e1, e2⟩ | ⟨e1, e2, e3⟩)
      · exact .inr ⟨.inl (by rw [e1, hx]), by rw [e2, e1]; omega⟩
      · exact .inl ⟨e2, by omega, by omega⟩
      · rcases (h.home y j).1 e3 with ⟨f1, f2, f3⟩ | ⟨f1, f2⟩
        · exact .inl ⟨f1, f2, by omega⟩
        · exact .inr ⟨.inr f1, f2⟩
    · rintro (⟨f1, f2, f3⟩ | ⟨f1, f2⟩)
      · by_cases ey : y = g
        · exact .inr (.inl ⟨ey, f1⟩)
        · refine .inr (.inr ⟨by omega, ey, (h.home y j).2 (.inl ⟨f1, f2, ?_⟩)⟩)
          unfold Ng
          split <;> omega
      · rcases f1 with e | f1
        · exact .inl ⟨by rw [e, hx], by rw [f2, e]; omega⟩
        · have hyx : y ≠ x := fun e => hnt (e ▸ f1)
          have hyg : y ≠ g := fun e => hgt (e ▸ f1)
          exact .inr (.inr ⟨hyx, hyg, (h.home y j).2 (.inr ⟨f1, f2⟩)⟩)
  · show y ∈ insT m.id S1.tasks ↔ _
    rw [mem_insT, hmi, g2, h.tasks, Tsk.next hk, hx]
  · show S1.kept y = none
    rw [g3]; exact h.kept y
/-- While the tasks run: R: how often each group ran. -/
structure Rn (W R : List Int) (c N t : Nat) (S : LS) : Prop where
  wl : WL S
  fair : FairR W R N (S.Q 0).1
  home : ∀ x g, S.home x = some g ↔ (g = 0 ∧ 1 ≤ x ∧ x ≤ N) ∨ (Tsk c N 0 x ∧ g = x / 100)
  tasks : ∀ x, x ∈ S.tasks ↔ Tsk c N 0 x
  low : ∀ g, g ≠ 0 → ∀ m ∈ (S.Q g).1, m.v * m.wt + m.rem ≤ 1048576 * t
theorem En.run {W : List Int} {c N : Nat} {S : LS} (h : En W c N 0 S) : Rn W (List.replicate N 0) c N 0 S := by
  have e : Ng N 0 = N := rfl
  refine ⟨h.wl, (e ▸ h.fair).fair (by have := h.wl.qb 0; rw [h.base] at this; exact this), fun x g => ?_, h.tasks, fun g hg m hm => ?_⟩
  · rw [h.home, e]
  · obtain ⟨e1, e2⟩ := h.zero g m hm
    rw [e1, e2]
    simp
theorem ran_total {m : Mem} (h : 1 ≤ m.wt) : (ranM m 1).v * (ranM m 1).wt + (ranM m 1).rem = m.v * m.wt + m.rem + 1048576 := by
  have e1 := Int.mul_ediv_add_emod (1048576 * 1 + m.rem) m.wt
  show (m.v + (1048576 * 1 + m.rem) / m.wt) * m.wt + (1048576 * 1 + m.rem) % m.wt = _
  rw [Int.add_mul, Int.mul_comm ((1048576 * 1 + m.rem) / m.wt)]
  omega
theorem total_le {m : Mem} {b : Int} (h : 1 ≤ m.wt) (h0 : 0 ≤ m.v) (hr : 0 ≤ m.rem) (ht : m.v * m.wt + m.rem ≤ b) : m.v ≤ b := by
  have : m.v * 1 ≤ m.v * m.wt := Int.mul_le_mul_of_nonneg_left h h0
  omega
/-- A tick: the first group's first task runs. -/
theorem Rn.step {W R : List Int} {c N t : Nat} {S : LS} (h : Rn W R c N t S) (hN : 0 < N) (hN6 : N ≤ 6) (hc : c ≤ 3) (ht : t < 255) (hR : ∀ r ∈ R, 0 ≤ r ∧ r ≤ t) :
    ∃ (a b : Nat) (r : Int), a < N ∧ b < c ∧ pickS S [] = 100 * ((a : Int) + 1) + b ∧ R[a]? = some r ∧ 0 ≤ r ∧ r ≤ t ∧
      (runS S (100 * ((a : Int) + 1) + b)).1 = 0 ∧ Rn W (R.set a (r + 1)) c N (t + 1) (runS S (100 * ((a : Int) + 1) + b)).2 := by
  have hnt : ∀ y : Int, y < 100 → y ∉ S.tasks := fun y hy hm => by have := (tsk_div hc ((h.tasks y).1 hm)).1; omega
  obtain ⟨y0, T0, hq0⟩ : ∃ y T, (S.Q 0).1 = y :: T := by
    obtain ⟨m, hm, _⟩ := h.fair.has 0 hN
    cases hq : (S.Q 0).1 with
    | nil => rw [hq] at hm; cases hm
    | cons y T => exact ⟨y, T, rfl⟩
  have hy0 : y0 ∈ (S.Q 0).1 := by rw [hq0]; simp
  have hyi := h.fair.ids y0 hy0
  obtain ⟨a, ha⟩ : ∃ a : Nat, y0.id = (a : Int) + 1 := ⟨(y0.id - 1).toNat, by omega⟩
  have haN : a < N := by omega
  have hyh := mem_home h.wl hy0
  have hyt : y0.id ∉ S.tasks := hnt _ (by omega)
  have hfu := h.wl.full y0.id 0 hyh hyt
  obtain ⟨z0, T1, hq1⟩ : ∃ y T, (S.Q y0.id).1 = y :: T := by
    cases hq : (S.Q y0.id).1 with
    | nil => exact absurd hq hfu
    | cons y T => exact ⟨y, T, rfl⟩
  have hz0 : z0 ∈ (S.Q y0.id).1 := by rw [hq1]; simp
  have hzh := mem_home h.wl hz0
  have hzt : Tsk c N 0 z0.id ∧ y0.id = z0.id / 100 := by
    rcases (h.home z0.id y0.id).1 hzh with ⟨e, _⟩ | e
    · omega
    · exact e
  obtain ⟨a', b, k1, k2, k3⟩ := hzt.1
  obtain rfl : a' = a := by omega
  have hzT : z0.id ∈ S.tasks := (h.tasks _).2 hzt.1
  have hpick : pickS S [] = z0.id := by
    unfold pickS
    rw [nextF, hq0, nextF.go, if_neg hyt, if_neg (by simp)]
    have hn : nextF S [] 15 y0.id = z0.id := by rw [nextF, hq1, nextF.go, if_pos hzT]
    rw [hn, if_pos (by omega)]
  have hqb0 := h.wl.qb 0
  have hw0 := h.wl.wq 0
  rw [hq0] at hqb0 hw0
  have hf0 := h.fair
  rw [hq0] at hf0
  obtain ⟨r, r1, r2, r3, r4, r5, r6, r7⟩ := fair_first hw0 hqb0 hf0 ht hR
  have e1 : (y0.id - 1).toNat = a' := by omega
  rw [e1] at r1 r7
  have hqb1 := h.wl.qb y0.id
  have hw1 := h.wl.wq y0.id
  obtain ⟨b1, b2, b3, b4, b5, b6, b7, b8⟩ := hqb1.each z0 hz0
  have hb0 := hqb1.b0
  have hg1 : get (S.Q y0.id).1 z0.id = some z0 := get_of hw1 hz0
  have hy00 : y0.id ≠ 0 := by omega
  have htot := ran_total (m := z0) b3
  have hlow := h.low y0.id hy00 z0 hz0
  obtain ⟨o1, o2, o3⟩ := ran_ok (m := z0) (t := 1) b3 b5 (by omega)
  have hv1 : (ranM z0 1).v ≤ 1048576 * ((t : Int) + 1) := total_le (m := ranM z0 1) b3 (by omega) o2 (by omega)
  have hrun1 : runR (S.Q y0.id).1 (S.Q y0.id).2 z0.id 1 = (0, putM (ranM z0 1) (S.Q y0.id).1, max (S.Q y0.id).2 (firstV (putM (ranM z0 1) (S.Q y0.id).1))) := by
    unfold runR
    rw [hg1]
    dsimp only
    rw [if_neg (by omega), if_neg (by omega)]
  obtain ⟨q1, q2, q3, q4, q5, q6, q7, q8⟩ := hqb0.each y0 (by simp)
  have hq0b := hqb0.b0
  obtain ⟨p1, p2, p3⟩ := ran_ok (m := y0) (t := 1) q3 q5 (by omega)
  obtain ⟨r', s1, s2⟩ := hf0.run y0 (by simp)
  rw [e1, r1] at s1
  cases s1
  have htot0 := ran_total (m := y0) q3
  have hv0 : (ranM y0 1).v ≤ 1048576 * ((t : Int) + 1) := total_le (m := ranM y0 1) q3 (by omega) p2 (by omega)
  have hway : wayS S z0.id = [y0.id] := by
    unfold wayS
    rw [wayF, hzh]
    dsimp only
    rw [if_neg hy00, wayF, hyh]
    rfl
  have hg0 : get (S.Q 0).1 y0.id = some y0 := get_of (h.wl.wq 0) hy0
  have hfar : ((z0.id :: wayS S z0.id).any (farS S)) = false := by
    rw [hway]
    have f1 : farS S z0.id = false := by
      unfold farS
      rw [hzh]
      show (match get (S.Q y0.id).1 z0.id with | none => false | some m => decide (2305843009213693952 < (ranM m 1).v)) = false
      rw [hg1]
      exact decide_eq_false (by omega)
    have f2 : farS S y0.id = false := by
      unfold farS
      rw [hyh]
      show (match get (S.Q 0).1 y0.id with | none => false | some m => decide (2305843009213693952 < (ranM m 1).v)) = false
      rw [hg0]
      exact decide_eq_false (by omega)
    simp [f1, f2]
  have hrunS : runS S z0.id = (0, run1 (run1 S z0.id) y0.id) := by
    unfold runS
    rw [if_pos hzT, hfar, if_neg (by simp), hway]
    rfl
  have wlr := h.wl.run z0.id
  rw [hrunS] at wlr
  have hQ : ∀ j, (run1 (run1 S z0.id) y0.id).Q j = if j = 0 then (putM (ranM y0 1) (S.Q 0).1, max (S.Q 0).2 (firstV (putM (ranM y0 1) (S.Q 0).1))) else if j = y0.id then (putM (ranM z0 1) (S.Q y0.id).1, max (S.Q y0.id).2 (firstV (putM (ranM z0 1) (S.Q y0.id).1))) else S.Q j := by
    intro j
    have d1 : ∀ j, (run1 S z0.id).Q j = if j = y0.id then (putM (ranM z0 1) (S.Q y0.id).1, max (S.Q y0.id).2 (firstV (putM (ranM z0 1) (S.Q y0.id).1))) else S.Q j := by
      intro j
      show upd S.Q ((S.home z0.id).getD 0) _ j = _
      rw [hzh]
      show upd S.Q y0.id (runR (S.Q y0.id).1 (S.Q y0.id).2 z0.id 1).2 j = _
      rw [hrun1]
      rfl
    show upd (run1 S z0.id).Q (((run1 S z0.id).home y0.id).getD 0) _ j = _
    rw [show (run1 S z0.id).home y0.id = some 0 from hyh]
    show upd (run1 S z0.id).Q 0 (runR ((run1 S z0.id).Q 0).1 ((run1 S z0.id).Q 0).2 y0.id 1).2 j = _
    have d0 : (run1 S z0.id).Q 0 = S.Q 0 := by rw [d1, if_neg (Ne.symm hy00)]
    rw [d0]
    have r6' : runR (S.Q 0).1 (S.Q 0).2 y0.id 1 = (0, putM (ranM y0 1) (S.Q 0).1, max (S.Q 0).2 (firstV (putM (ranM y0 1) (S.Q 0).1))) := by rw [hq0]; exact r6
    rw [r6']
    unfold upd
    split
    · rfl
    · exact d1 j
  refine ⟨a', b, r, haN, k1, by rw [hpick]; exact k2, r1, r2, r3, ?_⟩
  rw [← k2, hrunS]
  refine ⟨rfl, wlr, ?_, fun y j => h.home y j, fun y => h.tasks y, fun j hj m hm => ?_⟩
  · rw [hQ, if_pos rfl, hq0]; exact r7
  · rw [hQ, if_neg hj] at hm
    split at hm
    · rcases put_mem.1 hm with e | ⟨e, _⟩
      · rw [e, htot]; omega
      · rename_i ej
        have := h.low y0.id hy00 m e
        omega
    · have := h.low j hj m hm
      omega
/-- A group is as far as its ticks, by its weight. -/
theorem Rn.share {W R : List Int} {c N t : Nat} {S : LS} (h : Rn W R c N t S) {i : Nat} (hi : i < N) : ∃ (m : Mem) (r : Int), S.home ((i : Int) + 1) = some 0 ∧ memS S 0 ((i : Int) + 1) = { m with v := m.v - (S.Q 0).2 } ∧ m ∈ (S.Q 0).1 ∧ m.id = (i : Int) + 1 ∧ R[i]? = some r ∧ m.v * m.wt + m.rem = 1048576 * r := by
  obtain ⟨m, hm, hmi⟩ := h.fair.has i hi
  obtain ⟨r, hr, he⟩ := h.fair.run m hm
  have e1 : (m.id - 1).toNat = i := by omega
  rw [e1] at hr
  refine ⟨m, r, ?_, ?_, hm, hmi, hr, he⟩
  · have := mem_home h.wl hm
    rw [hmi] at this
    exact this
  · unfold memS
    rw [← hmi, get_of (h.wl.wq 0) hm]
end Go.Proofs.Ytpgfenelckonoaa.LaM
namespace Go.Proofs.Ytpgfenelckonoaa.La
open Go.RowKit Go.Proofs.Ytpgfenelckonoaa.Kit Go.Proofs.Ytpgfenelckonoaa.ShM Go.Proofs.Ytpgfenelckonoaa.Sh Go.Proofs.Ytpgfenelckonoaa.QuM Go.Proofs.Ytpgfenelckonoaa.Qu Go.Proofs.Ytpgfenelckonoaa.LaM
open Go.Proofs.Ytpgfenelckonoaa.Ki (Row row_nil row_of iv iv_len iv_one)
set_option linter.unusedVariables false
set_option linter.unusedSimpArgs false
def Sk (w1 w : World) (lp : Nat) (S : LS) (n g : Nat) (R : List Int) : Prop :=
  ∃ F : Nat → Prop, LF F w lp S n ∧ (∀ k, F k → w1.heap.size ≤ k) ∧ Below w1.heap.size w1 w ∧ w.heap[g]? = some (.cells (R.map (Value.int .i64)).toArray 3 (0, 0)) ∧ ¬ F g ∧ w1.heap.size ≤ g
section
variable {w1 w w' : World} {lp g n : Nat} {R : List Int} {S : LS}
theorem Sk.get (h : Sk w1 w lp S n g R) : ∃ F, LF F w lp S n := by
  obtain ⟨F, h1, _⟩ := h
  exact ⟨F, h1⟩
theorem Sk.to (h : Sk w1 w lp S n g R) : Below w1.heap.size w1 w := by
  obtain ⟨F, h1, h2, h3, _⟩ := h
  exact h3
theorem Sk.blk (h : Sk w1 w lp S n g R) : w.heap[g]? = some (.cells (R.map (Value.int .i64)).toArray 3 (0, 0)) := by
  obtain ⟨F, h1, h2, h3, h4, _⟩ := h
  exact h4
theorem Sk.cell (h : Sk w1 w lp S n g R) {i : Nat} {r : Int} (hr : R[i]? = some r) : w.cell? ⟨g, i, none⟩ = some (.int .i64 r) := by
  rw [blk_cell h.blk]
  simp [hr]
theorem Sk.below (h : Sk w1 w lp S n g R) (hb : Below w.heap.size w w') : Sk w1 w' lp S n g R := by
  obtain ⟨F, h1, h2, h3, h4, h5, h6⟩ := h
  exact ⟨F, h1.below hb, h2, h3.trans (hb.mono h3.size), blk_below h4 hb, h5, h6⟩
theorem Sk.set (h : Sk w1 w lp S n g R) (i : Nat) (r : Int) : Sk w1 (w.setCell ⟨g, i, none⟩ (.int .i64 r)) lp S n g (R.set i r) := by
  obtain ⟨F, h1, h2, h3, h4, h5, h6⟩ := h
  refine ⟨F, h1.same fun k hk => Below.heap_setCell _ _ _ _ (fun e => h5 (by rw [← show k = g from e]; exact hk)), h2, h3.setCell h6 _, ?_, h5, h6⟩
  exact blk_put h4 i _ (by simp [List.map_set])
theorem Sk.op (h : Sk w1 w lp S n g R) : ∃ F, LF F w lp S n ∧ ∀ w' S' n', Ln w F w' lp S' n' → Sk w1 w' lp S' n' g R := by
  obtain ⟨F, h1, h2, h3, h4, h5, h6⟩ := h
  refine ⟨F, h1, fun w' S' n' hl => ?_⟩
  obtain ⟨F', g1, g2, g3⟩ := hl
  have hg := blk_lt h4
  refine ⟨F', g1, fun k hk => ?_, ?_, (g3.block g hg h5).trans h4, fun hf => ?_, h6⟩
  · rcases g2 k hk with hk | hk
    · exact h2 k hk
    · exact Nat.le_trans h3.size hk
  · exact ⟨g3.os.trans h3.os, g3.tape.trans h3.tape, g3.output.trans h3.output, Nat.le_trans h3.size g3.size, fun x hx => (g3.block x (Nat.lt_of_lt_of_le hx h3.size) (fun hf => by have := h2 x hf; omega)).trans (h3.block x hx)⟩
  · rcases g2 g hf with hk | hk
    · exact h5 hk
    · omega
variable {F : Nat → Prop}
theorem base_full (g : Int) (h : LF F w lp S n) (hg : int64 g) (hq : (S.Q g).1 ≠ []) :
    Calls Try.prog 15 #[.pointer (some ⟨lp, 0, none⟩), .int .i64 g] w fun e w' => e = .returned (.int .i64 (S.Q g).2) ∧ Below w.heap.size w w' := by
  have HOF := Kit.hid (of_full g h hq hg)
  clear h hq
  go_enter Try.func15, Try.ntmps15
  go_wp2_with fail
  (with_reducible refine HOF.out.mono ?_); rintro e w2 ⟨p, rfl, rfl, G, q1, q2, q3, q4, q5, q8⟩
  have HA := Kit.hid (base_any q1)
  clear q1 q2 q3 q4 q5 q8 HOF
  go_wp2_with fail
  (with_reducible refine HA.out.mono ?_); rintro e w3 ⟨rfl, hb3⟩
  have H6 := Kit.hid hb3
  clear hb3 HA
  go_wp2
  go_ret
  exact ⟨rfl, H6.out⟩
end
end Go.Proofs.Ytpgfenelckonoaa.La
namespace Go.Proofs.Ytpgfenelckonoaa.La
open Go.RowKit Go.Proofs.Ytpgfenelckonoaa.Kit Go.Proofs.Ytpgfenelckonoaa.ShM Go.Proofs.Ytpgfenelckonoaa.Sh Go.Proofs.Ytpgfenelckonoaa.QuM Go.Proofs.Ytpgfenelckonoaa.Qu Go.Proofs.Ytpgfenelckonoaa.LaM
open Go.Proofs.Ytpgfenelckonoaa.Ki (Row row_nil row_of iv iv_len iv_one)
set_option linter.unusedVariables false
set_option linter.unusedSimpArgs false
set_option maxRecDepth 40000 in
set_option maxHeartbeats 6400000 in
theorem sharesLaw_any (A : Option Addr) (l : List Int) (ca : Nat) (tk ti : Int) (w : World) (hr : Hid (Ints .u32 w A l)) (hl : l.length ≤ 9223372036854775807) (hu : ∀ x ∈ l, 0 ≤ x ∧ x ≤ 4294967295) (ht0 : 0 ≤ tk) (ht1 : tk ≤ 255) (hi0 : 0 ≤ ti) (hi1 : ti ≤ 255) :
    Calls Try.prog 3 #[.slice A l.length ca, .int .u8 tk, .int .u8 ti] w fun e w' => e = .returned (.bool true) ∧ Below w.heap.size w w' := by
  have HAW := Kit.hid (awake_lane w)
  obtain ⟨tn, rfl⟩ := Int.eq_ofNat_of_zero_le ht0
  obtain ⟨sq, rfl⟩ := Int.eq_ofNat_of_zero_le hi0
  clear ht0 hi0
  go_enter Try.func3, Try.ntmps3
  go_wp2_with fail
  (with_reducible refine HAW.out.mono ?_); rintro e w1 ⟨rfl, hd1⟩
  have HB1 := Kit.hid hd1
  have HR1 := ints_below hr hd1
  clear hd1 HAW hr
  by_cases hbig : 6 < l.length
  · have g1 : (6 : Int) < (l.length : Int) := by omega
    clear hbig
    go_wp2
    go_ret
    exact ⟨rfl, HB1.out⟩
  have g1 : ¬ (6 : Int) < (l.length : Int) := by omega
  by_cases hnil : l.length = 0
  · have g2 : (l.length : Int) = 0 := by omega
    clear hbig
    go_wp2
    go_ret
    exact ⟨rfl, HB1.out⟩
  have g2 : ((l.length : Int) == 0) = false := beq_eq_false_iff_ne.2 (by omega)
  have g3 : decide ((6 : Int) < (l.length : Int)) = false := decide_eq_false g1
  have hll : l.length ≤ 6 := by omega
  clear hbig hl
  have HN := Kit.hid (new_lane w1)
  go_wp2_with fail
  (with_reducible refine HN.out.mono ?_); rintro e w2 ⟨lp, rfl, hl2, _⟩
  have HD2 := Kit.hid (Bye.of_ln hl2)
  clear hl2 HN
  obtain ⟨Ws, hWs⟩ : ∃ Ws, Ws = l.map (fun x => 1 + x % 1048576) := ⟨_, rfl⟩
  have HWS := Kit.hid hWs
  have HU := Kit.hid hu
  obtain ⟨r3, hr3⟩ : ∃ r3, r3 = tn % 3 := ⟨_, rfl⟩
  have hrem : Int.tmod (tn : Int) 3 = (r3 : Int) := by rw [hr3, Int.tmod_eq_emod_of_nonneg (by omega)]; simp
  have hrem' : (tn : Int) % 3 = (r3 : Int) := by rw [hr3]; simp
  have hr32 : r3 ≤ 2 := by rw [hr3]; omega
  obtain ⟨sn, hsn⟩ : ∃ sn, sn = sq % 121 := ⟨_, rfl⟩
  have hsem : Int.tmod (sq : Int) 121 = (sn : Int) := by rw [hsn, Int.tmod_eq_emod_of_nonneg (by omega)]; simp
  have hsem' : (sq : Int) % 121 = (sn : Int) := by rw [hsn]; simp
  have hsn2 : sn ≤ 120 := by rw [hsn]; omega
  clear hWs hu hr3 hsn
  go_wp2_with fail
  go_loopw [10] (fun v10 wr => ∃ (i : Nat) (S : LS) (n : Nat), i ≤ l.length ∧ v10 = .int .i64 i ∧ 1 ≤ n ∧ n ≤ 1 + 180 * i ∧ Hid (En Ws (r3 + 1) i 0 S) ∧ Hid (Bye w1 wr lp S n (fun _ => False))) (fun i _ => l.length - (intOf i).toNat)
  case atStart => exact ⟨0, LS.new, 1, by omega, rfl, by omega, by omega, Kit.hid (En.new _ _), HD2⟩
  case round =>
    obtain ⟨i, S, n, hi, rfl, hn1, hn2, HE, HD⟩ := hrel
    by_cases hlt : i < l.length
    · obtain ⟨x, hx⟩ : ∃ x, l[i]? = some x := ⟨_, List.getElem?_eq_getElem hlt⟩
      have HX := Kit.hid hx
      have hil : (i : Int) < (l.length : Int) := by omega
      clear hx
      go_wp2_with fail
      go_loopw [11] (fun v11 wr => ∃ (k : Nat) (S : LS) (n : Nat), k ≤ r3 + 1 ∧ v11 = .int .i64 k ∧ 1 ≤ n ∧ n ≤ 1 + 180 * i + 60 * k ∧ Hid (En Ws (r3 + 1) i k S) ∧ Hid (Bye w1 wr lp S n (fun _ => False))) (fun k _ => r3 + 1 - (intOf k).toNat)
      case atStart => exact ⟨0, S, n, by omega, rfl, hn1, by omega, HE, HD⟩
      case round =>
        clear HE HD hn1 hn2 n S
        obtain ⟨k, S, n, hk, rfl, hn1, hn2, HE, HD⟩ := hrel
        by_cases hkt : k < r3 + 1
        · obtain ⟨ad, hA, c0⟩ := (ints_below HR1 HD.out.bel).out i hlt
          rw [show l[i] = x from Option.some.inj ((List.getElem?_eq_getElem hlt).symm.trans HX.out)] at c0
          subst hA
          obtain ⟨u, hu⟩ : ∃ u, u = x % 1048576 := ⟨_, rfl⟩
          have hu0 := Int.emod_nonneg x (b := 1048576) (by omega)
          have hu1 := Int.emod_lt_of_pos x (b := 1048576) (by omega)
          rw [← hu] at hu0 hu1
          have eu : x % 1048576 = u := hu.symm
          have hx2 := HU.out x (List.mem_of_getElem? HX.out)
          obtain ⟨hx3, hx4⟩ := hx2
          have hwu : Ws[i]? = some (1 + u) := by rw [HWS.out, List.getElem?_map, HX.out, hu]; rfl
          obtain ⟨es1, es2⟩ := HE.out.step (by omega) (by omega) hkt hwu (by omega) (by omega)
          have hba : Below wr.heap.size wr (wr.alloc (.cells #[.int .i64 ((i : Int) + 1), .int .i64 (1 + u)] 30)) := (Below.refl _ _).alloc (Nat.le_refl _) _
          have hda := HD.out.add hba (.slice (some ⟨wr.heap.size, 0, none⟩) 1 1) (fun k hk => by cases hk; exact ⟨Nat.le_refl _, by simp⟩)
          obtain ⟨G, a1, a2, a3, a4⟩ := hda.lane2
          have hen := enter_lane (some ⟨wr.heap.size, 0, none⟩) [⟨(i : Int) + 1, 1 + u⟩] 1 ⟨100 * ((i : Int) + 1) + k, (k : Int) + 1, 0, 0⟩ a1 HE.out.wl (step_lit _ _ ⟨by omega, by omega⟩) (fun _ a ha => by cases ha; exact a3 _ (.inr rfl)) (by simp) (by simp) hn1 (by omega) ⟨by show _ ≤ 100 * ((i : Int) + 1) + k; omega, by show 100 * ((i : Int) + 1) + k ≤ _; omega⟩
          rw [es1, List.length_singleton] at hen
          have HEN := Kit.hid hen
          have HL := Kit.hid a4
          have HE2 := Kit.hid es2
          have hki : (k : Int) < 1 + (r3 : Int) := by omega
          have hki' : (k : Int) < (r3 : Int) + 1 := by omega
          have z1 : (0 : Int) ≤ (i : Int) := by omega
          generalize (enterS S [⟨(i : Int) + 1, 1 + u⟩] ⟨100 * ((i : Int) + 1) + k, (k : Int) + 1, 0, 0⟩).2 = S2 at HE2 HEN
          clear hu hwu es1 es2 hba hda a1 a2 a3 a4 hen HE
          go_wp2_with fail
          (with_reducible refine HEN.out.mono ?_); rintro e w3 ⟨rfl, hl3⟩
          have HD3 := Kit.hid ((HL.out _ _ _ hl3).1.less (K' := fun _ => False) fun k hk => hk.elim)
          clear hl3 HEN HL HD c0
          go_wp2_with fail
          go_roundw
          case rel => exact ⟨k + 1, S2, n + 60, by omega, by go_num, by omega, by omega, HE2, HD3⟩
          case measure => simp [intOf]; omega
        · obtain rfl : k = r3 + 1 := by omega
          have HE3 := Kit.hid (HE.out.turn (Nat.succ_pos _))
          have hki : ¬ ((r3 + 1 : Nat) : Int) < 1 + (r3 : Int) := by omega
          go_wp2_with fail
          go_roundw
          case rel => exact ⟨i + 1, S, n, by omega, by go_num, hn1, by omega, HE3, HD⟩
          case measure => simp [intOf]; omega
    · obtain rfl : i = l.length := by omega
      have HF2 := Kit.hid HE.out.run
      obtain ⟨len, hlen⟩ : ∃ len, len = l.length := ⟨_, rfl⟩
      rw [← hlen] at HF2 hll hnil g1 g2 g3 hn2 ⊢
      have HLEN := Kit.hid hlen
      clear HE hlt hi hlen
      have hmk := run_make_row' (P := Try.prog) 36 3 (.int .i64 0) 8 Try.underlying36 infoI rfl .i64 .i64 len (by omega) (by omega)
      go_wp2_with fail
      have hT0 : Sk w1 (wr.alloc (.cells (madeCells #[.int .i64 0] len) 3)) lp S n wr.heap.size (List.replicate len 0) := by
        obtain ⟨⟨F, h1, h2, _⟩, hb⟩ := HD.out
        have ha : Below wr.heap.size wr (wr.alloc (.cells (madeCells #[.int .i64 0] len) 3)) := (Below.refl _ _).alloc (Nat.le_refl _) _
        refine ⟨F, h1.below ha, h2, hb.alloc hb.size _, ?_, fun hf => Nat.lt_irrefl _ (h1.lt _ hf), hb.size⟩
        rw [blk_new]
        congr 2
        apply Array.ext
        · simp [madeCells]
        · intro i h1 h2; simp [madeCells, Nat.mod_one]
      have HT := Kit.hid hT0
      clear hT0 HD
      generalize wr.alloc (.cells (madeCells #[.int .i64 0] len) 3) = w0 at HT ⊢
      obtain ⟨g, hg⟩ : ∃ g, g = wr.heap.size := ⟨_, rfl⟩
      rw [← hg] at HT ⊢
      clear hg
      have HRL : Hid ((List.replicate len (0 : Int)).length = len) := Kit.hid List.length_replicate
      have HRB : Hid (∀ r ∈ List.replicate len (0 : Int), 0 ≤ r ∧ r ≤ ((0 : Nat) : Int)) := Kit.hid (fun r h => by rw [List.eq_of_mem_replicate h]; exact ⟨Int.le_refl _, Int.le_refl _⟩)
      generalize List.replicate len (0 : Int) = R at HT HRL HRB HF2
      have HLE : Hid (1 ≤ len ∧ len ≤ 6 ∧ sn ≤ 120 ∧ r3 ≤ 2) := Kit.hid ⟨by omega, hll, hsn2, hr32⟩
      have hn3 : n ≤ 1081 := by omega
      clear hn2
      go_wp2_with fail
      go_loopw [14] (fun v14 wr => ∃ (t : Nat) (R : List Int) (S : LS) (n : Nat), t ≤ sn ∧ v14 = .int .i64 t ∧ 1 ≤ n ∧ n ≤ 1081 + 21 * t ∧ Hid (R.length = len) ∧ Hid (∀ r ∈ R, 0 ≤ r ∧ r ≤ (t : Int)) ∧ Hid (Rn Ws R (r3 + 1) len t S) ∧ Hid (Sk w1 wr lp S n g R)) (fun t _ => sn - (intOf t).toNat)
      case atStart => exact ⟨0, R, S, n, by omega, rfl, hn1, by omega, HRL, HRB, HF2, HT⟩
      case round =>
        clear HRL HRB HF2 HT hn3 hn1 n S R
        obtain ⟨t, R, S, n, ht, rfl, hn1, hn2, HRL, HRB, HF, HT⟩ := hrel
        by_cases hlt : t < sn
        · obtain ⟨a, b, r, ha, hb, hpk, hr, hr0, hr1, hrs1, hrs2⟩ := HF.out.step (by omega) (by omega) (by omega) (by omega) HRB.out
          obtain ⟨x, hx⟩ : ∃ x : Int, x = 100 * ((a : Int) + 1) + b := ⟨_, rfl⟩
          rw [← hx] at hpk hrs1 hrs2
          have x1 : decide (x < 100) = false := decide_eq_false (by omega)
          have x2 : Int.tdiv x 100 = (a : Int) + 1 := by rw [Int.tdiv_eq_ediv_of_nonneg (by omega)]; omega
          have x2' : x / 100 = (a : Int) + 1 := by omega
          have x3 : decide ((len : Int) < (a : Int) + 1) = false := decide_eq_false (by omega)
          have hxi : int64 x := ⟨by omega, by omega⟩
          obtain ⟨F1, f1, f2⟩ := HT.out.op
          have HPK := Kit.hid (pick_lane none [] 0 f1 HF.out.wl hn1 (by omega) (fun i hi => nomatch hi) (fun h => absurd rfl h) (by simp))
          rw [hpk, List.length_nil] at HPK
          have HL1 := Kit.hid f2
          have HXI := Kit.hid hxi
          have HHR := Kit.hid hr
          have HR1' := Kit.hid hrs1
          have HR2' := Kit.hid hrs2
          have haL : (a : Int) < (len : Int) := by omega
          have ha6 : (a : Int) ≤ 6 := by omega
          have hr5 : r ≤ 255 := by omega
          have htsn : (t : Int) < (sn : Int) := by omega
          have hx600 : x ≤ 1000 := by omega
          have hx100 : 100 ≤ x := by omega
          clear f1 f2 hpk hr hrs1 hrs2 hxi hx HT
          go_wp2_with fail
          (with_reducible refine HPK.out.mono ?_); rintro e w3 ⟨rfl, hl3⟩
          have HT3 := Kit.hid (HL1.out _ _ _ hl3)
          obtain ⟨F3, f3, f4⟩ := HT3.out.op
          have HRU := Kit.hid (run_lane x f3 HF.out.wl (by omega) (by omega) HXI.out)
          rw [HR1'.out] at HRU
          have HL3 := Kit.hid f4
          obtain ⟨S2, hS2⟩ : ∃ S2, S2 = (runS S x).2 := ⟨_, rfl⟩
          rw [← hS2] at HRU HR2'
          clear hl3 f3 f4 hS2 HPK HL1
          go_wp2_with fail
          (with_reducible refine HRU.out.mono ?_); rintro e w4 ⟨rfl, hl4⟩
          have HT4 := Kit.hid (HL3.out _ _ _ hl4)
          have cr := HT4.out.cell HHR.out
          have fr := blk_frozen HT4.out.blk a
          have gl := blk_lt HT4.out.blk
          have HTS := Kit.hid (HT4.out.set a (r + 1))
          have HRS := Kit.hid (set_bound (i := a) HRB.out hr0 hr1)
          have hfu : (S2.Q 0).1 ≠ [] := by
            obtain ⟨m, hm, _⟩ := HR2'.out.fair.has 0 (by have := HLE.out; omega)
            intro e; rw [e] at hm; cases hm
          obtain ⟨F5, f5⟩ := HTS.out.get
          have HQF := Kit.hid (queue_full 0 f5 (by omega) ⟨by omega, by omega⟩ hfu)
          have HQN := Kit.hid (f5.qn 0)
          clear hl4 HRU HL3 f5 hfu
          go_wp2_with fail
          (with_reducible refine HQF.out.mono ?_); rintro e w6 ⟨vb, rfl, hvb, hb6⟩
          obtain ⟨A6, c6, rfl, hc6, _, _⟩ := own_readsS (by decide) hvb
          obtain ⟨M, hM⟩ : ∃ M, M = (S2.Q 0).1 := ⟨_, rfl⟩
          obtain ⟨b5, hb5⟩ : ∃ b5, b5 = (S2.Q 0).2 := ⟨_, rfl⟩
          rw [← hM, ← hb5] at hc6
          rw [← hM] at HQN
          have HFF : Hid (FairR Ws (R.set a (r + 1)) len M) := Kit.hid (by rw [hM]; exact HR2'.out.fair)
          have HB5 : Hid (QB M b5) := Kit.hid (by rw [hM, hb5]; exact HR2'.out.wl.qb 0)
          have HR6 := trow_cells hc6
          have HT6 := Kit.hid (HTS.out.below hb6)
          obtain ⟨y, hy⟩ : ∃ y, M[0]? = some y := by
            obtain ⟨m, hm, _⟩ := HFF.out.has 0 (by have := HLE.out; omega)
            cases hMM : M with
            | nil => rw [hMM] at hm; cases hm
            | cons y T => exact ⟨y, rfl⟩
          obtain ⟨ad6, hA6, s0, s1, s2, s3⟩ := t_at HR6 (told_get b5 M 0 y hy)
          rw [show ad6.add (0 * 4) = ad6 from by unfold Addr.add; simp] at s0 s1 s2 s3
          dsimp only at s0 s1 s2 s3
          have hpos6 : (0 : Int) < (M.length : Int) := by
            have := (List.getElem?_eq_some_iff.1 hy).1
            omega
          have hposN : 0 < M.length := (List.getElem?_eq_some_iff.1 hy).1
          have hyb := HB5.out.each y (List.mem_of_getElem? hy)
          have hb50 := HB5.out.b0
          obtain ⟨low, hlow⟩ : ∃ low, low = y.v - b5 := ⟨_, rfl⟩
          rw [← hlow] at s2
          have hlow0 : 0 ≤ low := by omega
          have hlow1 : low ≤ 2305843009213693952 := by omega
          have HNE : Hid (∀ z ∈ M, (z.v - b5) - low ≤ 1048576 / z.wt + 1) := Kit.hid (fun z hz => by have := HFF.out.near z hz y (List.mem_of_getElem? hy); omega)
          have HML : Hid (M.length ≤ 4000) := Kit.hid (by have := HQN.out; omega)
          rw [← hM]
          subst hA6
          clear hvb hc6 hb6 HQF hy hlow hyb cr fr gl HTS HT3 HT4 hM hb5
          go_wp2_with fail
          have hml := HML.out
          go_loopw [17] (fun v17 wr => ∃ j k : Nat, j ≤ M.length ∧ v17 = .int .i64 j ∧ wr = w6.drewN k) (fun j _ => M.length - (intOf j).toNat)
          case atStart => exact ⟨0, 0, by omega, rfl, rfl⟩
          case round =>
            obtain ⟨i, k, hi, rfl, rfl⟩ := hrel
            by_cases hil : i < M.length
            · obtain ⟨z, hz⟩ : ∃ z, M[i]? = some z := ⟨_, List.getElem?_eq_getElem hil⟩
              obtain ⟨ax, hax, p0, p1, p2, p3⟩ := t_at HR6 (told_get b5 M i z hz)
              obtain rfl := Option.some.inj hax
              dsimp only at p0 p1 p2 p3
              have hzb := HB5.out.each z (List.mem_of_getElem? hz)
              have hne := HNE.out z (List.mem_of_getElem? hz)
              obtain ⟨lv, hlv⟩ : ∃ lv, lv = z.v - b5 := ⟨_, rfl⟩
              rw [← hlv] at p2 hne
              obtain ⟨d, hd⟩ : ∃ d, d = 1048576 / z.wt := ⟨_, rfl⟩
              rw [← hd] at hne
              have hd0 : 0 ≤ d := by rw [hd]; exact Int.ediv_nonneg (by omega) (by omega)
              have hd1 : d ≤ 1048576 := by rw [hd]; exact Int.ediv_le_self _ (by omega)
              have hdv : Int.tdiv 1048576 z.wt = d := by rw [hd, Int.tdiv_eq_ediv_of_nonneg (by omega)]
              have hz0 : ¬ z.wt = 0 := by omega
              have hz1 : (z.wt == 0) = false := by simp; omega
              have hl0 : 0 ≤ lv := by omega
              have hl1 : lv ≤ 2305843009213693952 := by omega
              have gA : decide (d + 1 < lv - low) = false := decide_eq_false (by omega)
              have hw1 : IntKind.i64.wrap (lv - low) = lv - low := by rw [IntKind.wrap_i64]; omega
              have hw2 : IntKind.i64.wrap d = d := by rw [IntKind.wrap_i64]; omega
              have hw3 : IntKind.i64.wrap (d + 1) = d + 1 := by rw [IntKind.wrap_i64]; omega
              clear hz hzb hlv hd hne
              go_wp2_with fail
              refine wp_region_noPanic ?_
              refine wp_region_held_drew (S := fun w' => w' = (w6.drewN k).drew) (by kernel_rfl) rfl (fun hHeld => ?_)
              refine wpAnyH_take (i := 0) (hi := by simp only [List.getElem?_toArray, List.getElem?_cons_succ, List.getElem?_cons_zero]; rfl) (v := ?_) (by kernel_rfl) (by kernel_rfl) (by kernel_rfl) (fun _ _ _ h => h) (Or.inl ⟨by rfl, ?_⟩) (by assumption) ?_
              rotate_left
              · (intro w hSw; (try dsimp only at hSw); go_simp; first | done | with_reducible rfl)
              try simp only [Act.put, List.setIfInBounds_toArray, List.set_cons_zero, List.set_cons_succ]
              refine wpAnyH_take (i := 1) (hi := by simp only [List.getElem?_toArray, List.getElem?_cons_succ, List.getElem?_cons_zero]; rfl) (v := ?_) (by kernel_rfl) (by kernel_rfl) (by kernel_rfl) (fun _ _ _ h => h) (Or.inl ⟨by rfl, ?_⟩) (by assumption) ?_
              rotate_left
              · (intro w hSw; (try dsimp only at hSw); go_simp; first | done | with_reducible rfl)
              try simp only [Act.put, List.setIfInBounds_toArray, List.set_cons_zero, List.set_cons_succ]
              refine wpAnyH_take (i := 2) (hi := by simp only [List.getElem?_toArray, List.getElem?_cons_succ, List.getElem?_cons_zero]; rfl) (v := ?_) (by kernel_rfl) (by kernel_rfl) (by kernel_rfl) (fun _ _ _ h => h) (Or.inl ⟨by rfl, ?_⟩) (by assumption) ?_
              rotate_left
              · (intro w hSw; (try dsimp only at hSw); subst hSw; go_simp; first | done | with_reducible rfl)
              try simp only [Act.put, List.setIfInBounds_toArray, List.set_cons_zero, List.set_cons_succ]
              refine wpAnyH_take (i := 3) (hi := by simp only [List.getElem?_toArray, List.getElem?_cons_succ, List.getElem?_cons_zero]; rfl) (v := ?_) (by kernel_rfl) (by kernel_rfl) (by kernel_rfl) (fun _ _ _ h => h) (Or.inl ⟨by rfl, ?_⟩) (by assumption) ?_
              rotate_left
              · (intro w hSw; (try dsimp only at hSw); go_simp; first | done | with_reducible rfl)
              try simp only [Act.put, List.setIfInBounds_toArray, List.set_cons_zero, List.set_cons_succ]
              refine wpAnyH_take (i := 4) (hi := by simp only [List.getElem?_toArray, List.getElem?_cons_succ, List.getElem?_cons_zero]; rfl) (v := ?_) (by kernel_rfl) (by kernel_rfl) (by kernel_rfl) (fun _ _ _ h => h) (Or.inl ⟨by rfl, ?_⟩) (by assumption) ?_
              rotate_left
              · (intro w hSw; (try dsimp only at hSw); go_simp; first | done | with_reducible rfl)
              try simp only [Act.put, List.setIfInBounds_toArray, List.set_cons_zero, List.set_cons_succ]
              refine wpAnyH_take (i := 5) (hi := by simp only [List.getElem?_toArray, List.getElem?_cons_succ, List.getElem?_cons_zero]; rfl) (v := ?_) (by kernel_rfl) (by kernel_rfl) (by kernel_rfl) (fun _ _ _ h => h) (Or.inl ⟨by rfl, ?_⟩) (by assumption) ?_
              rotate_left
              · (intro w hSw; (try dsimp only at hSw); subst hSw; go_simp; first | done | with_reducible rfl)
              try simp only [Act.put, List.setIfInBounds_toArray, List.set_cons_zero, List.set_cons_succ]
              refine wpAnyH_take (i := 6) (hi := by simp only [List.getElem?_toArray, List.getElem?_cons_succ, List.getElem?_cons_zero]; rfl) (v := ?_) (by kernel_rfl) (by kernel_rfl) (by kernel_rfl) (fun _ _ _ h => h) (Or.inl ⟨by rfl, ?_⟩) (by assumption) ?_
              rotate_left
              · (intro w hSw; (try dsimp only at hSw); go_simp; first | done | with_reducible rfl)
              try simp only [Act.put, List.setIfInBounds_toArray, List.set_cons_zero, List.set_cons_succ]
              refine wpAnyH_take (i := 7) (hi := by simp only [List.getElem?_toArray, List.getElem?_cons_succ, List.getElem?_cons_zero]; rfl) (v := ?_) (by kernel_rfl) (by kernel_rfl) (by kernel_rfl) (fun _ _ _ h => h) (Or.inl ⟨by rfl, ?_⟩) (by assumption) ?_
              rotate_left
              · (intro w hSw; (try dsimp only at hSw); subst hSw; go_simp; first | done | with_reducible rfl)
              try simp only [Act.put, List.setIfInBounds_toArray, List.set_cons_zero, List.set_cons_succ]
              refine wpAnyH_take (i := 8) (hi := by simp only [List.getElem?_toArray, List.getElem?_cons_succ, List.getElem?_cons_zero]; rfl) (v := ?_) (by kernel_rfl) (by kernel_rfl) (by kernel_rfl) (fun _ _ _ h => h) (Or.inl ⟨by rfl, ?_⟩) (by assumption) ?_
              rotate_left
              · (intro w hSw; (try dsimp only at hSw); go_simp; first | done | with_reducible rfl)
              try simp only [Act.put, List.setIfInBounds_toArray, List.set_cons_zero, List.set_cons_succ]
              refine wpAnyH_take (i := 9) (hi := by simp only [List.getElem?_toArray, List.getElem?_cons_succ, List.getElem?_cons_zero]; rfl) (v := ?_) (by kernel_rfl) (by kernel_rfl) (by kernel_rfl) (fun _ _ _ h => h) (Or.inl ⟨by rfl, ?_⟩) (by assumption) ?_
              rotate_left
              · (intro w hSw; (try dsimp only at hSw); go_simp; first | done | with_reducible rfl)
              try simp only [Act.put, List.setIfInBounds_toArray, List.set_cons_zero, List.set_cons_succ]
              refine wpAnyH_take (i := 10) (hi := by simp only [List.getElem?_toArray, List.getElem?_cons_succ, List.getElem?_cons_zero]; rfl) (v := ?_) (by kernel_rfl) (by kernel_rfl) (by kernel_rfl) (fun _ _ _ h => h) (Or.inl ⟨by rfl, ?_⟩) (by assumption) ?_
              rotate_left
              · (intro w hSw; (try dsimp only at hSw); subst hSw; go_simp; first | done | with_reducible rfl)
              try simp only [Act.put, List.setIfInBounds_toArray, List.set_cons_zero, List.set_cons_succ]
              refine wpAnyH_take (i := 11) (hi := by simp only [List.getElem?_toArray, List.getElem?_cons_succ, List.getElem?_cons_zero]; rfl) (v := ?_) (by kernel_rfl) (by kernel_rfl) (by kernel_rfl) (fun _ _ _ h => h) (Or.inl ⟨by rfl, ?_⟩) (by assumption) ?_
              rotate_left
              · (intro w hSw; (try dsimp only at hSw); go_simp; first | done | with_reducible rfl)
              try simp only [Act.put, List.setIfInBounds_toArray, List.set_cons_zero, List.set_cons_succ]
              refine wpAnyH_take (i := 12) (hi := by simp only [List.getElem?_toArray, List.getElem?_cons_succ, List.getElem?_cons_zero]; rfl) (v := ?_) (by kernel_rfl) (by kernel_rfl) (by kernel_rfl) (fun _ _ _ h => h) (Or.inl ⟨by rfl, ?_⟩) (by assumption) ?_
              rotate_left
              · (intro w hSw; (try dsimp only at hSw); go_simp; first | done | with_reducible rfl)
              try simp only [Act.put, List.setIfInBounds_toArray, List.set_cons_zero, List.set_cons_succ]
              refine wpAnyH_take (i := 13) (hi := by simp only [List.getElem?_toArray, List.getElem?_cons_succ, List.getElem?_cons_zero]; rfl) (v := ?_) (by kernel_rfl) (by kernel_rfl) (by kernel_rfl) (fun _ _ _ h => h) (Or.inl ⟨by rfl, ?_⟩) (by assumption) ?_
              rotate_left
              · (intro w hSw; (try dsimp only at hSw); go_simp; first | done | with_reducible rfl)
              try simp only [Act.put, List.setIfInBounds_toArray, List.set_cons_zero, List.set_cons_succ]
              refine wpAnyH_take (i := 14) (hi := by simp only [List.getElem?_toArray, List.getElem?_cons_succ, List.getElem?_cons_zero]; rfl) (v := ?_) (by kernel_rfl) (by kernel_rfl) (by kernel_rfl) (fun _ _ _ h => h) (Or.inl ⟨by rfl, ?_⟩) (by assumption) ?_
              rotate_left
              · (intro w hSw; (try dsimp only at hSw); subst hSw; go_simp; first | done | with_reducible rfl)
              try simp only [Act.put, List.setIfInBounds_toArray, List.set_cons_zero, List.set_cons_succ]
              refine wpAnyH_take (i := 15) (hi := by simp only [List.getElem?_toArray, List.getElem?_cons_succ, List.getElem?_cons_zero]; rfl) (v := ?_) (by kernel_rfl) (by kernel_rfl) (by kernel_rfl) (fun _ _ _ h => h) (Or.inl ⟨by rfl, ?_⟩) (by assumption) ?_
              rotate_left
              · (intro w hSw; (try dsimp only at hSw); go_simp; first | done | with_reducible rfl)
              try simp only [Act.put, List.setIfInBounds_toArray, List.set_cons_zero, List.set_cons_succ]
              refine wpAnyH_take (i := 16) (hi := by simp only [List.getElem?_toArray, List.getElem?_cons_succ, List.getElem?_cons_zero]; rfl) (v := ?_) (by kernel_rfl) (by kernel_rfl) (by kernel_rfl) (fun _ _ _ h => h) (Or.inl ⟨by rfl, ?_⟩) (by assumption) ?_
              rotate_left
              · (intro w hSw; (try dsimp only at hSw); subst hSw; go_simp; first | done | with_reducible rfl)
              try simp only [Act.put, List.setIfInBounds_toArray, List.set_cons_zero, List.set_cons_succ]
              refine wpAnyH_take (i := 17) (hi := by simp only [List.getElem?_toArray, List.getElem?_cons_succ, List.getElem?_cons_zero]; rfl) (v := ?_) (by kernel_rfl) (by kernel_rfl) (by kernel_rfl) (fun _ _ _ h => h) (Or.inl ⟨by rfl, ?_⟩) (by assumption) ?_
              rotate_left
              · (intro w hSw; (try dsimp only at hSw); go_simp; first | done | with_reducible rfl)
              try simp only [Act.put, List.setIfInBounds_toArray, List.set_cons_zero, List.set_cons_succ]
              refine wpAnyH_take (i := 18) (hi := by simp only [List.getElem?_toArray, List.getElem?_cons_succ, List.getElem?_cons_zero]; rfl) (v := ?_) (by kernel_rfl) (by kernel_rfl) (by kernel_rfl) (fun _ _ _ h => h) (Or.inl ⟨by rfl, ?_⟩) (by assumption) ?_
              rotate_left
              · (intro w hSw; (try dsimp only at hSw); go_simp; first | done | with_reducible rfl)
              try simp only [Act.put, List.setIfInBounds_toArray, List.set_cons_zero, List.set_cons_succ]
              refine wpAnyH_take (i := 19) (hi := by simp only [List.getElem?_toArray, List.getElem?_cons_succ, List.getElem?_cons_zero]; rfl) (v := ?_) (by kernel_rfl) (by kernel_rfl) (by kernel_rfl) (fun _ _ _ h => h) (Or.inl ⟨by rfl, ?_⟩) (by assumption) ?_
              rotate_left
              · (intro w hSw; (try dsimp only at hSw); go_simp; first | done | with_reducible rfl)
              try simp only [Act.put, List.setIfInBounds_toArray, List.set_cons_zero, List.set_cons_succ]
              clear hHeld
              refine wpAnyH_done (by kernel_rfl) ?_ _
              refine NoPanic.normal ?_
              skip
              go_wp2
              go_roundw
              case rel => exact ⟨i + 1, _, by omega, by go_num, rfl⟩
              case measure => simp [intOf]; omega
            · obtain rfl : i = M.length := by omega
              have HTE := Kit.hid (HT6.out.below (below_drewN (Below.refl _ _) k))
              clear hil hi
              go_wp2
              go_roundw
              case rel => exact ⟨t + 1, R.set a (r + 1), S2, n + 1 + 20, by omega, by go_num, by omega, by omega, Kit.hid (by rw [List.length_set]; exact HRL.out), Kit.hid (fun x hx => by have := HRS.out x hx; omega), HR2', HTE⟩
              case measure => simp [intOf]; omega
        · obtain rfl : t = sn := by omega
          have hfu : (S.Q 0).1 ≠ [] := by
            obtain ⟨m, hm, _⟩ := HF.out.fair.has 0 (by have := HLE.out; omega)
            intro e; rw [e] at hm; cases hm
          obtain ⟨b, hb⟩ : ∃ b, b = (S.Q 0).2 := ⟨_, rfl⟩
          have HGE : Hid (∀ (i : Nat) w', i < len → Sk w1 w' lp S n g R → ∃ m r, m ∈ (S.Q 0).1 ∧ R[i]? = some r ∧ (m.v * m.wt + m.rem = 1048576 * r) ∧ 0 ≤ r ∧ r ≤ 255 ∧ Calls Try.prog 14 #[.pointer (some ⟨lp, 0, none⟩), .int .i64 ((i : Int) + 1)] w' fun e w'' => e = .returned (.tuple #[.agg #[.int .i64 ((i : Int) + 1), .int .i64 m.wt, .int .i64 (m.v - b), .int .i64 m.rem], .bool true]) ∧ Below w'.heap.size w' w'') := Kit.hid (fun i w' hi h => by
            obtain ⟨F, hf⟩ := h.get
            obtain ⟨m, r, q1, q2, q3, q4, q5, q6⟩ := HF.out.share hi
            have hr2 := HRB.out r (List.mem_of_getElem? q5)
            have hle := HLE.out
            have hc := get_full ((i : Int) + 1) 0 hf HF.out.wl (by omega) ⟨by omega, by omega⟩ q1
            rw [q2] at hc
            refine ⟨m, r, q3, q5, q6, hr2.1, by omega, ?_⟩
            unfold memV at hc
            dsimp only at hc
            rw [q4, ← hb] at hc
            exact hc)
          have HBA : Hid (∀ w', Sk w1 w' lp S n g R → Calls Try.prog 15 #[.pointer (some ⟨lp, 0, none⟩), .int .i64 0] w' fun e w'' => e = .returned (.int .i64 b) ∧ Below w'.heap.size w' w'') := Kit.hid (fun w' h => by
            obtain ⟨F, hf⟩ := h.get
            rw [hb]
            exact base_full 0 hf ⟨by omega, by omega⟩ hfu)
          have HB : Hid (QB (S.Q 0).1 b) := Kit.hid (by rw [hb]; exact HF.out.wl.qb 0)
          obtain ⟨wz, hwz⟩ : ∃ wz, wz = wr := ⟨_, rfl⟩
          rw [← hwz] at HT ⊢
          clear hwz ht hlt hfu hb
          have hgt : ¬ (t : Int) < (t : Int) := by omega
          go_wp2_with fail
          go_loopw [18] (fun v18 wr => ∃ i : Nat, i ≤ len ∧ v18 = .int .i64 i ∧ Hid (Sk w1 wr lp S n g R)) (fun i _ => len - (intOf i).toNat)
          case atStart => exact ⟨0, by omega, rfl, HT⟩
          case round =>
            obtain ⟨i, hi, rfl, HI⟩ := hrel
            by_cases hil : i < len
            · obtain ⟨m, r, hm, hr, he, hr0, hr5, hc⟩ := HGE.out i _ hil HI.out
              have hmb := HB.out.each m hm
              have HC := Kit.hid hc
              have hb0 := HB.out.b0
              have hb1 := HB.out.b1
              obtain ⟨lv, hlv⟩ : ∃ lv, lv = m.v - b := ⟨_, rfl⟩
              obtain ⟨pr, hpr⟩ : ∃ pr, pr = m.v * m.wt := ⟨_, rfl⟩
              have hlv0 : 0 ≤ lv := by omega
              have hlv1 : lv ≤ 2305843009213693952 := by omega
              rw [← hlv] at HC
              have eb : b + lv = m.v := by omega
              have hpr0 : 0 ≤ pr := by rw [hpr]; exact Int.mul_nonneg (by omega) (by omega)
              have hprE : pr + m.rem = 1048576 * r := by rw [hpr]; exact he
              have hpr1 : pr ≤ 1048576 * 255 := by omega
              have k1 : IntKind.i64.wrap (b + lv) = m.v := by rw [IntKind.wrap_i64]; omega
              have k2 : IntKind.i64.wrap (m.v * m.wt) = pr := by rw [← hpr, IntKind.wrap_i64]; omega
              have k3 : IntKind.i64.wrap (pr + m.rem) = pr + m.rem := by rw [IntKind.wrap_i64]; omega
              have k4 : IntKind.i64.wrap (1048576 * r) = 1048576 * r := by rw [IntKind.wrap_i64]; omega
              have k5 : (pr + m.rem != 1048576 * r) = false := by rw [hprE]; simp
              have HRR := Kit.hid hr
              have hil2 : (i : Int) < (len : Int) := by omega
              clear hm hr he hc hb0 hb1 hmb hlv hpr hprE hpr1 hpr0 hlv0 hlv1 eb
              go_wp2_with fail
              (with_reducible refine HC.out.mono ?_); rintro e w8 ⟨rfl, hb8⟩
              have HT8 := Kit.hid (HI.out.below hb8)
              clear hb8 HC
              obtain ⟨wX, hwX⟩ : ∃ wX, wX = w8.alloc (.cells #[.int .i64 ((i : Int) + 1), .int .i64 m.wt, .int .i64 lv, .int .i64 m.rem] 35) := ⟨_, rfl⟩
              have HTX : Hid (Sk w1 wX lp S n g R) := Kit.hid (by rw [hwX]; exact HT8.out.below ((Below.refl _ _).alloc (Nat.le_refl _) _))
              have HXX : Hid (wX.heap[w8.heap.size]? = some (.cells #[.int .i64 ((i : Int) + 1), .int .i64 m.wt, .int .i64 lv, .int .i64 m.rem] 35 (0, 0))) := Kit.hid (by rw [hwX]; exact blk_new _ _)
              have HSX : Hid (∀ w', Below wX.heap.size wX w' → w'.cell? ⟨w8.heap.size, 1, none⟩ = some (.int .i64 m.wt) ∧ w'.cell? ⟨w8.heap.size, 2, none⟩ = some (.int .i64 lv) ∧ w'.cell? ⟨w8.heap.size, 3, none⟩ = some (.int .i64 m.rem) ∧ w'.cell? ⟨g, i, none⟩ = some (.int .i64 r)) := Kit.hid (fun w' hb => by
                have hx' := blk_below HXX.out hb
                exact ⟨blk_cell hx' 1, blk_cell hx' 2, blk_cell hx' 3, (HTX.out.below hb).cell HRR.out⟩)
              clear HT8
              go_wp2_with fail
              rw [← hwX]
              clear hwX HXX
              refine wp_region_noPanic ?_
              refine wp_region_held_drew (S := fun w' => Below wX.heap.size wX w') (by kernel_rfl) (Below.refl _ _).drew (fun hHeld => ?_)
              refine wpAnyH_take (i := 0) (hi := by simp only [List.getElem?_toArray, List.getElem?_cons_succ, List.getElem?_cons_zero]; rfl) (v := ?_) (by kernel_rfl) (by kernel_rfl) (by kernel_rfl) (fun _ _ _ h => h) (Or.inl ⟨by rfl, ?_⟩) (by assumption) ?_
              rotate_left
              · (intro w hSw; (try dsimp only at hSw); go_simp; first | done | with_reducible rfl)
              try simp only [Act.put, List.setIfInBounds_toArray, List.set_cons_zero, List.set_cons_succ]
              refine wpAnyH_take (i := 1) (hi := by simp only [List.getElem?_toArray, List.getElem?_cons_succ, List.getElem?_cons_zero]; rfl) (v := ?_) (by kernel_rfl) (by kernel_rfl) (by kernel_rfl) (fun _ _ _ h => h) (Or.inl ⟨by rfl, ?_⟩) (by assumption) ?_
              rotate_left
              · (intro w hSw; (try dsimp only at hSw); go_simp; first | done | with_reducible rfl)
              try simp only [Act.put, List.setIfInBounds_toArray, List.set_cons_zero, List.set_cons_succ]
              refine wpAnyH_take (i := 2) (hi := by simp only [List.getElem?_toArray, List.getElem?_cons_succ, List.getElem?_cons_zero]; rfl) (v := ?_) (by kernel_rfl) (by kernel_rfl) (by kernel_rfl) (fun _ _ _ h => h) (Or.inl ⟨by rfl, ?_⟩) (by assumption) ?_
              rotate_left
              · (intro w hSw; (try dsimp only at hSw); go_simp; first | done | with_reducible rfl)
              try simp only [Act.put, List.setIfInBounds_toArray, List.set_cons_zero, List.set_cons_succ]
              refine wpAnyH_take (i := 3) (hi := by simp only [List.getElem?_toArray, List.getElem?_cons_succ, List.getElem?_cons_zero]; rfl) (v := ?_) (by kernel_rfl) (by kernel_rfl) (by kernel_rfl) (fun _ _ _ h => h) (Or.inl ⟨by rfl, ?_⟩) (by assumption) ?_
              rotate_left
              · (intro w hSw; (try dsimp only at hSw); go_simp; first | done | with_reducible rfl)
              try simp only [Act.put, List.setIfInBounds_toArray, List.set_cons_zero, List.set_cons_succ]
              refine wpAnyH_take (i := 5) (hi := by simp only [List.getElem?_toArray, List.getElem?_cons_succ, List.getElem?_cons_zero]; rfl) (v := ?_) (by kernel_rfl) (by kernel_rfl) (by kernel_rfl) (fun _ _ _ h => h) (Or.inl ⟨by rfl, ?_⟩) (by assumption) ?_
              rotate_left
              · (intro w hSw; (try dsimp only at hSw); go_simp; first | done | with_reducible rfl)
              try simp only [Act.put, List.setIfInBounds_toArray, List.set_cons_zero, List.set_cons_succ]
              refine wpAnyH_take (i := 6) (hi := by simp only [List.getElem?_toArray, List.getElem?_cons_succ, List.getElem?_cons_zero]; rfl) (v := ?_) (by kernel_rfl) (by kernel_rfl) (by kernel_rfl) (fun _ _ _ h => h) (Or.inl ⟨by rfl, ?_⟩) (by assumption) ?_
              rotate_left
              · (intro w hSw; (try dsimp only at hSw); go_simp; first | done | with_reducible rfl)
              try simp only [Act.put, List.setIfInBounds_toArray, List.set_cons_zero, List.set_cons_succ]
              refine wpAnyH_take (i := 7) (hi := by simp only [List.getElem?_toArray, List.getElem?_cons_succ, List.getElem?_cons_zero]; rfl) (v := ?_) (by kernel_rfl) (by kernel_rfl) (by kernel_rfl) (fun _ _ _ h => h) (Or.inl ⟨by rfl, ?_⟩) (by assumption) ?_
              rotate_left
              · (intro w hSw; (try dsimp only at hSw); (obtain ⟨x0, x1, x2, x3⟩ := HSX.out _ hSw); go_simp; first | done | with_reducible rfl)
              try simp only [Act.put, List.setIfInBounds_toArray, List.set_cons_zero, List.set_cons_succ]
              refine wpAnyH_take (i := 9) (hi := by simp only [List.getElem?_toArray, List.getElem?_cons_succ, List.getElem?_cons_zero]; rfl) (v := ?_) (by kernel_rfl) (by kernel_rfl) (by kernel_rfl) (fun _ _ _ h => h) (Or.inl ⟨by rfl, ?_⟩) (by assumption) ?_
              rotate_left
              · (intro w hSw; (try dsimp only at hSw); go_simp; first | done | with_reducible rfl)
              try simp only [Act.put, List.setIfInBounds_toArray, List.set_cons_zero, List.set_cons_succ]
              refine wpAnyH_take (i := 10) (hi := by simp only [List.getElem?_toArray, List.getElem?_cons_succ, List.getElem?_cons_zero]; rfl) (v := ?_) (by kernel_rfl) (by kernel_rfl) (by kernel_rfl) (fun _ _ _ h => h) (Or.inl ⟨by rfl, ?_⟩) (by assumption) ?_
              rotate_left
              · (intro w hSw; (try dsimp only at hSw); (obtain ⟨x0, x1, x2, x3⟩ := HSX.out _ hSw); go_simp; first | done | with_reducible rfl)
              try simp only [Act.put, List.setIfInBounds_toArray, List.set_cons_zero, List.set_cons_succ]
              refine wpAnyH_take (i := 12) (hi := by simp only [List.getElem?_toArray, List.getElem?_cons_succ, List.getElem?_cons_zero]; rfl) (v := ?_) (by kernel_rfl) (by kernel_rfl) (by kernel_rfl) (fun _ _ _ h => h) (Or.inl ⟨by rfl, ?_⟩) (by assumption) ?_
              rotate_left
              · (intro w hSw; (try dsimp only at hSw); go_simp; first | done | with_reducible rfl)
              try simp only [Act.put, List.setIfInBounds_toArray, List.set_cons_zero, List.set_cons_succ]
              refine wpAnyH_take (i := 13) (hi := by simp only [List.getElem?_toArray, List.getElem?_cons_succ, List.getElem?_cons_zero]; rfl) (v := ?_) (by kernel_rfl) (by kernel_rfl) (by kernel_rfl) (fun _ _ _ h => h) (Or.inl ⟨by rfl, ?_⟩) (by assumption) ?_
              rotate_left
              · (intro w hSw; (try dsimp only at hSw); go_simp; first | done | with_reducible rfl)
              try simp only [Act.put, List.setIfInBounds_toArray, List.set_cons_zero, List.set_cons_succ]
              refine wpAnyH_take (i := 14) (hi := by simp only [List.getElem?_toArray, List.getElem?_cons_succ, List.getElem?_cons_zero]; rfl) (v := ?_) (by kernel_rfl) (by kernel_rfl) (by kernel_rfl) (fun _ _ _ h => h) (Or.inl ⟨by rfl, ?_⟩) (by assumption) ?_
              rotate_left
              · (intro w hSw; (try dsimp only at hSw); (obtain ⟨x0, x1, x2, x3⟩ := HSX.out _ hSw); go_simp; first | done | with_reducible rfl)
              try simp only [Act.put, List.setIfInBounds_toArray, List.set_cons_zero, List.set_cons_succ]
              refine wpAnyH_take (i := 16) (hi := by simp only [List.getElem?_toArray, List.getElem?_cons_succ, List.getElem?_cons_zero]; rfl) (v := ?_) (by kernel_rfl) (by kernel_rfl) (by kernel_rfl) (fun _ _ _ h => h) (Or.inl ⟨by rfl, ?_⟩) (by assumption) ?_
              rotate_left
              · (intro w hSw; (try dsimp only at hSw); go_simp; first | done | with_reducible rfl)
              try simp only [Act.put, List.setIfInBounds_toArray, List.set_cons_zero, List.set_cons_succ]
              refine wpAnyH_take (i := 17) (hi := by simp only [List.getElem?_toArray, List.getElem?_cons_succ, List.getElem?_cons_zero]; rfl) (v := ?_) (by kernel_rfl) (by kernel_rfl) (by kernel_rfl) (fun _ _ _ h => h) (Or.inl ⟨by rfl, ?_⟩) (by assumption) ?_
              rotate_left
              · (intro w hSw; (try dsimp only at hSw); go_simp; first | done | with_reducible rfl)
              try simp only [Act.put, List.setIfInBounds_toArray, List.set_cons_zero, List.set_cons_succ]
              refine wpAnyH_take (i := 18) (hi := by simp only [List.getElem?_toArray, List.getElem?_cons_succ, List.getElem?_cons_zero]; rfl) (v := ?_) (by kernel_rfl) (by kernel_rfl) (by kernel_rfl) (fun _ _ _ h => h) (Or.inl ⟨by rfl, ?_⟩) (by assumption) ?_
              rotate_left
              · (intro w hSw; (try dsimp only at hSw); (obtain ⟨x0, x1, x2, x3⟩ := HSX.out _ hSw); go_simp; first | done | with_reducible rfl)
              try simp only [Act.put, List.setIfInBounds_toArray, List.set_cons_zero, List.set_cons_succ]
              refine wpAnyH_take (i := 19) (hi := by simp only [List.getElem?_toArray, List.getElem?_cons_succ, List.getElem?_cons_zero]; rfl) (v := ?_) (by kernel_rfl) (by kernel_rfl) (by kernel_rfl) (fun _ _ _ h => h) (Or.inl ⟨by rfl, ?_⟩) (by assumption) ?_
              rotate_left
              · (intro w hSw; (try dsimp only at hSw); (obtain ⟨x0, x1, x2, x3⟩ := HSX.out _ hSw); go_simp; first | done | with_reducible rfl)
              try simp only [Act.put, List.setIfInBounds_toArray, List.set_cons_zero, List.set_cons_succ]
              refine wpAnyH_take (i := 20) (hi := by simp only [List.getElem?_toArray, List.getElem?_cons_succ, List.getElem?_cons_zero]; rfl) (v := ?_) (by kernel_rfl) (by kernel_rfl) (by kernel_rfl) (fun _ _ _ h => h) (Or.inl ⟨by rfl, ?_⟩) (by assumption) ?_
              rotate_left
              · (intro w hSw; (try dsimp only at hSw); go_simp; first | done | with_reducible rfl)
              try simp only [Act.put, List.setIfInBounds_toArray, List.set_cons_zero, List.set_cons_succ]
              refine wpAnyH_ready (rs := [4]) (by kernel_rfl) (by simp) ?_
              refine AllReadyH.cons (ho := by simp only [List.getElem?_toArray, List.getElem?_cons_succ, List.getElem?_cons_zero]; rfl) (fun K hK => ?_) (AllReadyH.nil)
              go_simp
              go_at_call 15; (with_reducible refine (HBA.out _ (HTX.out.below (Below.refl _ _).drew)).mono ?_); rintro e w9 ⟨rfl, hb9⟩
              have HB9 : Hid (Below wX.heap.size wX w9) := Kit.hid (hHeld.trans (hb9.mono hHeld.size))
              have HT9 := Kit.hid (HTX.out.below HB9.out)
              clear hb9
              go_wp2_with fail
              refine hK.out _ _ ?_ (fun hHeldN => ?_)
              · exact HB9.out
              clear hHeld
              have hHeld := hHeldN
              clear hHeldN
              clear hK K
              try simp only [Act.put, List.setIfInBounds_toArray, List.set_cons_zero, List.set_cons_succ]
              refine wpAnyH_take (i := 8) (hi := by simp only [List.getElem?_toArray, List.getElem?_cons_succ, List.getElem?_cons_zero]; rfl) (v := ?_) (by kernel_rfl) (by kernel_rfl) (by kernel_rfl) (fun _ _ _ h => h) (Or.inl ⟨by rfl, ?_⟩) (by assumption) ?_
              rotate_left
              · (intro w hSw; (try dsimp only at hSw); go_simp; first | done | with_reducible rfl)
              try simp only [Act.put, List.setIfInBounds_toArray, List.set_cons_zero, List.set_cons_succ]
              refine wpAnyH_take (i := 11) (hi := by simp only [List.getElem?_toArray, List.getElem?_cons_succ, List.getElem?_cons_zero]; rfl) (v := ?_) (by kernel_rfl) (by kernel_rfl) (by kernel_rfl) (fun _ _ _ h => h) (Or.inl ⟨by rfl, ?_⟩) (by assumption) ?_
              rotate_left
              · (intro w hSw; (try dsimp only at hSw); go_simp; first | done | with_reducible rfl)
              try simp only [Act.put, List.setIfInBounds_toArray, List.set_cons_zero, List.set_cons_succ]
              refine wpAnyH_take (i := 15) (hi := by simp only [List.getElem?_toArray, List.getElem?_cons_succ, List.getElem?_cons_zero]; rfl) (v := ?_) (by kernel_rfl) (by kernel_rfl) (by kernel_rfl) (fun _ _ _ h => h) (Or.inl ⟨by rfl, ?_⟩) (by assumption) ?_
              rotate_left
              · (intro w hSw; (try dsimp only at hSw); go_simp; first | done | with_reducible rfl)
              try simp only [Act.put, List.setIfInBounds_toArray, List.set_cons_zero, List.set_cons_succ]
              refine wpAnyH_take (i := 21) (hi := by simp only [List.getElem?_toArray, List.getElem?_cons_succ, List.getElem?_cons_zero]; rfl) (v := ?_) (by kernel_rfl) (by kernel_rfl) (by kernel_rfl) (fun _ _ _ h => h) (Or.inl ⟨by rfl, ?_⟩) (by assumption) ?_
              rotate_left
              · (intro w hSw; (try dsimp only at hSw); go_simp; first | done | with_reducible rfl)
              try simp only [Act.put, List.setIfInBounds_toArray, List.set_cons_zero, List.set_cons_succ]
              refine wpAnyH_take (i := 22) (hi := by simp only [List.getElem?_toArray, List.getElem?_cons_succ, List.getElem?_cons_zero]; rfl) (v := ?_) (by kernel_rfl) (by kernel_rfl) (by kernel_rfl) (fun _ _ _ h => h) (Or.inl ⟨by rfl, ?_⟩) (by assumption) ?_
              rotate_left
              · (intro w hSw; (try dsimp only at hSw); go_simp; first | done | with_reducible rfl)
              try simp only [Act.put, List.setIfInBounds_toArray, List.set_cons_zero, List.set_cons_succ]
              clear hHeld
              refine wpAnyH_done (by kernel_rfl) ?_ _
              refine NoPanic.normal ?_
              skip
              go_wp2
              go_roundw
              case rel => exact ⟨i + 1, by omega, by go_num, HT9⟩
              case measure => simp [intOf]; omega
            · obtain rfl : i = len := by omega
              have HE := Kit.hid (HB1.out.trans (HI.out.to.mono HB1.out.size))
              go_wp2
              go_ret
              exact ⟨rfl, HE.out⟩
end Go.Proofs.Ytpgfenelckonoaa.La

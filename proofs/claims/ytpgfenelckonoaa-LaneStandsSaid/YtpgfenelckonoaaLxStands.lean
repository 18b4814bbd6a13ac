/- The law LaneStands. -/
import Derived.Test.YtpgfenelckonoaaLxF
import Derived.Test.YtpgfenelckonoaaOwnS
namespace Go.Proofs.Ytpgfenelckonoaa.LaM
open Go.Proofs.Ytpgfenelckonoaa.ShM Go.Proofs.Ytpgfenelckonoaa.QuM
set_option linter.unusedVariables false
theorem way_steps {S : LS} : ∀ {l : List Int} {t g : Int}, S.home t = some g → IsWay S g l → ∀ k, k ≤ l.length → ∃ y j, (t :: l)[k]? = some y ∧ (l ++ [0])[k]? = some j ∧ S.home y = some j
  | [], t, g, ht, hw, k, hk => by
    obtain rfl : k = 0 := by simpa using hk
    have : g = 0 := hw
    subst this
    exact ⟨t, 0, rfl, rfl, ht⟩
  | x :: l, t, g, ht, hw, k, hk => by
    obtain ⟨rfl, h0, hn, h, hh, hl⟩ := hw
    cases k with
    | zero => exact ⟨t, x, rfl, rfl, ht⟩
    | succ k =>
      obtain ⟨y, j, e1, e2, e3⟩ := way_steps hh hl k (by simpa using hk)
      exact ⟨y, j, e1, e2, e3⟩
theorem cnt_snoc {l : List Mem} {m x : Mem} {i : Nat} (h : l[i]? = some x) : (l.take (i + 1)).countP (fun y => decide (y = m)) = (l.take i).countP (fun y => decide (y = m)) + (if x = m then 1 else 0) := by
  rw [List.take_add_one, h, List.countP_append]
  simp [List.countP_cons]
theorem cnt_none {m : Mem} : ∀ {l : List Mem}, (∀ y ∈ l, y.id ≠ m.id) → l.countP (fun y => decide (y = m)) = 0
  | l, h => by
    rw [List.countP_eq_zero]
    intro y hy e
    have := of_decide_eq_true e
    exact h y hy (by rw [this])
theorem cnt_one {m : Mem} : ∀ {l : List Mem}, l.Pairwise (fun a b => a.id ≠ b.id) → m ∈ l → l.countP (fun y => decide (y = m)) = 1
  | [], _, h => by cases h
  | y :: l, hp, h => by
    obtain ⟨h1, h2⟩ := List.pairwise_cons.1 hp
    rw [List.countP_cons]
    rcases List.mem_cons.1 h with rfl | h
    · rw [cnt_none (fun z hz e => h1 z hz e.symm)]
      simp
    · have hne : y ≠ m := fun e => h1 m h (by rw [e])
      rw [cnt_one h2 h]
      simp [hne]
end Go.Proofs.Ytpgfenelckonoaa.LaM
namespace Go.Proofs.Ytpgfenelckonoaa.La
open Go.RowKit Go.Proofs.Ytpgfenelckonoaa.Kit Go.Proofs.Ytpgfenelckonoaa.ShM Go.Proofs.Ytpgfenelckonoaa.Sh Go.Proofs.Ytpgfenelckonoaa.QuM Go.Proofs.Ytpgfenelckonoaa.Qu Go.Proofs.Ytpgfenelckonoaa.LaM
open Go.Proofs.Ytpgfenelckonoaa.Ki (Row row_nil row_of iv iv_len iv_one)
set_option linter.unusedVariables false
set_option linter.unusedSimpArgs false
theorem steps_way {S : LS} (wl : WL S) {t : Int} (ht : (S.home t).isSome = true) : ∀ k, k ≤ (wayS S t).length → ∃ y j, (t :: wayS S t)[k]? = some y ∧ (wayS S t ++ [0])[k]? = some j ∧ S.home y = some j := by
  cases hh : S.home t with
  | none => rw [hh] at ht; cases ht
  | some g =>
    obtain ⟨l, h1, _, h3⟩ := way_is wl hh
    rw [h3]
    exact way_steps hh h1
theorem told_once {S : LS} (wl : WL S) {x j : Int} (h : S.home x = some j) : (told (S.Q j).2 (S.Q j).1).countP (fun y => decide (y = memS S j x)) = 1 := by
  obtain ⟨y, hy, hm, hi⟩ := member_some wl h
  have e : memS S j x = { y with v := y.v - (S.Q j).2 } := by unfold memS; rw [hy]
  rw [e]
  refine cnt_one ?_ ?_
  · unfold told
    rw [List.pairwise_map]
    exact (wl.wq j).uniq
  · exact List.mem_map.2 ⟨y, hm, rfl⟩
theorem told_pos {S : LS} (wl : WL S) (j : Int) : ∀ m ∈ told (S.Q j).2 (S.Q j).1, 0 ≤ m.v := by
  intro m hm
  obtain ⟨y, hy, rfl⟩ := List.mem_map.1 hm
  have := (wl.qb j).each y hy
  show 0 ≤ y.v - (S.Q j).2
  omega
theorem row_cells2 {B : Nat} {w : World} {A : Option Addr} {n c : Nat} {l : List Int} (h : Row B w (.slice A n c) l) : Cells w A (iv l) := by
  obtain ⟨A', c', e, hc, _⟩ := h.reads
  cases e
  exact hc
theorem eql_mem (a b : Mem) (w : World) : (binOp .eql 35 (.agg #[.int .i64 a.id, .int .i64 a.wt, .int .i64 a.v, .int .i64 a.rem]) (.agg #[.int .i64 b.id, .int .i64 b.wt, .int .i64 b.v, .int .i64 b.rem])).run Try.prog w = .ok (.bool (decide (a = b))) w := by
  rw [run_eql_struct, equalIn_mem]
  rfl
/-- A lane, and kept blocks beside it. -/
structure Bye (w0 w : World) (lp : Nat) (S : LS) (n : Nat) (K : Nat → Prop) : Prop where
  ex : ∃ G : Nat → Prop, LF G w lp S n ∧ (∀ x, G x → w0.heap.size ≤ x) ∧ (∀ k, K k → k < w.heap.size ∧ ¬ G k)
  bel : Below w0.heap.size w0 w
section
variable {w0 w w' : World} {lp n : Nat} {S : LS} {K : Nat → Prop}
theorem Bye.lane (h : Bye w0 w lp S n K) : ∃ G, LF G w lp S n ∧ (∀ x, G x → w0.heap.size ≤ x) ∧ ∀ w' S' n', Ln w G w' lp S' n' → Bye w0 w' lp S' n' K ∧ (∀ k, K k → w'.heap[k]? = w.heap[k]?) := by
  obtain ⟨⟨G, h1, h2, h3⟩, h7⟩ := h
  refine ⟨G, h1, h2, fun w' S' n' hl => ?_⟩
  obtain ⟨G2, g1, g2, g3⟩ := hl
  refine ⟨⟨⟨G2, g1, fun x hx => ?_, fun k hk => ?_⟩, ?_⟩, fun k hk => g3.block k (h3 k hk).1 (h3 k hk).2⟩
  · rcases g2 x hx with e | e
    · exact h2 x e
    · exact Nat.le_trans h7.size e
  · obtain ⟨e1, e2⟩ := h3 k hk
    refine ⟨Nat.lt_of_lt_of_le e1 g3.size, fun hg => ?_⟩
    rcases g2 k hg with e | e
    · exact e2 e
    · omega
  · exact ⟨g3.os.trans h7.os, g3.tape.trans h7.tape, g3.output.trans h7.output, Nat.le_trans h7.size g3.size, fun x hx => (g3.block x (Nat.lt_of_lt_of_le hx h7.size) (fun hg => by have := h2 x hg; omega)).trans (h7.block x hx)⟩
theorem Bye.below (h : Bye w0 w lp S n K) (hb : Below w.heap.size w w') : Bye w0 w' lp S n K := by
  obtain ⟨⟨G, h1, h2, h3⟩, h7⟩ := h
  exact ⟨⟨G, h1.below hb, h2, fun k hk => ⟨Nat.lt_of_lt_of_le (h3 k hk).1 hb.size, (h3 k hk).2⟩⟩, h7.trans (hb.mono h7.size)⟩
/-- What is laid beside the lane is kept too. -/
theorem Bye.add (h : Bye w0 w lp S n K) (hb : Below w.heap.size w w') (v : Value) (hv : ∀ k, v.ownBlock = some k → w.heap.size ≤ k ∧ k < w'.heap.size) : Bye w0 w' lp S n (fun k => K k ∨ v.ownBlock = some k) := by
  have h8 := h.below hb
  obtain ⟨⟨G, h1, h2, h3⟩, h7⟩ := h
  refine ⟨⟨G, h1.below hb, h2, fun k hk => ?_⟩, h8.bel⟩
  rcases hk with hk | hk
  · exact ⟨Nat.lt_of_lt_of_le (h3 k hk).1 hb.size, (h3 k hk).2⟩
  · obtain ⟨e1, e2⟩ := hv k hk
    exact ⟨e2, fun hg => by have := h1.lt k hg; omega⟩
/-- A lane's call that gives a row of one's own. -/
theorem Bye.laneO (h : Bye w0 w lp S n K) : ∃ G, LF G w lp S n ∧ (∀ x, G x → w0.heap.size ≤ x) ∧ ∀ w' S' n' v, LnO w G w' lp S' n' v → Bye w0 w' lp S' n' (fun k => K k ∨ v.ownBlock = some k) ∧ (∀ k, K k → w'.heap[k]? = w.heap[k]?) := by
  obtain ⟨⟨G, h1, h2, h3⟩, h7⟩ := h
  refine ⟨G, h1, h2, fun w' S' n' v hl => ?_⟩
  obtain ⟨G2, g1, g2, g3, g4⟩ := hl
  refine ⟨⟨⟨G2, g1, fun x hx => ?_, fun k hk => ?_⟩, ?_⟩, fun k hk => g3.block k (h3 k hk).1 (h3 k hk).2⟩
  · rcases g2 x hx with e | e
    · exact h2 x e
    · exact Nat.le_trans h7.size e
  · rcases hk with hk | hk
    · obtain ⟨e1, e2⟩ := h3 k hk
      refine ⟨Nat.lt_of_lt_of_le e1 g3.size, fun hg => ?_⟩
      rcases g2 k hg with e | e
      · exact e2 e
      · omega
    · exact ⟨(g4 k hk).2.1, (g4 k hk).2.2⟩
  · exact ⟨g3.os.trans h7.os, g3.tape.trans h7.tape, g3.output.trans h7.output, Nat.le_trans h7.size g3.size, fun x hx => (g3.block x (Nat.lt_of_lt_of_le hx h7.size) (fun hg => by have := h2 x hg; omega)).trans (h7.block x hx)⟩
theorem Bye.less {K' : Nat → Prop} (h : Bye w0 w lp S n K) (hK : ∀ k, K' k → K k) : Bye w0 w lp S n K' := by
  obtain ⟨⟨G, h1, h2, h3⟩, h7⟩ := h
  exact ⟨⟨G, h1, h2, fun k hk => h3 k (hK k hk)⟩, h7⟩
theorem Bye.of_ln (h : Ln w0 (fun _ => False) w lp S n) : Bye w0 w lp S n (fun _ => False) := by
  have hb := h.blw
  obtain ⟨G, h1, h2, h3⟩ := h
  exact ⟨⟨G, h1, fun k hk => (h2 k hk).resolve_left id, fun k hk => hk.elim⟩, hb⟩
variable {F : Nat → Prop}
theorem LF.qn (h : LF F w lp S n) (g : Int) : (S.Q g).1.length ≤ n := by
  obtain ⟨mb, mh, mk, vt, Qp, Fq, rfl, h⟩ := h
  cases hq : Qp g with
  | none => rw [h.none_ g hq]; exact Nat.zero_le _
  | some p => exact (h.queue g p hq).len
theorem home_full (wl : WL S) {x g : Int} (h : S.home x = some g) : (S.Q g).1 ≠ [] := fun e => by
  obtain ⟨y, _, hm, _⟩ := member_some wl h
  rw [e] at hm
  cases hm
set_option maxHeartbeats 1600000 in
/-- Get, of who is in a queue, changes nothing. -/
theorem get_full (id g : Int) (h : LF F w lp S n) (wl : WL S) (hn : n ≤ 3900) (hi : int64 id) (hh : S.home id = some g) :
    Calls Try.prog 14 #[.pointer (some ⟨lp, 0, none⟩), .int .i64 id] w fun e w' => e = .returned (.tuple #[memV (memS S g id), .bool true]) ∧ Below w.heap.size w w' := by
  have HLF := Kit.hid h
  have HIR := Kit.hid hi
  obtain ⟨gp, hgp⟩ : ∃ gp, gp = w.heap.size := ⟨_, rfl⟩
  obtain ⟨W1, hW1⟩ : ∃ W1, W1 = w.alloc (.cells #[.int .i64 0, .int .i64 0, .int .i64 0, .int .i64 0] 35) := ⟨_, rfl⟩
  have HB1 : Hid (Below w.heap.size w W1) := Kit.hid (by rw [hW1]; exact (Below.refl _ _).alloc (Nat.le_refl _) _)
  have HX1 : Hid (W1.heap[gp]? = some (.cells #[.int .i64 0, .int .i64 0, .int .i64 0, .int .i64 0] 35 (0, 0))) := Kit.hid (by rw [hW1, hgp]; exact blk_new _ _)
  obtain ⟨mb, mh, mk, vt, Qp, Fq, hFe, hx⟩ := (show LF F w lp S n from h)
  have x1 := blk_cell hx.at_ 1
  have hll := blk_lt hx.at_
  have HEQ : Hid (∀ o, (Instr.lookup 63 (.map (some mh)) (.int .i64 id) true).run Try.prog (w.alloc o) = .ok (.tuple #[.int .i64 ((S.home id).getD 0), .bool (S.home id).isSome]) (w.alloc o)) := Kit.hid (fun o => by
    rw [(hx.home.same (((Below.refl _ w).alloc (Nat.le_refl _) o).block mh hx.home.lt)).look true keyed Try.underlying63 (zero_int _) (int_key Try.underlying3 hi.1 hi.2)]
    cases S.home id <;> rfl)
  have heq := HEQ.out (.cells #[.int .i64 0, .int .i64 0, .int .i64 0, .int .i64 0] 35)
  have HL1 := Kit.hid (h.below HB1.out)
  have hgr := h.rng hh
  have HIS : Hid ((get (S.Q g).1 id).isSome = true) := Kit.hid ((wl.home id g).1 hh)
  rw [hh] at heq
  simp only [Option.getD_some, Option.isSome_some] at heq
  have HOF := Kit.hid (of_full g HL1.out (home_full wl hh) hgr)
  obtain ⟨m, hm⟩ : ∃ m, m = memS S g id := ⟨_, rfl⟩
  have hgv := gv_memS S g id
  rw [← hm] at hgv ⊢
  unfold memV at hgv ⊢
  have HGV := Kit.hid hgv
  have HGP := Kit.hid hgp
  have HW1 := Kit.hid hW1
  have HGL := Kit.hid (blk_lt HX1.out)
  clear h hi hx hFe hgp hW1 hh hgv hm hgr
  go_enter Try.func14, Try.ntmps14
  go_wp2_with fail
  rw [← HW1.out, ← HGP.out]
  (with_reducible refine HOF.out.mono ?_); rintro e w2 ⟨p, rfl, rfl, G, q1, q2, q3, q4, q5, q6, q7⟩
  have HGT := Kit.hid (get_any id q1 q2 HIR.out.1 HIR.out.2)
  rw [HGV.out, HIS.out] at HGT
  clear q1 q2 q3 q4 q5 q6 q7 HOF x1 hll heq
  go_wp2_with fail
  (with_reducible refine HGT.out.mono ?_); rintro e w3 ⟨rfl, hb3⟩
  have HX3 : Hid (w3.heap[gp]? = some (.cells #[.int .i64 0, .int .i64 0, .int .i64 0, .int .i64 0] 35 (0, 0))) := Kit.hid ((hb3.block gp HGL.out).trans HX1.out)
  have HB3 := Kit.hid (HB1.out.trans (hb3.mono HB1.out.size))
  have y0 := blk_cell HX3.out 0
  have y1 := blk_cell HX3.out 1
  have y2 := blk_cell HX3.out 2
  have y3 := blk_cell HX3.out 3
  have f0 := blk_frozen HX3.out 0
  have f1 := blk_frozen HX3.out 1
  have f2 := blk_frozen HX3.out 2
  have f3 := blk_frozen HX3.out 3
  have yl := blk_lt HX3.out
  clear hb3 HGT
  go_wp2
  exact cell_tmp_ret rfl gp _ _ _ _ rfl rfl (mem_store HX3.out) rfl ⟨rfl, HB3.out.grown (set4_grown _ _ _ _ _ _) HB3.out.size fun k hk => by cases hk; exact Nat.le_of_eq HGP.out.symm⟩
theorem queue_full (g : Int) (h : LF F w lp S n) (hn : n ≤ 3900) (hg : int64 g) (hq : (S.Q g).1 ≠ []) :
    Calls Try.prog 13 #[.pointer (some ⟨lp, 0, none⟩), .int .i64 g] w fun e w' => ∃ v, e = .returned v ∧ w'.ownsRow w.heap.size 35 4 v (S.Q g).1.length (flatM (S.Q g).2 (S.Q g).1) ∧ Below w.heap.size w w' := by
  have HOF := Kit.hid (of_full g h hq hg)
  clear h hq
  go_enter Try.func13, Try.ntmps13
  go_wp2_with fail
  (with_reducible refine HOF.out.mono ?_); rintro e w2 ⟨p, rfl, rfl, G, q1, q2, q3, q4, _⟩
  have HA := Kit.hid (qall_any q1 q2 (by omega))
  clear q1 q2 q3 q4 HOF
  go_wp2_with fail
  (with_reducible refine HA.out.mono ?_); rintro e w3 ⟨v, rfl, hv, hb3⟩
  have HV := Kit.hid hv
  have HB := Kit.hid hb3
  obtain ⟨A, c, rfl, _, _, _⟩ := own_readsS (by decide) hv
  clear hv hb3 HA
  go_wp2
  go_ret
  exact ⟨_, rfl, HV.out, HB.out⟩
end
/-! ### one thing ahead of a row of what is done -/
open Go.ChangeShapes Go.WideShapes Go.ChangeAt Go.Joins Go.Deep in
theorem lrow_cells {w : World} {A : Option Addr} {l : List LOp} (h : LRow w A l) : ∃ news : List Value, news.length = l.length * 8 ∧ Cells w A news ∧ (∀ u ∈ news, u.oneCell' = true) ∧
    ∀ i (hi : i < l.length), ∃ (Ap As : Option Addr) (cp cs : Nat), (∀ k, k < 8 → news[i * 8 + k]? = (opC l[i] Ap As cp cs)[k]?) ∧ SRow w Ap l[i].p ∧ l[i].p.length ≤ cp ∧ Cells w As (iv l[i].shut) ∧ int64 l[i].m.id ∧ int64 l[i].n := by
  by_cases hl : l.length = 0
  · refine ⟨[], (by simp [hl]), (fun i hi => nomatch hi), (fun u hu => nomatch hu), fun i hi => by omega⟩
  obtain ⟨ad, hA, _⟩ := h 0 (by omega)
  subst hA
  have key : ∀ i (hi : i < l.length), ∃ (Ap As : Option Addr) (cp cs : Nat), (∀ k, k < 8 → w.cell? (ad.add (i * 8 + k)) = (opC l[i] Ap As cp cs)[k]?) ∧ SRow w Ap l[i].p ∧ l[i].p.length ≤ cp ∧ Cells w As (iv l[i].shut) ∧ int64 l[i].m.id ∧ int64 l[i].n := by
    intro i hi
    obtain ⟨ad', e, Ap, As, cp, cs, h0, h1, h2, h3, h4, h5, h6, h7, h8⟩ := h i hi
    cases e
    refine ⟨Ap, As, cp, cs, fun k hk => ?_, h8⟩
    match k, hk with
    | 0, _ => exact h0
    | 1, _ => exact h1
    | 2, _ => exact h2
    | 3, _ => exact h3
    | 4, _ => exact h4
    | 5, _ => exact h5
    | 6, _ => exact h6
    | 7, _ => exact h7
  have each : ∀ j, j < l.length * 8 → ∃ u, w.cell? (ad.add j) = some u ∧ u.oneCell' = true := by
    intro j hj
    have hi : j / 8 < l.length := by omega
    have hk : j % 8 < 8 := Nat.mod_lt _ (by decide)
    obtain ⟨Ap, As, cp, cs, h1, _⟩ := key (j / 8) hi
    have h2 := h1 (j % 8) hk
    rw [show j / 8 * 8 + j % 8 = j from by omega] at h2
    rw [h2]
    generalize j % 8 = k at hk
    match k, hk with
    | 0, _ => exact ⟨_, rfl, rfl⟩
    | 1, _ => exact ⟨_, rfl, rfl⟩
    | 2, _ => exact ⟨_, rfl, rfl⟩
    | 3, _ => exact ⟨_, rfl, rfl⟩
    | 4, _ => exact ⟨_, rfl, rfl⟩
    | 5, _ => exact ⟨_, rfl, rfl⟩
    | 6, _ => exact ⟨_, rfl, rfl⟩
    | 7, _ => exact ⟨_, rfl, rfl⟩
  haveI : Inhabited Value := ⟨.bool false⟩
  obtain ⟨f, hf⟩ := choose_lt each
  refine ⟨(List.range (l.length * 8)).map f, by simp, fun j hj => ?_, fun u hu => ?_, fun i hi => ?_⟩
  · have hj' : j < l.length * 8 := by simpa using hj
    exact ⟨ad, rfl, by rw [(hf j hj').1]; simp⟩
  · obtain ⟨j, hj, rfl⟩ := List.mem_map.1 hu
    exact (hf j (List.mem_range.1 hj)).2
  · obtain ⟨Ap, As, cp, cs, h1, h2⟩ := key i hi
    refine ⟨Ap, As, cp, cs, fun k hk => ?_, h2⟩
    have hb : i * 8 + k < l.length * 8 := by omega
    rw [← h1 k hk, (hf (i * 8 + k) hb).1]
    simp [hb]
theorem lrow_cons {w : World} {A : Option Addr} {l : List LOp} {o : LOp} {Ap As : Option Addr} {cp cs : Nat} {news : List Value} (hc : Cells w A ((opC o Ap As cp cs).toList ++ news)) (hl : news.length = l.length * 8)
    (ho : SRow w Ap o.p ∧ o.p.length ≤ cp ∧ Cells w As (iv o.shut) ∧ int64 o.m.id ∧ int64 o.n)
    (hr : ∀ i (hi : i < l.length), ∃ (Ap As : Option Addr) (cp cs : Nat), (∀ k, k < 8 → news[i * 8 + k]? = (opC l[i] Ap As cp cs)[k]?) ∧ SRow w Ap l[i].p ∧ l[i].p.length ≤ cp ∧ Cells w As (iv l[i].shut) ∧ int64 l[i].m.id ∧ int64 l[i].n) : LRow w A (o :: l) := by
  have at_ : ∀ j u, ((opC o Ap As cp cs).toList ++ news)[j]? = some u → ∃ ad, A = some ad ∧ w.cell? (ad.add j) = some u := by
    intro j u hj
    obtain ⟨h1, rfl⟩ := List.getElem?_eq_some_iff.1 hj
    exact hc j h1
  obtain ⟨ad, rfl, _⟩ := at_ 0 _ rfl
  have cell : ∀ j u, ((opC o Ap As cp cs).toList ++ news)[j]? = some u → w.cell? (ad.add j) = some u := by
    intro j u hj
    obtain ⟨ad', e, c⟩ := at_ j u hj
    cases e
    exact c
  intro i hi
  refine ⟨ad, rfl, ?_⟩
  cases i with
  | zero =>
    exact ⟨Ap, As, cp, cs, cell 0 _ rfl, cell 1 _ rfl, cell 2 _ rfl, cell 3 _ rfl, cell 4 _ rfl, cell 5 _ rfl, cell 6 _ rfl, cell 7 _ rfl, ho⟩
  | succ i =>
    have hi' : i < l.length := by simpa using hi
    obtain ⟨Bp, Bs, dp, ds, h1, h2⟩ := hr i hi'
    have h3 : ∀ k u, k < 8 → (opC l[i] Bp Bs dp ds)[k]? = some u → w.cell? (ad.add ((i + 1) * 8 + k)) = some u := by
      intro k u hk hu
      refine cell _ _ ?_
      rw [List.getElem?_append_right (by show 8 ≤ _; omega)]
      rw [← hu, ← h1 k hk]
      congr 1
      show (i + 1) * 8 + k - 8 = _
      omega
    exact ⟨Bp, Bs, dp, ds, h3 0 _ (by decide) rfl, h3 1 _ (by decide) rfl, h3 2 _ (by decide) rfl, h3 3 _ (by decide) rfl, h3 4 _ (by decide) rfl, h3 5 _ (by decide) rfl, h3 6 _ (by decide) rfl, h3 7 _ (by decide) rfl, h2⟩
theorem infoOp : (Try.prog.info? 55).map (fun i => (i.zero, i.size, i.bytes)) = some (some (.agg #[.int .i64 0, .int .i64 0, .int .i64 0, .int .i64 0, .int .i64 0, .slice none 0 0, .int .i64 0, .slice none 0 0]), 8, 96) := by kernel_rfl
theorem op_own (w : World) (B : Nat) (hB : B ≤ w.heap.size) (o : LOp) (Ap As : Option Addr) (cp cs : Nat) : (w.alloc (.cells (opC o Ap As cp cs) 55)).ownsRow B 55 8 (.slice (some ⟨w.heap.size, 0, none⟩) 1 1) 1 (opC o Ap As cp cs).toList :=
  ⟨rfl, .inr ⟨_, _, _, rfl, hB, blk_new _ _, Nat.le_refl _, by unfold maxLen; omega, rfl, rfl⟩⟩
set_option maxRecDepth 100000 in
open Go.ChangeShapes Go.WideShapes Go.ChangeAt Go.Joins Go.Deep in
/-- What a row of what is done weighs. -/
theorem lops_weight {H : Type} {enc : TypeId × Value → H} {W : World} {base : Nat} {held : Bool} {A : Option Addr} {n cap : Nat} {d : DataW H} {ps : List MemPlace} {ts : List TypeId} {ds : List (DataW H)} (j : Nat)
    (hsz : (DataW.weightsEach Try.prog ts ds).all (· ≤ reachBytes) = true) (hj : ts[j]? = some 45) (hd : ds[j]? = some d)
    (h : DataW.Trod enc Try.prog W base (fun _ => true) held 45 (.slice A n cap) d ps) : n * 96 ≤ 140737488351232 := by
  obtain ⟨fuel, hf⟩ := h
  rcases open_slice Try.underlying45 hf with ⟨hcs, _⟩ | ⟨x, l, c, m, n', D, Pl, hcs, _, hl, hm, hmm, hx, _⟩
  · simp [Value.cells] at hcs
    obtain ⟨rfl, rfl, rfl⟩ := hcs
    simp
  · simp [Value.cells] at hcs
    obtain ⟨rfl, rfl, rfl⟩ := hcs
    obtain ⟨hx1, _⟩ := Prod.mk.inj hx
    subst hx1
    have z := sized_slice hsz hj hd Try.underlying45
    rw [show Try.prog.bytesOf 55 = 96 from by kernel_rfl] at z
    simp only [List.length_map, List.length_range] at z
    exact Nat.le_trans (Nat.mul_le_mul_right _ (Nat.le_add_right _ _)) z
end Go.Proofs.Ytpgfenelckonoaa.La
namespace Go.Proofs.Ytpgfenelckonoaa.La
open Go.RowKit Go.Proofs.Ytpgfenelckonoaa.Kit Go.Proofs.Ytpgfenelckonoaa.ShM Go.Proofs.Ytpgfenelckonoaa.Sh Go.Proofs.Ytpgfenelckonoaa.QuM Go.Proofs.Ytpgfenelckonoaa.Qu Go.Proofs.Ytpgfenelckonoaa.LaM
open Go.Proofs.Ytpgfenelckonoaa.Ki (Row row_nil row_of iv iv_len iv_one)
set_option linter.unusedVariables false
set_option linter.unusedSimpArgs false
set_option maxRecDepth 40000 in
set_option maxHeartbeats 6400000 in
theorem standsLaw_any (A : Option Addr) (l : List LOp) (cap : Nat) (o : LOp) (Ap As : Option Addr) (cp cs : Nat) (w : World) (hr : Hid (LRow w A l)) (hl : l.length * 96 ≤ 140737488351232)
    (ho : Hid (SRow w Ap o.p ∧ o.p.length ≤ cp ∧ Cells w As (iv o.shut) ∧ int64 o.m.id ∧ int64 o.n)) :
    Calls Try.prog 6 #[.slice A l.length cap, .agg (opC o Ap As cp cs)] w fun e w' => e = .returned (.bool true) ∧ Below w.heap.size w w' := by
  obtain ⟨W1, hW1⟩ : ∃ W1, W1 = w.alloc (.cells (opC o Ap As cp cs) 55) := ⟨_, rfl⟩
  have hb1 : Below w.heap.size w W1 := by rw [hW1]; exact (Below.refl _ _).alloc (Nat.le_refl _) _
  have hox : W1.heap[w.heap.size]? = some (.cells (opC o Ap As cp cs) 55 (0, 0)) := by rw [hW1]; exact blk_new _ _
  have HA := Kit.hid (awake_lane W1)
  have HOW := Kit.hid fun w => op_own w w.heap.size (Nat.le_refl _) o Ap As cp cs
  have HLC := Kit.hid (lrow_cells hr.out)
  have HLN := Kit.hid fun (w' : World) (A' : Option Addr) (news : List Value) => lrow_cons (w := w') (A := A') (l := l) (o := o) (Ap := Ap) (As := As) (cp := cp) (cs := cs) (news := news)
  have HOM := Kit.hid fun (wr : World) (G : Nat → Prop) (hb : Below w.heap.size w wr) (hG : ∀ k, G k → w.heap.size ≤ k) => op_mem (Ap := Ap) (As := As) (cp := cp) (cs := cs) hb hG ho.out
  have HOX := Kit.hid hox
  unfold opC at hW1 HOW ⊢
  have HB1 := Kit.hid hb1
  clear hb1 hox
  go_enter Try.func6, Try.ntmps6
  go_wp2_with fail
  rw [← hW1]
  clear hW1
  (with_reducible refine HA.out.mono ?_); rintro e w2 ⟨rfl, hb2⟩
  have HB2 := Kit.hid (HB1.out.trans (hb2.mono HB1.out.size))
  have hox2 := (hb2.block _ (Array.getElem?_eq_some_iff.1 HOX.out).1).trans HOX.out
  have HOX2 := Kit.hid hox2
  unfold opC at hox2
  have o0 := blk_cell hox2 0
  have o1 := blk_cell hox2 1
  have o2 := blk_cell hox2 2
  have o3 := blk_cell hox2 3
  have o4 := blk_cell hox2 4
  have o5 := blk_cell hox2 5
  have o6 := blk_cell hox2 6
  have o7 := blk_cell hox2 7
  have lo := blk_lt hox2
  clear hb2 hox2 HA HOX HB1
  have how := HOW.out w2
  obtain ⟨w3, hw3⟩ : ∃ w3, w3 = w2.alloc (.cells #[.int .i64 o.d, .int .i64 o.m.id, .int .i64 o.m.wt, .int .i64 o.m.v, .int .i64 o.m.rem, .slice Ap o.p.length cp, .int .i64 o.n, .slice As o.shut.length cs] 55) := ⟨_, rfl⟩
  have HB3 : Hid (Below w2.heap.size w2 w3) := Kit.hid (by rw [hw3]; exact (Below.refl _ _).alloc (Nat.le_refl _) _)
  have HBW3 : Hid (Below w.heap.size w w3) := Kit.hid (HB2.out.trans (HB3.out.mono HB2.out.size))
  obtain ⟨news, hnl, hnc0, hno, hnr⟩ := HLC.out
  have hnc := cells_over hnc0 HBW3.out
  rw [hw3] at hnc
  have HNL := Kit.hid hnl
  have HNR := Kit.hid hnr
  have HNC := Kit.hid hnc
  have HNO := Kit.hid hno
  have HOWN := Kit.hid how
  have HW3 := Kit.hid hw3
  clear hnl hnr hnc hnc0 hno how hw3 HLC
  go_wp2_with (at_builtin; refine wpList_append_srcS rfl _ _ 45 rfl w2.heap.size 55 (.agg #[.int .i64 0, .int .i64 0, .int .i64 0, .int .i64 0, .int .i64 0, .slice none 0 0, .int .i64 0, .slice none 0 0]) 8 96 (by decide) Try.underlying45 infoOp rfl (.slice (some ⟨w2.heap.size, 0, none⟩) 1 1) 1 _ rfl HOWN.out A l.length cap news rfl HNL.out HNC.out HNO.out (by unfold maxLen; omega) (by omega) (by simp) ?_
               intro v7 w7 hown7 hg7 _
               have hg8 := hg7
               rw [← HW3.out] at hg8
               have hb7 : Below w2.heap.size w2 w7 := HB3.out.grown hg8 HB3.out.size fun k hk => by cases hk; exact Nat.le_refl _
               have HB7 := Kit.hid (HB2.out.trans (hb7.mono HB2.out.size))
               obtain ⟨A7, c7, e7, hc7, _, _⟩ := own_readsS (by decide) hown7
               have HCC7 := Kit.hid hc7
               have HB27 := Kit.hid hb7
               have HG7 := Kit.hid hg8
               subst e7
               rw [show 1 + l.length = l.length + 1 from Nat.add_comm 1 _]
               clear hown7 hg7 hg8 hb7 hc7)
  have HLR7 : Hid (LRow w7 A7 (o :: l)) := Kit.hid (by
    obtain ⟨h1, h2, h3, h4⟩ := ho.out
    refine HLN.out w7 A7 news HCC7.out HNL.out ⟨h1.below HB7.out, h2, cells_over h3 HB7.out, h4⟩ fun i hi => ?_
    obtain ⟨Bp, Bs, dp, ds, g1, g2, g3, g4, g5⟩ := HNR.out i hi
    exact ⟨Bp, Bs, dp, ds, g1, g2.below HB7.out, g3, cells_over g4 HB7.out, g5⟩)
  have HF := Kit.hid (few_any A7 (o :: l) c7 w7 HLR7 (by rw [List.length_cons]; omega))
  rw [List.length_cons] at HF
  obtain ⟨f1, hf1⟩ : ∃ f1, f1 = fewS (o :: l) := ⟨_, rfl⟩
  have HE1 := Kit.hid hf1
  rw [← hf1] at HF
  clear hf1
  (with_reducible refine HF.out.mono ?_); rintro e w8 ⟨rfl, rfl⟩
  cases f1 with
  | false =>
    go_wp2
    go_ret
    exact ⟨rfl, HB7.out⟩
  | true =>
  have hfe := few_ok HE1.out.symm
  have HFL : Hid (fewS l = true) := Kit.hid (by
    have := HE1.out
    unfold fewS at this ⊢
    simp at this ⊢
    exact ⟨fun x hx => this.1.2 x hx, by omega⟩)
  obtain ⟨ho8, hos8⟩ := hfe.1 o (by simp)
  have HWK := Kit.hid (walked_lane A l cap w8 (Kit.hid (hr.out.below HB7.out)) HFL.out)
  have HWL : Hid (WL (walkedS l)) := Kit.hid (walkedS_ok l fun o ho => ((few_ok HFL.out).1 o ho).1)
  have hl40 : l.length ≤ 40 := (few_ok HFL.out).2
  obtain ⟨S, hS⟩ : ∃ S, S = walkedS l := ⟨_, rfl⟩
  rw [← hS] at HWK HWL
  have HSB : Hid (w.heap.size ≤ w8.heap.size) := Kit.hid HB7.out.size
  have HOX8 : Hid (w8.heap[w.heap.size]? = some (.cells (opC o Ap As cp cs) 55 (0, 0))) := Kit.hid ((HB27.out.block _ (Array.getElem?_eq_some_iff.1 HOX2.out).1).trans HOX2.out)
  clear hS hfe HF HLR7 HG7 HCC7 HNL HNR HNC HNO HOWN HW3 HLN HOW HB3 HBW3 o0 o1 o2 o3 o4 o5 o6 o7 lo
  go_wp2_with fail
  (with_reducible refine HWK.out.mono ?_); rintro e wa ⟨lp, rfl, hla⟩
  have HDa := Kit.hid (Bye.of_ln hla)
  obtain ⟨Ga, a1, a2, a3⟩ := HDa.out.lane
  have HTS := Kit.hid (tasks_lane a1 (by omega))
  have htl : S.tasks.length ≤ 100000 := by
    obtain ⟨mb, mh, mk, vt, Qp, Fq, _, hx⟩ := a1
    have := hx.tn
    omega
  clear hla HWK a1 a2 a3
  go_wp2_with fail
  (with_reducible refine HTS.out.mono ?_); rintro e wb ⟨vt, rfl, hrt, hbb⟩
  have HDb := Kit.hid (HDa.out.add hbb vt hrt.own_lt)
  have HRTb := Kit.hid hrt
  obtain ⟨Gb, b1, b2, b3⟩ := HDb.out.laneO
  have HQ := Kit.hid (queue_lane 0 b1 (by omega) (by omega) (by constructor <;> omega))
  have HLb := Kit.hid b3
  have hql := b1.qn 0
  obtain ⟨At, ct, rfl, _, _, _⟩ := hrt.reads
  clear hrt hbb b1 b2 b3 HTS HDa
  go_wp2_with fail
  (with_reducible refine HQ.out.mono ?_); rintro e wc ⟨vq, rfl, hvq, hlo⟩
  obtain ⟨hDc, hkc⟩ := HLb.out _ _ _ _ hlo
  have HRTc := Kit.hid (HRTb.out.same fun g hg => hkc g (.inr hg))
  have HDc := Kit.hid hDc
  obtain ⟨Aq, cq, rfl, hcq, _, _⟩ := own_readsS (by decide) hvq
  have HTRc := Kit.hid (trow_cells hcq)
  obtain ⟨Gc, c1, c2, c3⟩ := HDc.out.lane
  have HPK := Kit.hid (pick_lane none [] 0 c1 HWL.out (by omega) (by omega) (fun i hi => nomatch hi) (fun h => absurd rfl h) (by simp))
  have HLc := Kit.hid c3
  obtain ⟨id, hid⟩ : ∃ id, id = pickS S [] := ⟨_, rfl⟩
  have HID := Kit.hid hid
  rw [← hid, List.length_nil] at HPK
  clear hvq hlo hDc hkc hcq c1 c2 c3 HQ HLb HRTb HDb hid
  go_wp2_with fail
  (with_reducible refine HPK.out.mono ?_); rintro e wd ⟨rfl, hld⟩
  obtain ⟨hDd, hkd⟩ := HLc.out _ _ _ hld
  have HDd := Kit.hid hDd
  have HRTd := Kit.hid (HRTc.out.same fun g hg => hkd g (.inl (.inr hg)))
  have HTRd := Kit.hid (trow_same HTRc fun ad ha => hkd ad.block (.inr (by rw [ha]; rfl)))
  obtain ⟨Gd, d1, d2, d3⟩ := HDd.out.lane
  have HBWd : Hid (Below w.heap.size w wd) := Kit.hid (HB7.out.trans (HDd.out.bel.mono HB7.out.size))
  have HDO := Kit.hid (do_lane o Ap As cp cs d1 HWL.out (HOM.out wd Gd HBWd.out fun k hk => Nat.le_trans HSB.out (d2 k hk)) ho8 hos8 (by omega) (by omega))
  have HLd := Kit.hid d3
  have hoxd := (HDd.out.bel.block _ (Array.getElem?_eq_some_iff.1 HOX8.out).1).trans HOX8.out
  unfold opC at hoxd
  have o0 := blk_cell hoxd 0
  have o1 := blk_cell hoxd 1
  have o2 := blk_cell hoxd 2
  have o3 := blk_cell hoxd 3
  have o4 := blk_cell hoxd 4
  have o5 := blk_cell hoxd 5
  have o6 := blk_cell hoxd 6
  have o7 := blk_cell hoxd 7
  have lo := blk_lt hoxd
  unfold opC at HDO
  obtain ⟨md, hmd⟩ : ∃ md, md = mO (doS S o).1 := ⟨_, rfl⟩
  obtain ⟨ec, hec⟩ : ∃ ec, ec = (doS S o).2.1 := ⟨_, rfl⟩
  obtain ⟨S2, hS2⟩ : ∃ S2, S2 = (doS S o).2.2 := ⟨_, rfl⟩
  rw [← hmd, ← hec, ← hS2] at HDO
  have HEC := Kit.hid hec
  have HS2 := Kit.hid hS2
  have HWL2 : Hid (WL S2) := Kit.hid (by rw [hS2]; exact HWL.out.doS o ho8)
  unfold memV at HDO
  clear hld hDd hkd d1 d2 d3 hoxd hmd hec hS2 HPK HLc HRTc HTRc HDc
  go_wp2_with fail
  (with_reducible refine HDO.out.mono ?_); rintro e we ⟨rfl, hle⟩
  obtain ⟨hDe, hke⟩ := HLd.out _ _ _ hle
  have HRTe := Kit.hid (HRTd.out.same fun g hg => hke g (.inl (.inr hg)))
  have HTRe := Kit.hid (trow_same HTRd fun ad ha => hke ad.block (.inr (by rw [ha]; rfl)))
  obtain ⟨wf, hwf⟩ : ∃ wf, wf = we.alloc (.cells #[.int .i64 md.id, .int .i64 md.wt, .int .i64 md.v, .int .i64 md.rem] 35) := ⟨_, rfl⟩
  have hbf : Below we.heap.size we wf := by rw [hwf]; exact (Below.refl _ _).alloc (Nat.le_refl _) _
  have HDf := Kit.hid (hDe.below hbf)
  have HRTf := Kit.hid (HRTe.out.below hbf)
  have HTRf := Kit.hid (trow_below HTRe hbf)
  clear hle hDe hke hbf HDO HLd HRTd HTRd HRTe HTRe o0 o1 o2 o3 o4 o5 o6 o7 lo
  by_cases h0 : ec = 0
  subst h0
  go_wp2_with fail
  rw [← hwf]
  clear hwf
  obtain ⟨wz, hwz⟩ : ∃ wz, wz = wf := ⟨_, rfl⟩
  subst hwz
  obtain ⟨nz, hnz, HDZ⟩ : ∃ nz, nz ≤ 3900 ∧ Hid (Bye w8 wz lp S2 nz (fun _ => False)) := ⟨_, by omega, Kit.hid (HDf.out.less fun k hk => hk.elim)⟩
  clear HDf HRTf HTRf
  rotate_left
  have hne : (ec != 0) = true := by simpa using h0
  have hSS : S2 = S := by rw [HS2.out]; exact do_fails S o (by rw [← HEC.out]; exact h0)
  subst hSS
  go_wp2_with fail
  rw [← hwf]
  clear hwf
  obtain ⟨Gf, f1, f2, f3⟩ := HDf.out.lane
  have HTS2 := Kit.hid (tasks_lane f1 (by omega))
  clear f1 f2 f3
  (with_reducible refine HTS2.out.mono ?_); rintro e wg ⟨vt2, rfl, hrt2, hbg⟩
  have HDg := Kit.hid (HDf.out.below hbg)
  have HRTg := Kit.hid (HRTf.out.below hbg)
  have HTRg := Kit.hid (trow_below HTRf hbg)
  have HSM := Kit.hid (rsame_any HRTg.out hrt2 (by omega) (by omega))
  rw [decide_eq_true rfl] at HSM
  obtain ⟨At2, ct2, rfl, _, _, _⟩ := hrt2.reads
  clear hrt2 hbg HTS2 HDf HRTf HTRf
  go_wp2_with fail
  (with_reducible refine HSM.out.mono ?_); rintro e wh ⟨rfl, hbh⟩
  have HDh := Kit.hid (HDg.out.below hbh)
  have HTRh := Kit.hid (trow_below HTRg hbh)
  obtain ⟨Gh, h1, h2, h3⟩ := HDh.out.laneO
  have HQ2 := Kit.hid (queue_lane 0 h1 (by omega) (by omega) (by constructor <;> omega))
  have HLh := Kit.hid h3
  clear hbh h1 h2 h3 HDg HRTg HTRg HSM
  go_wp2_with fail
  (with_reducible refine HQ2.out.mono ?_); rintro e wi ⟨vq2, rfl, hvq2, hlo2⟩
  obtain ⟨hDi, hki⟩ := HLh.out _ _ _ _ hlo2
  have HTRi := trow_same HTRh fun ad ha => hki ad.block (.inr (by rw [ha]; rfl))
  obtain ⟨Aq2, cq2, rfl, hcq2, _, _⟩ := own_readsS (by decide) hvq2
  have HQS := Kit.hid (qsame_any Aq Aq2 _ _ cq cq2 wi HTRi (trow_cells hcq2) (by rw [told_len]; omega) (by rw [told_len]; omega))
  rw [told_len, decide_eq_true rfl] at HQS
  have HDi := Kit.hid (hDi.less (K' := fun _ => False) fun k hk => hk.elim)
  clear hvq2 hlo2 hDi hki hcq2 HQ2 HLh HDh HTRh
  go_wp2_with fail
  (with_reducible refine HQS.out.mono ?_); rintro e wj ⟨rfl, mm, rfl⟩
  have hDj := HDi.out.below (below_drewN (Below.refl _ _) mm)
  obtain ⟨Gj, j1, j2, j3⟩ := hDj.lane
  have HPK2 := Kit.hid (pick_lane none [] 0 j1 HWL2.out (by omega) (by omega) (fun i hi => nomatch hi) (fun h => absurd rfl h) (by simp))
  rw [← HID.out, List.length_nil] at HPK2
  have HLj := Kit.hid j3
  clear hDj j1 j2 j3 HQS HTRi
  go_wp2_with fail
  (with_reducible refine HPK2.out.mono ?_); rintro e wz ⟨rfl, hlz⟩
  obtain ⟨hDz, _⟩ := HLj.out _ _ _ hlz
  obtain ⟨nz, hnz, HDZ⟩ : ∃ nz, nz ≤ 3900 ∧ Hid (Bye w8 wz lp S2 nz (fun _ => False)) := ⟨_, by omega, Kit.hid hDz⟩
  clear hlz hDz HLj HPK2 HDi
  go_wp2_with fail
  all_goals
    obtain ⟨Gz, z1, z2, z3⟩ := HDZ.out.lane
    have HTSz := Kit.hid (tasks_lane z1 (by omega))
    have HGz := Kit.hid z1
    have HDB : Hid (Below w.heap.size w wz) := Kit.hid (HB7.out.trans (HDZ.out.bel.mono HB7.out.size))
    have htl2 : S2.tasks.length ≤ 100000 := by
      obtain ⟨mb, mh, mk, vt, Qp, Fq, _, hx⟩ := z1
      have := hx.tn
      omega
    clear z1 z2 z3 HDZ
    (with_reducible refine HTSz.out.mono ?_); rintro e wt ⟨vtt, rfl, hrtt, hbt⟩
    have HRT := Kit.hid hrtt
    have HB0 := Kit.hid (HDB.out.trans (hbt.mono HDB.out.size))
    have HG0 := Kit.hid (HGz.out.below hbt)
    obtain ⟨T, hT⟩ : ∃ T, T = S2.tasks := ⟨_, rfl⟩
    have HTT := Kit.hid hT
    obtain ⟨Att, ctt, rfl, _, _, _⟩ := hrtt.reads
    rw [← hT] at HRT htl2 ⊢
    have HTH : Hid (∀ t ∈ T, (S2.home t).isSome = true) := Kit.hid (fun t ht => HWL2.out.isHome t (by rw [← HTT.out]; exact ht))
    clear hrtt hbt HTSz HDB HGz hT
    go_wp2_with fail
    go_loopw [13] (fun v13 wr => ∃ (i : Nat), i ≤ T.length ∧ v13 = .int .i64 i ∧ Hid (Below wt.heap.size wt wr)) (fun i _ => T.length - (intOf i).toNat)
    case atStart => exact ⟨0, by omega, rfl, Kit.hid (Below.refl _ _)⟩
    case round =>
      obtain ⟨i, hi, rfl, HB⟩ := hrel
      by_cases hlt : i < T.length
      · obtain ⟨t, ht⟩ : ∃ t, T[i]? = some t := ⟨_, List.getElem?_eq_getElem hlt⟩
        obtain ⟨A', c', hv', hcs, _⟩ := (HRT.out.below HB.out).reads
        cases hv'
        obtain ⟨ad, hA, k0⟩ := cells_at hcs ht
        subst hA
        have hil : (i : Int) < (T.length : Int) := by omega
        have z1 : (0 : Int) ≤ (i : Int) := by omega
        have hth := HTH.out t (List.mem_of_getElem? ht)
        have HWY := Kit.hid (way_lane t (HG0.out.below HB.out) HWL2.out (home_int HWL2.out hth))
        have HSW := Kit.hid (steps_way HWL2.out hth)
        obtain ⟨wy, hwy⟩ : ∃ wy, wy = wayS S2 t := ⟨_, rfl⟩
        have hw8 : wy.length ≤ 8 := by rw [hwy]; exact way_len HWL2.out t
        rw [← hwy] at HWY HSW
        have ht0 := ht
        clear hcs ht hwy hth
        go_wp2_with fail
        (with_reducible refine HWY.out.mono ?_); rintro e w6 ⟨vy, rfl, hry, hb6⟩
        have HB6 := Kit.hid (HB.out.trans (hb6.mono HB.out.size))
        have HRY := Kit.hid hry
        obtain ⟨wu, hwu⟩ : ∃ wu, wu = w6.alloc (.cells #[.int .i64 0] 3) := ⟨_, rfl⟩
        have hbu : Below w6.heap.size w6 wu := by rw [hwu]; exact (Below.refl _ _).alloc (Nat.le_refl _) _
        have HBU := Kit.hid (HB6.out.trans (hbu.mono HB6.out.size))
        have hown : (w6.alloc (.cells #[.int .i64 0] 3)).ownsRow wr.heap.size 3 1 vy wy.length (iv wy) := hry.below ((Below.refl _ _).alloc (Nat.le_refl _) _)
        have HOWN := Kit.hid hown
        have HLI := Kit.hid (lit_int w6 0)
        have HWU := Kit.hid hwu
        have HSZ6 : Hid (wr.heap.size ≤ w6.heap.size) := Kit.hid hb6.size
        clear hry hb6 HWY k0 hwu hbu hown
        go_wp2_with (at_builtin; refine wpList_append_src rfl _ _ 36 rfl wr.heap.size 3 (.int .i64 0) 8 Try.underlying36 infoI rfl vy _ _ rfl HOWN.out (some ⟨w6.heap.size, 0, none⟩) 1 1 [.int .i64 0] rfl rfl HLI.out (fun u hu => by rw [List.mem_singleton.1 hu]; rfl) (by unfold maxLen; omega) (by omega) (by rw [World.size_alloc]; have := HSZ6.out; omega) ?_
                     intro v7 w7 hown7 hg7 _
                     have HR7 : Hid (Row wr.heap.size w7 v7 (wy ++ [0])) := Kit.hid (row_push (k := [0]) hown7)
                     rw [← HWU.out] at hg7
                     have HB7 : Hid (Below wt.heap.size wt w7) := Kit.hid (HBU.out.grown hg7 HBU.out.size fun k hk => Nat.le_trans HB.out.size (HOWN.out.lt k hk).1)
                     obtain ⟨Ay, cy, ey, _, _, _⟩ := HR7.out.reads
                     have hyl : (wy ++ [0]).length = wy.length + 1 := by simp
                     rw [hyl] at ey
                     subst ey
                     clear hown7 hg7 hyl)
        have HT := Kit.hid ht0
        go_loopw [14, 16] (fun v14 v16 wr => ∃ (k : Nat) (y : Int), k ≤ wy.length + 1 ∧ v16 = .int .i64 k ∧ v14 = .int .i64 y ∧ Hid ((t :: (wy ++ [0]))[k]? = some y) ∧ Hid (Below w7.heap.size w7 wr)) (fun _ k _ => wy.length + 1 - (intOf k).toNat)
        case atStart => exact ⟨0, t, by omega, rfl, rfl, Kit.hid rfl, Kit.hid (Below.refl _ _)⟩
        case round =>
          obtain ⟨k, y, hk, rfl, rfl, HY, HBk⟩ := hrel
          by_cases hkt : k < wy.length + 1
          · obtain ⟨y', j, e1, e2, e3⟩ := HSW.out k (by omega)
            have hyy : y' = y := by
              have h := HY.out
              rw [← List.cons_append, List.getElem?_append_left (by rw [List.length_cons]; omega), e1] at h
              exact Option.some.inj h
            subst hyy
            have HE2 := Kit.hid e2
            have HE3 := Kit.hid e3
            have hkl : (k : Int) < (wy.length : Int) + 1 := by omega
            have zk : (0 : Int) ≤ (k : Int) := by omega
            have hyi := home_int HWL2.out (x := y') (by rw [e3]; rfl)
            have HBt := Kit.hid (HB7.out.trans (HBk.out.mono HB7.out.size))
            have hgk := HG0.out.below HBt.out
            have hji := hgk.rng e3
            have HGT := Kit.hid (get_full y' j hgk HWL2.out (by omega) hyi e3)
            have hfu := home_full HWL2.out e3
            obtain ⟨m, hm⟩ : ∃ m, m = memS S2 j y' := ⟨_, rfl⟩
            have HMID : Hid (m.id = y') := Kit.hid (by
              obtain ⟨z, hz, _, hzi⟩ := member_some HWL2.out e3
              rw [hm]; unfold memS; rw [hz]; exact hzi)
            have HONE := Kit.hid (told_once HWL2.out e3)
            have HPOS := Kit.hid (told_pos HWL2.out j)
            have HFU := Kit.hid hfu
            have HJI := Kit.hid hji
            rw [← hm] at HGT HONE
            unfold memV at HGT
            clear e1 e2 e3 hyi hgk hji hfu hm
            go_wp2_with fail
            (with_reducible refine HGT.out.mono ?_); rintro e w8' ⟨rfl, hb8⟩
            obtain ⟨wm, hwm⟩ : ∃ wm, wm = w8'.alloc (.cells #[.int .i64 m.id, .int .i64 m.wt, .int .i64 m.v, .int .i64 m.rem] 35) := ⟨_, rfl⟩
            have hbm : Below w8'.heap.size w8' wm := by rw [hwm]; exact (Below.refl _ _).alloc (Nat.le_refl _) _
            have HB8 := Kit.hid (hb8.trans (hbm.mono hb8.size))
            have HXM : Hid (wm.heap[w8'.heap.size]? = some (.cells #[.int .i64 m.id, .int .i64 m.wt, .int .i64 m.v, .int .i64 m.rem] 35 (0, 0))) := Kit.hid (by rw [hwm]; exact blk_new _ _)
            have HBm := Kit.hid (HBt.out.trans (HB8.out.mono HBt.out.size))
            have HQF := Kit.hid (queue_full j (HG0.out.below HBm.out) (by omega) HJI.out HFU.out)
            have HQN := HG0.out.qn j
            obtain ⟨ay, hAy, y0⟩ := cells_at (cells_over (row_cells2 (by have := HR7.out; exact this)) (HBk.out.trans (HB8.out.mono HBk.out.size))) HE2.out
            subst hAy
            rw [hwm] at y0
            clear hb8 hbm HGT
            go_wp2_with fail
            rw [← hwm]
            clear hwm y0
            (with_reducible refine HQF.out.mono ?_); rintro e w9 ⟨vq9, rfl, hvq9, hb9⟩
            obtain ⟨A9, c9, rfl, hc9, _, _⟩ := own_readsS (by decide) hvq9
            have HT9 := Kit.hid (trow_cells hc9)
            have HX9 := Kit.hid ((hb9.block _ (Array.getElem?_eq_some_iff.1 HXM.out).1).trans HXM.out)
            have HB9 := Kit.hid (HBk.out.trans ((HB8.out.trans (hb9.mono HB8.out.size)).mono HBk.out.size))
            obtain ⟨L, hL⟩ : ∃ L, L = told (S2.Q j).2 (S2.Q j).1 := ⟨_, rfl⟩
            have hLl : L.length = (S2.Q j).1.length := by rw [hL, told_len]
            rw [← hL] at HT9 HONE HPOS
            rw [← hLl] at HQN ⊢
            obtain ⟨x8, hx8⟩ : ∃ x8, x8 = w8'.heap.size := ⟨_, rfl⟩
            rw [← hx8] at HX9 ⊢
            clear hvq9 hb9 hc9 HQF HXM hx8 hL hLl HBm HB8 HBt
            go_wp2_with fail
            go_loopw [20, 21] (fun v20 v21 wr => ∃ jj cn : Nat, jj ≤ L.length ∧ cn ≤ jj ∧ v21 = .int .i64 jj ∧ v20 = .int .i64 cn ∧ Hid (cn = (L.take jj).countP (fun y => decide (y = m))) ∧ Hid (Below w9.heap.size w9 wr)) (fun _ j _ => L.length - (intOf j).toNat)
            case atStart => exact ⟨0, 0, by omega, by omega, rfl, rfl, Kit.hid rfl, Kit.hid (Below.refl _ _)⟩
            case round =>
              obtain ⟨jj, cn, hjj, hcn, rfl, rfl, HCN, HBj⟩ := hrel
              by_cases hjt : jj < L.length
              · obtain ⟨z, hz⟩ : ∃ z, L[jj]? = some z := ⟨_, List.getElem?_eq_getElem hjt⟩
                obtain ⟨zd, hAz, u0, u1, u2, u3⟩ := t_at (trow_below HT9 HBj.out) hz
                subst hAz
                have hx := (HBj.out.block _ (Array.getElem?_eq_some_iff.1 HX9.out).1).trans HX9.out
                have p0 := blk_cell hx 0
                have p1 := blk_cell hx 1
                have p2 := blk_cell hx 2
                have p3 := blk_cell hx 3
                have pl := blk_lt hx
                have ul := cell_lt u0
                have hjl : (jj : Int) < (L.length : Int) := by omega
                have zj : (0 : Int) ≤ (jj : Int) := by omega
                have zv : decide (z.v < 0) = false := decide_eq_false (by have := HPOS.out z (List.mem_of_getElem? hz); omega)
                have hsn := cnt_snoc (m := m) hz
                by_cases hzm : z = m
                · have heq : ∀ w', (binOp .eql 35 (.agg #[.int .i64 z.id, .int .i64 z.wt, .int .i64 z.v, .int .i64 z.rem]) (.agg #[.int .i64 m.id, .int .i64 m.wt, .int .i64 m.v, .int .i64 m.rem])).run Try.prog w' = .ok (.bool true) w' := fun w' => by rw [eql_mem, decide_eq_true hzm]
                  have HN : Hid (cn + 1 = (L.take (jj + 1)).countP (fun y => decide (y = m))) := Kit.hid (by rw [hsn, if_pos hzm, ← HCN.out])
                  clear hx hsn hz hzm
                  go_wp2_with fail
                  go_quiet (fail)
                  go_wp2_with fail
                  go_roundw
                  case rel => exact ⟨jj + 1, cn + 1, by omega, by omega, by go_num, by go_num, HN, Kit.hid (below_drewN HBj.out _)⟩
                  case measure => simp [intOf]; omega
                · have heq : ∀ w', (binOp .eql 35 (.agg #[.int .i64 z.id, .int .i64 z.wt, .int .i64 z.v, .int .i64 z.rem]) (.agg #[.int .i64 m.id, .int .i64 m.wt, .int .i64 m.v, .int .i64 m.rem])).run Try.prog w' = .ok (.bool false) w' := fun w' => by rw [eql_mem, decide_eq_false hzm]
                  have HN : Hid (cn = (L.take (jj + 1)).countP (fun y => decide (y = m))) := Kit.hid (by rw [hsn, if_neg hzm, Nat.add_zero, ← HCN.out])
                  clear hx hsn hz hzm
                  go_wp2_with fail
                  go_quiet (fail)
                  go_wp2_with fail
                  go_roundw
                  case rel => exact ⟨jj + 1, cn, by omega, by omega, by go_num, by go_num, HN, Kit.hid (below_drewN HBj.out _)⟩
                  case measure => simp [intOf]; omega
              · obtain rfl : jj = L.length := by omega
                obtain rfl : cn = 1 := by have := HCN.out; rw [List.take_length, HONE.out] at this; exact this
                have hx := (HBj.out.block _ (Array.getElem?_eq_some_iff.1 HX9.out).1).trans HX9.out
                have p0 := blk_cell hx 0
                have pl := blk_lt hx
                rw [HMID.out] at p0
                have HB10 := Kit.hid (HB9.out.trans (HBj.out.mono HB9.out.size))
                obtain ⟨ay', hAy, y0⟩ := cells_at (cells_over (row_cells2 (by have := HR7.out; exact this)) HB10.out) HE2.out
                cases hAy
                clear hx
                go_wp2_with fail
                go_roundw
                case rel => exact ⟨k + 1, j, by omega, by go_num, rfl, Kit.hid (by rw [List.getElem?_cons_succ]; exact HE2.out), HB10⟩
                case measure => simp [intOf]; omega
          · obtain rfl : k = wy.length + 1 := by omega
            have HBK := Kit.hid (HB7.out.trans (HBk.out.mono HB7.out.size))
            go_wp2_with fail
            go_roundw
            case rel => exact ⟨i + 1, by omega, by go_num, HBK⟩
            case measure => simp [intOf]; omega
      · obtain rfl : i = T.length := by omega
        have HBE := Kit.hid (HB0.out.trans (HB.out.mono HB0.out.size))
        go_wp2
        go_ret
        exact ⟨rfl, HBE.out⟩
end Go.Proofs.Ytpgfenelckonoaa.La

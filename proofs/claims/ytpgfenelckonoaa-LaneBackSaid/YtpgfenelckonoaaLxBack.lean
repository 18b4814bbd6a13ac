/- The law LaneBack. -/
import Derived.Test.YtpgfenelckonoaaLxF
import Derived.Test.YtpgfenelckonoaaOwnS
namespace Go.Proofs.Ytpgfenelckonoaa.LaM
open Go.Proofs.Ytpgfenelckonoaa.ShM Go.Proofs.Ytpgfenelckonoaa.QuM
set_option linter.unusedVariables false
theorem way_steps {S : LS} : ∀ {l : List Int} {t g : Int}, S.home t = some g → IsWay S g l → ∀ k, k ≤ l.length → ∃ y j, (t :: l)[k]? = some y ∧ (l ++ [0])[k]? = some j ∧ S.home y = some j
  | [], t, g, ht, hw, k, hk => by
    obtain rfl : k = 0 := by simpa using hk
    have : g = 0 := hw
    subst this
    exact ⟨t, 0, rfl, rfl, ht⟩
  | x :: l, t, g, ht, hw, k, hk => by
    obtain ⟨rfl, h0, hn, h, hh, hl⟩ := hw
    cases k with
    | zero => exact ⟨t, x, rfl, rfl, ht⟩
    | succ k =>
      obtain ⟨y, j, e1, e2, e3⟩ := way_steps hh hl k (by simpa using hk)
      exact ⟨y, j, e1, e2, e3⟩
theorem cnt_snoc {l : List Mem} {m x : Mem} {i : Nat} (h : l[i]? = some x) : (l.take (i + 1)).countP (fun y => decide (y = m)) = (l.take i).countP (fun y => decide (y = m)) + (if x = m then 1 else 0) := by
  rw [List.take_add_one, h, List.countP_append]
  simp [List.countP_cons]
theorem cnt_none {m : Mem} : ∀ {l : List Mem}, (∀ y ∈ l, y.id ≠ m.id) → l.countP (fun y => decide (y = m)) = 0
  | l, h => by
    rw [List.countP_eq_zero]
    intro y hy e
    have := of_decide_eq_true e
    exact h y hy (by rw [this])
theorem cnt_one {m : Mem} : ∀ {l : List Mem}, l.Pairwise (fun a b => a.id ≠ b.id) → m ∈ l → l.countP (fun y => decide (y = m)) = 1
  | [], _, h => by cases h
  | y :: l, hp, h => by
    obtain ⟨h1, h2⟩ := List.pairwise_cons.1 hp
    rw [List.countP_cons]
    rcases List.mem_cons.1 h with rfl | h
    · rw [cnt_none (fun z hz e => h1 z hz e.symm)]
      simp
    · have hne : y ≠ m := fun e => h1 m h (by rw [e])
      rw [cnt_one h2 h]
      simp [hne]
end Go.Proofs.Ytpgfenelckonoaa.LaM
namespace Go.Proofs.Ytpgfenelckonoaa.La
open Go.RowKit Go.Proofs.Ytpgfenelckonoaa.Kit Go.Proofs.Ytpgfenelckonoaa.ShM Go.Proofs.Ytpgfenelckonoaa.Sh Go.Proofs.Ytpgfenelckonoaa.QuM Go.Proofs.Ytpgfenelckonoaa.Qu Go.Proofs.Ytpgfenelckonoaa.LaM
open Go.Proofs.Ytpgfenelckonoaa.Ki (Row row_nil row_of iv iv_len iv_one)
set_option linter.unusedVariables false
set_option linter.unusedSimpArgs false
theorem steps_way {S : LS} (wl : WL S) {t : Int} (ht : (S.home t).isSome = true) : ∀ k, k ≤ (wayS S t).length → ∃ y j, (t :: wayS S t)[k]? = some y ∧ (wayS S t ++ [0])[k]? = some j ∧ S.home y = some j := by
  cases hh : S.home t with
  | none => rw [hh] at ht; cases ht
  | some g =>
    obtain ⟨l, h1, _, h3⟩ := way_is wl hh
    rw [h3]
    exact way_steps hh h1
theorem told_once {S : LS} (wl : WL S) {x j : Int} (h : S.home x = some j) : (told (S.Q j).2 (S.Q j).1).countP (fun y => decide (y = memS S j x)) = 1 := by
  obtain ⟨y, hy, hm, hi⟩ := member_some wl h
  have e : memS S j x = { y with v := y.v - (S.Q j).2 } := by unfold memS; rw [hy]
  rw [e]
  refine cnt_one ?_ ?_
  · unfold told
    rw [List.pairwise_map]
    exact (wl.wq j).uniq
  · exact List.mem_map.2 ⟨y, hm, rfl⟩
theorem told_pos {S : LS} (wl : WL S) (j : Int) : ∀ m ∈ told (S.Q j).2 (S.Q j).1, 0 ≤ m.v := by
  intro m hm
  obtain ⟨y, hy, rfl⟩ := List.mem_map.1 hm
  have := (wl.qb j).each y hy
  show 0 ≤ y.v - (S.Q j).2
  omega
theorem row_cells2 {B : Nat} {w : World} {A : Option Addr} {n c : Nat} {l : List Int} (h : Row B w (.slice A n c) l) : Cells w A (iv l) := by
  obtain ⟨A', c', e, hc, _⟩ := h.reads
  cases e
  exact hc
theorem eql_mem (a b : Mem) (w : World) : (binOp .eql 35 (.agg #[.int .i64 a.id, .int .i64 a.wt, .int .i64 a.v, .int .i64 a.rem]) (.agg #[.int .i64 b.id, .int .i64 b.wt, .int .i64 b.v, .int .i64 b.rem])).run Try.prog w = .ok (.bool (decide (a = b))) w := by
  rw [run_eql_struct, equalIn_mem]
  rfl
/-- A lane, and kept blocks beside it. -/
structure Bye (w0 w : World) (lp : Nat) (S : LS) (n : Nat) (K : Nat → Prop) : Prop where
  ex : ∃ G : Nat → Prop, LF G w lp S n ∧ (∀ x, G x → w0.heap.size ≤ x) ∧ (∀ k, K k → k < w.heap.size ∧ ¬ G k)
  bel : Below w0.heap.size w0 w
section
variable {w0 w w' : World} {lp n : Nat} {S : LS} {K : Nat → Prop}
theorem Bye.lane (h : Bye w0 w lp S n K) : ∃ G, LF G w lp S n ∧ (∀ x, G x → w0.heap.size ≤ x) ∧ ∀ w' S' n', Ln w G w' lp S' n' → Bye w0 w' lp S' n' K ∧ (∀ k, K k → w'.heap[k]? = w.heap[k]?) := by
  obtain ⟨⟨G, h1, h2, h3⟩, h7⟩ := h
  refine ⟨G, h1, h2, fun w' S' n' hl => ?_⟩
  obtain ⟨G2, g1, g2, g3⟩ := hl
  refine ⟨⟨⟨G2, g1, fun x hx => ?_, fun k hk => ?_⟩, ?_⟩, fun k hk => g3.block k (h3 k hk).1 (h3 k hk).2⟩
  · rcases g2 x hx with e | e
    · exact h2 x e
    · exact Nat.le_trans h7.size e
  · obtain ⟨e1, e2⟩ := h3 k hk
    refine ⟨Nat.lt_of_lt_of_le e1 g3.size, fun hg => ?_⟩
    rcases g2 k hg with e | e
    · exact e2 e
    · omega
  · exact ⟨g3.os.trans h7.os, g3.tape.trans h7.tape, g3.output.trans h7.output, Nat.le_trans h7.size g3.size, fun x hx => (g3.block x (Nat.lt_of_lt_of_le hx h7.size) (fun hg => by have := h2 x hg; omega)).trans (h7.block x hx)⟩
theorem Bye.below (h : Bye w0 w lp S n K) (hb : Below w.heap.size w w') : Bye w0 w' lp S n K := by
  obtain ⟨⟨G, h1, h2, h3⟩, h7⟩ := h
  exact ⟨⟨G, h1.below hb, h2, fun k hk => ⟨Nat.lt_of_lt_of_le (h3 k hk).1 hb.size, (h3 k hk).2⟩⟩, h7.trans (hb.mono h7.size)⟩
/-- What is laid beside the lane is kept too. -/
theorem Bye.add (h : Bye w0 w lp S n K) (hb : Below w.heap.size w w') (v : Value) (hv : ∀ k, v.ownBlock = some k → w.heap.size ≤ k ∧ k < w'.heap.size) : Bye w0 w' lp S n (fun k => K k ∨ v.ownBlock = some k) := by
  have h8 := h.below hb
  obtain ⟨⟨G, h1, h2, h3⟩, h7⟩ := h
  refine ⟨⟨G, h1.below hb, h2, fun k hk => ?_⟩, h8.bel⟩
  rcases hk with hk | hk
  · exact ⟨Nat.lt_of_lt_of_le (h3 k hk).1 hb.size, (h3 k hk).2⟩
  · obtain ⟨e1, e2⟩ := hv k hk
    exact ⟨e2, fun hg => by have := h1.lt k hg; omega⟩
/-- A lane's call that gives a row of one's own. -/
theorem Bye.laneO (h : Bye w0 w lp S n K) : ∃ G, LF G w lp S n ∧ (∀ x, G x → w0.heap.size ≤ x) ∧ ∀ w' S' n' v, LnO w G w' lp S' n' v → Bye w0 w' lp S' n' (fun k => K k ∨ v.ownBlock = some k) ∧ (∀ k, K k → w'.heap[k]? = w.heap[k]?) := by
  obtain ⟨⟨G, h1, h2, h3⟩, h7⟩ := h
  refine ⟨G, h1, h2, fun w' S' n' v hl => ?_⟩
  obtain ⟨G2, g1, g2, g3, g4⟩ := hl
  refine ⟨⟨⟨G2, g1, fun x hx => ?_, fun k hk => ?_⟩, ?_⟩, fun k hk => g3.block k (h3 k hk).1 (h3 k hk).2⟩
  · rcases g2 x hx with e | e
    · exact h2 x e
    · exact Nat.le_trans h7.size e
  · rcases hk with hk | hk
    · obtain ⟨e1, e2⟩ := h3 k hk
      refine ⟨Nat.lt_of_lt_of_le e1 g3.size, fun hg => ?_⟩
      rcases g2 k hg with e | e
      · exact e2 e
      · omega
    · exact ⟨(g4 k hk).2.1, (g4 k hk).2.2⟩
  · exact ⟨g3.os.trans h7.os, g3.tape.trans h7.tape, g3.output.trans h7.output, Nat.le_trans h7.size g3.size, fun x hx => (g3.block x (Nat.lt_of_lt_of_le hx h7.size) (fun hg => by have := h2 x hg; omega)).trans (h7.block x hx)⟩
theorem Bye.less {K' : Nat → Prop} (h : Bye w0 w lp S n K) (hK : ∀ k, K' k → K k) : Bye w0 w lp S n K' := by
  obtain ⟨⟨G, h1, h2, h3⟩, h7⟩ := h
  exact ⟨⟨G, h1, h2, fun k hk => h3 k (hK k hk)⟩, h7⟩
theorem Bye.of_ln (h : Ln w0 (fun _ => False) w lp S n) : Bye w0 w lp S n (fun _ => False) := by
  have hb := h.blw
  obtain ⟨G, h1, h2, h3⟩ := h
  exact ⟨⟨G, h1, fun k hk => (h2 k hk).resolve_left id, fun k hk => hk.elim⟩, hb⟩
variable {F : Nat → Prop}
theorem LF.qn (h : LF F w lp S n) (g : Int) : (S.Q g).1.length ≤ n := by
  obtain ⟨mb, mh, mk, vt, Qp, Fq, rfl, h⟩ := h
  cases hq : Qp g with
  | none => rw [h.none_ g hq]; exact Nat.zero_le _
  | some p => exact (h.queue g p hq).len
theorem home_full (wl : WL S) {x g : Int} (h : S.home x = some g) : (S.Q g).1 ≠ [] := fun e => by
  obtain ⟨y, _, hm, _⟩ := member_some wl h
  rw [e] at hm
  cases hm
set_option maxHeartbeats 1600000 in
/-- Get, of who is in a queue, changes nothing. -/
theorem get_full (id g : Int) (h : LF F w lp S n) (wl : WL S) (hn : n ≤ 3900) (hi : int64 id) (hh : S.home id = some g) :
    Calls Try.prog 14 #[.pointer (some ⟨lp, 0, none⟩), .int .i64 id] w fun e w' => e = .returned (.tuple #[memV (memS S g id), .bool true]) ∧ Below w.heap.size w w' := by
  have HLF := Kit.hid h
  have HIR := Kit.hid hi
  obtain ⟨gp, hgp⟩ : ∃ gp, gp = w.heap.size := ⟨_, rfl⟩
  obtain ⟨W1, hW1⟩ : ∃ W1, W1 = w.alloc (.cells #[.int .i64 0, .int .i64 0, .int .i64 0, .int .i64 0] 35) := ⟨_, rfl⟩
  have HB1 : Hid (Below w.heap.size w W1) := Kit.hid (by rw [hW1]; exact (Below.refl _ _).alloc (Nat.le_refl _) _)
  have HX1 : Hid (W1.heap[gp]? = some (.cells #[.int .i64 0, .int .i64 0, .int .i64 0, .int .i64 0] 35 (0, 0))) := Kit.hid (by rw [hW1, hgp]; exact blk_new _ _)
  obtain ⟨mb, mh, mk, vt, Qp, Fq, hFe, hx⟩ := (show LF F w lp S n from h)
  have x1 := blk_cell hx.at_ 1
  have hll := blk_lt hx.at_
  have HEQ : Hid (∀ o, (Instr.lookup 63 (.map (some mh)) (.int .i64 id) true).run Try.prog (w.alloc o) = .ok (.tuple #[.int .i64 ((S.home id).getD 0), .bool (S.home id).isSome]) (w.alloc o)) := Kit.hid (fun o => by
    rw [(hx.home.same (((Below.refl _ w).alloc (Nat.le_refl _) o).block mh hx.home.lt)).look true keyed Try.underlying63 (zero_int _) (int_key Try.underlying3 hi.1 hi.2)]
    cases S.home id <;> rfl)
  have heq := HEQ.out (.cells #[.int .i64 0, .int .i64 0, .int .i64 0, .int .i64 0] 35)
  have HL1 := Kit.hid (h.below HB1.out)
  have hgr := h.rng hh
  have HIS : Hid ((get (S.Q g).1 id).isSome = true) := Kit.hid ((wl.home id g).1 hh)
  rw [hh] at heq
  simp only [Option.getD_some, Option.isSome_some] at heq
  have HOF := Kit.hid (of_full g HL1.out (home_full wl hh) hgr)
  obtain ⟨m, hm⟩ : ∃ m, m = memS S g id := ⟨_, rfl⟩
  have hgv := gv_memS S g id
  rw [← hm] at hgv ⊢
  unfold memV at hgv ⊢
  have HGV := Kit.hid hgv
  have HGP := Kit.hid hgp
  have HW1 := Kit.hid hW1
  have HGL := Kit.hid (blk_lt HX1.out)
  clear h hi hx hFe hgp hW1 hh hgv hm hgr
  go_enter Try.func14, Try.ntmps14
  go_wp2_with fail
  rw [← HW1.out, ← HGP.out]
  (with_reducible refine HOF.out.mono ?_); rintro e w2 ⟨p, rfl, rfl, G, q1, q2, q3, q4, q5, q6, q7⟩
  have HGT := Kit.hid (get_any id q1 q2 HIR.out.1 HIR.out.2)
  rw [HGV.out, HIS.out] at HGT
  clear q1 q2 q3 q4 q5 q6 q7 HOF x1 hll heq
  go_wp2_with fail
  (with_reducible refine HGT.out.mono ?_); rintro e w3 ⟨rfl, hb3⟩
  have HX3 : Hid (w3.heap[gp]? = some (.cells #[.int .i64 0, .int .i64 0, .int .i64 0, .int .i64 0] 35 (0, 0))) := Kit.hid ((hb3.block gp HGL.out).trans HX1.out)
  have HB3 := Kit.hid (HB1.out.trans (hb3.mono HB1.out.size))
  have y0 := blk_cell HX3.out 0
  have y1 := blk_cell HX3.out 1
  have y2 := blk_cell HX3.out 2
  have y3 := blk_cell HX3.out 3
  have f0 := blk_frozen HX3.out 0
  have f1 := blk_frozen HX3.out 1
  have f2 := blk_frozen HX3.out 2
  have f3 := blk_frozen HX3.out 3
  have yl := blk_lt HX3.out
  clear hb3 HGT
  go_wp2
  exact cell_tmp_ret rfl gp _ _ _ _ rfl rfl (mem_store HX3.out) rfl ⟨rfl, HB3.out.grown (set4_grown _ _ _ _ _ _) HB3.out.size fun k hk => by cases hk; exact Nat.le_of_eq HGP.out.symm⟩
theorem queue_full (g : Int) (h : LF F w lp S n) (hn : n ≤ 3900) (hg : int64 g) (hq : (S.Q g).1 ≠ []) :
    Calls Try.prog 13 #[.pointer (some ⟨lp, 0, none⟩), .int .i64 g] w fun e w' => ∃ v, e = .returned v ∧ w'.ownsRow w.heap.size 35 4 v (S.Q g).1.length (flatM (S.Q g).2 (S.Q g).1) ∧ Below w.heap.size w w' := by
  have HOF := Kit.hid (of_full g h hq hg)
  clear h hq
  go_enter Try.func13, Try.ntmps13
  go_wp2_with fail
  (with_reducible refine HOF.out.mono ?_); rintro e w2 ⟨p, rfl, rfl, G, q1, q2, q3, q4, _⟩
  have HA := Kit.hid (qall_any q1 q2 (by omega))
  clear q1 q2 q3 q4 HOF
  go_wp2_with fail
  (with_reducible refine HA.out.mono ?_); rintro e w3 ⟨v, rfl, hv, hb3⟩
  have HV := Kit.hid hv
  have HB := Kit.hid hb3
  obtain ⟨A, c, rfl, _, _, _⟩ := own_readsS (by decide) hv
  clear hv hb3 HA
  go_wp2
  go_ret
  exact ⟨_, rfl, HV.out, HB.out⟩
end
/-! ### one thing ahead of a row of what is done -/
open Go.ChangeShapes Go.WideShapes Go.ChangeAt Go.Joins Go.Deep in
theorem lrow_cells {w : World} {A : Option Addr} {l : List LOp} (h : LRow w A l) : ∃ news : List Value, news.length = l.length * 8 ∧ Cells w A news ∧ (∀ u ∈ news, u.oneCell' = true) ∧
    ∀ i (hi : i < l.length), ∃ (Ap As : Option Addr) (cp cs : Nat), (∀ k, k < 8 → news[i * 8 + k]? = (opC l[i] Ap As cp cs)[k]?) ∧ SRow w Ap l[i].p ∧ l[i].p.length ≤ cp ∧ Cells w As (iv l[i].shut) ∧ int64 l[i].m.id ∧ int64 l[i].n := by
  by_cases hl : l.length = 0
  · refine ⟨[], (by simp [hl]), (fun i hi => nomatch hi), (fun u hu => nomatch hu), fun i hi => by omega⟩
  obtain ⟨ad, hA, _⟩ := h 0 (by omega)
  subst hA
  have key : ∀ i (hi : i < l.length), ∃ (Ap As : Option Addr) (cp cs : Nat), (∀ k, k < 8 → w.cell? (ad.add (i * 8 + k)) = (opC l[i] Ap As cp cs)[k]?) ∧ SRow w Ap l[i].p ∧ l[i].p.length ≤ cp ∧ Cells w As (iv l[i].shut) ∧ int64 l[i].m.id ∧ int64 l[i].n := by
    intro i hi
    obtain ⟨ad', e, Ap, As, cp, cs, h0, h1, h2, h3, h4, h5, h6, h7, h8⟩ := h i hi
    cases e
    refine ⟨Ap, As, cp, cs, fun k hk => ?_, h8⟩
    match k, hk with
    | 0, _ => exact h0
    | 1, _ => exact h1
    | 2, _ => exact h2
    | 3, _ => exact h3
    | 4, _ => exact h4
    | 5, _ => exact h5
    | 6, _ => exact h6
    | 7, _ => exact h7
  have each : ∀ j, j < l.length * 8 → ∃ u, w.cell? (ad.add j) = some u ∧ u.oneCell' = true := by
    intro j hj
    have hi : j / 8 < l.length := by omega
    have hk : j % 8 < 8 := Nat.mod_lt _ (by decide)
    obtain ⟨Ap, As, cp, cs, h1, _⟩ := key (j / 8) hi
    have h2 := h1 (j % 8) hk
    rw [show j / 8 * 8 + j % 8 = j from by omega] at h2
    rw [h2]
    generalize j % 8 = k at hk
    match k, hk with
    | 0, _ => exact ⟨_, rfl, rfl⟩
    | 1, _ => exact ⟨_, rfl, rfl⟩
    | 2, _ => exact ⟨_, rfl, rfl⟩
    | 3, _ => exact ⟨_, rfl, rfl⟩
    | 4, _ => exact ⟨_, rfl, rfl⟩
    | 5, _ => exact ⟨_, rfl, rfl⟩
    | 6, _ => exact ⟨_, rfl, rfl⟩
    | 7, _ => exact ⟨_, rfl, rfl⟩
  haveI : Inhabited Value := ⟨.bool false⟩
  obtain ⟨f, hf⟩ := choose_lt each
  refine ⟨(List.range (l.length * 8)).map f, by simp, fun j hj => ?_, fun u hu => ?_, fun i hi => ?_⟩
  · have hj' : j < l.length * 8 := by simpa using hj
    exact ⟨ad, rfl, by rw [(hf j hj').1]; simp⟩
  · obtain ⟨j, hj, rfl⟩ := List.mem_map.1 hu
    exact (hf j (List.mem_range.1 hj)).2
  · obtain ⟨Ap, As, cp, cs, h1, h2⟩ := key i hi
    refine ⟨Ap, As, cp, cs, fun k hk => ?_, h2⟩
    have hb : i * 8 + k < l.length * 8 := by omega
    rw [← h1 k hk, (hf (i * 8 + k) hb).1]
    simp [hb]
theorem lrow_cons {w : World} {A : Option Addr} {l : List LOp} {o : LOp} {Ap As : Option Addr} {cp cs : Nat} {news : List Value} (hc : Cells w A ((opC o Ap As cp cs).toList ++ news)) (hl : news.length = l.length * 8)
    (ho : SRow w Ap o.p ∧ o.p.length ≤ cp ∧ Cells w As (iv o.shut) ∧ int64 o.m.id ∧ int64 o.n)
    (hr : ∀ i (hi : i < l.length), ∃ (Ap As : Option Addr) (cp cs : Nat), (∀ k, k < 8 → news[i * 8 + k]? = (opC l[i] Ap As cp cs)[k]?) ∧ SRow w Ap l[i].p ∧ l[i].p.length ≤ cp ∧ Cells w As (iv l[i].shut) ∧ int64 l[i].m.id ∧ int64 l[i].n) : LRow w A (o :: l) := by
  have at_ : ∀ j u, ((opC o Ap As cp cs).toList ++ news)[j]? = some u → ∃ ad, A = some ad ∧ w.cell? (ad.add j) = some u := by
    intro j u hj
    obtain ⟨h1, rfl⟩ := List.getElem?_eq_some_iff.1 hj
    exact hc j h1
  obtain ⟨ad, rfl, _⟩ := at_ 0 _ rfl
  have cell : ∀ j u, ((opC o Ap As cp cs).toList ++ news)[j]? = some u → w.cell? (ad.add j) = some u := by
    intro j u hj
    obtain ⟨ad', e, c⟩ := at_ j u hj
    cases e
    exact c
  intro i hi
  refine ⟨ad, rfl, ?_⟩
  cases i with
  | zero =>
    exact ⟨Ap, As, cp, cs, cell 0 _ rfl, cell 1 _ rfl, cell 2 _ rfl, cell 3 _ rfl, cell 4 _ rfl, cell 5 _ rfl, cell 6 _ rfl, cell 7 _ rfl, ho⟩
  | succ i =>
    have hi' : i < l.length := by simpa using hi
    obtain ⟨Bp, Bs, dp, ds, h1, h2⟩ := hr i hi'
    have h3 : ∀ k u, k < 8 → (opC l[i] Bp Bs dp ds)[k]? = some u → w.cell? (ad.add ((i + 1) * 8 + k)) = some u := by
      intro k u hk hu
      refine cell _ _ ?_
      rw [List.getElem?_append_right (by show 8 ≤ _; omega)]
      rw [← hu, ← h1 k hk]
      congr 1
      show (i + 1) * 8 + k - 8 = _
      omega
    exact ⟨Bp, Bs, dp, ds, h3 0 _ (by decide) rfl, h3 1 _ (by decide) rfl, h3 2 _ (by decide) rfl, h3 3 _ (by decide) rfl, h3 4 _ (by decide) rfl, h3 5 _ (by decide) rfl, h3 6 _ (by decide) rfl, h3 7 _ (by decide) rfl, h2⟩
theorem infoOp : (Try.prog.info? 55).map (fun i => (i.zero, i.size, i.bytes)) = some (some (.agg #[.int .i64 0, .int .i64 0, .int .i64 0, .int .i64 0, .int .i64 0, .slice none 0 0, .int .i64 0, .slice none 0 0]), 8, 96) := by kernel_rfl
theorem op_own (w : World) (B : Nat) (hB : B ≤ w.heap.size) (o : LOp) (Ap As : Option Addr) (cp cs : Nat) : (w.alloc (.cells (opC o Ap As cp cs) 55)).ownsRow B 55 8 (.slice (some ⟨w.heap.size, 0, none⟩) 1 1) 1 (opC o Ap As cp cs).toList :=
  ⟨rfl, .inr ⟨_, _, _, rfl, hB, blk_new _ _, Nat.le_refl _, by unfold maxLen; omega, rfl, rfl⟩⟩
set_option maxRecDepth 100000 in
open Go.ChangeShapes Go.WideShapes Go.ChangeAt Go.Joins Go.Deep in
/-- What a row of what is done weighs. -/
theorem lops_weight {H : Type} {enc : TypeId × Value → H} {W : World} {base : Nat} {held : Bool} {A : Option Addr} {n cap : Nat} {d : DataW H} {ps : List MemPlace} {ts : List TypeId} {ds : List (DataW H)} (j : Nat)
    (hsz : (DataW.weightsEach Try.prog ts ds).all (· ≤ reachBytes) = true) (hj : ts[j]? = some 45) (hd : ds[j]? = some d)
    (h : DataW.Trod enc Try.prog W base (fun _ => true) held 45 (.slice A n cap) d ps) : n * 96 ≤ 140737488351232 := by
  obtain ⟨fuel, hf⟩ := h
  rcases open_slice Try.underlying45 hf with ⟨hcs, _⟩ | ⟨x, l, c, m, n', D, Pl, hcs, _, hl, hm, hmm, hx, _⟩
  · simp [Value.cells] at hcs
    obtain ⟨rfl, rfl, rfl⟩ := hcs
    simp
  · simp [Value.cells] at hcs
    obtain ⟨rfl, rfl, rfl⟩ := hcs
    obtain ⟨hx1, _⟩ := Prod.mk.inj hx
    subst hx1
    have z := sized_slice hsz hj hd Try.underlying45
    rw [show Try.prog.bytesOf 55 = 96 from by kernel_rfl] at z
    simp only [List.length_map, List.length_range] at z
    exact Nat.le_trans (Nat.mul_le_mul_right _ (Nat.le_add_right _ _)) z
end Go.Proofs.Ytpgfenelckonoaa.La
namespace Go.Proofs.Ytpgfenelckonoaa.LaM
open Go.Proofs.Ytpgfenelckonoaa.ShM Go.Proofs.Ytpgfenelckonoaa.QuM
set_option linter.unusedVariables false
theorem joinS_Q (S : LS) (g : Int) (m : Mem) {j : Int} (h : j ≠ g) : (joinS S g m).2.Q j = S.Q j := by
  unfold joinS
  split
  · exact upd_ne _ _ h
  · rfl
theorem joinS_home (S : LS) (g : Int) (m : Mem) {y : Int} (h : y ≠ m.id) : (joinS S g m).2.home y = S.home y := by
  unfold joinS
  split
  · exact upd_ne _ _ h
  · rfl
theorem enter_q : ∀ (p : List St) (S : LS) (m : Mem) (g : Int), g ≠ 0 → g ∉ p.map St.id → (enterGo S p m).2.Q g = S.Q g
  | [], S, m, g, h0, _ => joinS_Q S 0 m h0
  | s :: p, S, m, g, h0, hn => by
    have h1 : g ≠ s.id := fun e => hn (by rw [e]; simp)
    have h2 : g ∉ p.map St.id := fun hm => hn (by simp only [List.map_cons, List.mem_cons]; exact .inr hm)
    unfold enterGo
    split
    · exact joinS_Q S s.id m h1
    split
    · rw [enter_q p _ _ g h0 h2]; exact joinS_Q S s.id m h1
    · exact joinS_Q S s.id m h1
theorem enter_h : ∀ (p : List St) (S : LS) (m : Mem) (y : Int), y ≠ m.id → y ∉ p.map St.id → (enterGo S p m).2.home y = S.home y
  | [], S, m, y, h0, _ => joinS_home S 0 m h0
  | s :: p, S, m, y, h0, hn => by
    have h1 : y ≠ s.id := fun e => hn (by rw [e]; simp)
    have h2 : y ∉ p.map St.id := fun hm => hn (by simp only [List.map_cons, List.mem_cons]; exact .inr hm)
    unfold enterGo
    split
    · exact joinS_home S s.id m h0
    split
    · rw [enter_h p _ _ y (by rw [memberS_id]; exact h1) h2]; exact joinS_home S s.id m h0
    · exact joinS_home S s.id m h0
theorem joinS_tk (S : LS) (g : Int) (m : Mem) : (joinS S g m).2.tasks = S.tasks ∧ (joinS S g m).2.kept = S.kept := by
  unfold joinS
  split <;> exact ⟨rfl, rfl⟩
theorem enter_tk : ∀ (p : List St) (S : LS) (m : Mem), (enterGo S p m).2.tasks = S.tasks ∧ (enterGo S p m).2.kept = S.kept
  | [], S, m => joinS_tk S 0 m
  | s :: p, S, m => by
    unfold enterGo
    split
    · exact joinS_tk S s.id m
    split
    · have h1 := enter_tk p (joinS S s.id m).2 (memberS S s)
      have h2 := joinS_tk S s.id m
      exact ⟨h1.1.trans h2.1, h1.2.trans h2.2⟩
    · exact joinS_tk S s.id m
theorem ids_notin {S : LS} {p : List St} {sn : List Int} (h : oddGo S p sn = false) {y : Int} (hy : y ∈ sn) : y ∉ p.map St.id := fun hm => by
  obtain ⟨s, hs, e⟩ := List.mem_map.1 hm
  exact odd_notin h s hs (by rw [e]; exact hy)
/-- The way of who entered is the path. -/
theorem enter_way {t : Int} (ht0 : t ≠ 0) : ∀ (p : List St) (S : LS) (x : Int) (k : Nat) (sn : List Int) (m : Mem), WP S t x k sn → m.id = x → oddGo S p sn = false → t ∈ sn → k + p.length ≤ 8 → (enterGo S p m).1 = 0 →
    (enterGo S p m).2.home x = some (firstS p) ∧ IsWay (enterGo S p m).2 (firstS p) (p.map St.id)
  | [], S, x, k, sn, m, w, hm, ho, hts, hk, h => by
    unfold enterGo at h ⊢
    obtain ⟨L', e, hL, hc⟩ := join_is h
    rw [e]
    exact ⟨by show upd S.home m.id _ x = _; rw [hm, upd_at]; rfl, rfl⟩
  | s :: p, S, x, k, sn, m, w, hm, ho, hts, hk, h => by
    unfold enterGo at h ⊢
    obtain ⟨h1, h2, h3, h4, h5⟩ := odd_cons ho
    have hne : s.id ≠ t := fun e => h2 (by rw [e]; exact hts)
    by_cases hj : (joinS S s.id m).1 = 0
    · rw [if_neg (by simpa using hj)] at h ⊢
      obtain ⟨L', e, hL, hc⟩ := join_is hj
      by_cases hq : (S.Q s.id).1 = []
      · rw [if_pos hq] at h ⊢
        have hh : S.home s.id = none := by
          cases hh : S.home s.id with
          | none => rfl
          | some j => exact absurd hq (w.full s.id j hh h3 hne)
        rw [e, hL, hm] at h ⊢
        have w' := wp_join w hm hc h2 hh (by omega) h3 hne
        have ho' : oddGo { S with Q := upd S.Q s.id (joinL m (S.Q s.id).1 (S.Q s.id).2, (S.Q s.id).2), home := upd S.home x (some s.id) } p (sn ++ [s.id]) = false := by
          rw [← h5]
          refine odd_same (S := S) (S' := { S with Q := upd S.Q s.id (joinL m (S.Q s.id).1 (S.Q s.id).2, (S.Q s.id).2), home := upd S.home x (some s.id) }) rfl (fun a ha => ?_)
          show upd S.home x (some s.id) a.id = S.home a.id
          exact upd_ne _ _ (fun e => odd_notin h5 a ha (by rw [e]; exact List.mem_append_left _ w.next.2.1))
        obtain ⟨i1, i2⟩ := enter_way ht0 p _ s.id (k + 1) (sn ++ [s.id]) (memberS S s) w' (memberS_id S s) ho' (List.mem_append_left _ hts) (by simp at hk; omega) h
        have hxs : x ≠ s.id := fun e => h2 (by rw [← e]; exact w.next.2.1)
        refine ⟨?_, rfl, by show s.id ≠ 0; omega, ?_, firstS p, i1, i2⟩
        · rw [enter_h p _ _ x (by rw [memberS_id]; exact hxs) (ids_notin h5 (List.mem_append_left _ w.next.2.1))]
          show upd S.home x (some s.id) x = _
          rw [upd_at]; rfl
        · rw [(enter_tk p _ _).1]; exact h3
      · rw [if_neg hq] at h ⊢
        rw [e, hm]
        obtain ⟨y, hy⟩ := queue_home w hq
        have ha := active_home w hy (by omega) h2
        have hr := path_way w ho (fun z hz => hz) (fun s' q e => by cases e; exact ha)
        exact ⟨by show upd S.home x (some s.id) x = _; rw [upd_at]; rfl, way_upd w.next.1 hr⟩
    · rw [if_pos hj] at h
      exact absurd h hj
theorem join_lag {S : LS} {g : Int} {m : Mem} (hw : WQ (S.Q g).1) (h : (joinS S g m).1 = 0) : memS (joinS S g m).2 g m.id = m := by
  obtain ⟨L', e, hL, hc⟩ := join_is h
  rw [e, hL]
  unfold memS
  dsimp only
  rw [upd_at]
  dsimp only
  have hg : QuM.get (joinL m (S.Q g).1 (S.Q g).2) m.id = some { m with v := (S.Q g).2 + m.v } := by
    unfold joinL
    rw [if_pos hc, get_put hw]
    simp
  rw [hg]
  dsimp only
  cases m
  simp
  omega
/-- Who enters has its lag there, and its way is the path. -/
theorem enter_lag {S : LS} (wl : WL S) (p : List St) (hp : p.length ≤ 8) (m : Mem) (h : (enterS S p m).1 = 0) :
    (enterS S p m).2.home m.id = some (firstS p) ∧ wayS (enterS S p m).2 m.id = p.map St.id ∧ memS (enterS S p m).2 (firstS p) m.id = m ∧ m.id ∈ (enterS S p m).2.tasks := by
  have w2 := wl.enter p hp m
  unfold enterS at h w2 ⊢
  by_cases h1 : m.id ∈ S.tasks
  · rw [if_pos h1] at h; exact absurd h (show ¬ (9 : Int) = 0 by decide)
  rw [if_neg h1] at h w2 ⊢
  by_cases h2 : oddS S p m.id = true
  · rw [if_pos h2] at h; exact absurd h (show ¬ (11 : Int) = 0 by decide)
  rw [if_neg h2] at h w2 ⊢
  by_cases h3 : (enterGo S p m).1 = 0
  rotate_left
  · rw [if_pos h3] at h; exact absurd h h3
  rw [if_neg (by simpa using h3)] at w2 ⊢
  have ho : oddGo S p [m.id] = false ∧ (S.home m.id).isSome = false := by
    unfold oddS at h2
    simpa using h2
  have hh : S.home m.id = none := by
    cases hh : S.home m.id with
    | none => rfl
    | some j => rw [hh] at ho; cases ho.2
  have hj := enter_first h3
  obtain ⟨_, _, _, hc⟩ := join_is hj
  have h0 : m.id ≠ 0 := by
    have := (join_ok hc).1
    omega
  obtain ⟨i1, i2⟩ := enter_way h0 p S m.id 0 [m.id] m (wp_start wl h1 hh h0) rfl ho.1 (by simp) (by omega) h3
  have hnot := ids_notin ho.1 (show m.id ∈ [m.id] by simp)
  have i3 : IsWay { (enterGo S p m).2 with tasks := insT m.id (enterGo S p m).2.tasks } (firstS p) (p.map St.id) := way_task i2 hnot
  refine ⟨i1, chain_way (zero_home w2) (way_chain i1 i3) (by simp; omega), ?_, mem_insT.2 (.inl rfl)⟩
  have hQ : (enterGo S p m).2.Q (firstS p) = (joinS S (firstS p) m).2.Q (firstS p) := by
    cases p with
    | nil => rfl
    | cons s p =>
      obtain ⟨k1, k2, k3, k4, k5⟩ := odd_cons ho.1
      have hj' : (joinS S s.id m).1 = 0 := hj
      show (enterGo S (s :: p) m).2.Q s.id = (joinS S s.id m).2.Q s.id
      unfold enterGo
      rw [if_neg (by simpa using hj')]
      split
      · exact enter_q p _ _ s.id (by omega) (ids_notin k5 (by simp))
      · rfl
  have hl := join_lag (wl.wq (firstS p)) hj
  unfold memS at hl ⊢
  show (match QuM.get ((enterGo S p m).2.Q (firstS p)).1 m.id with
    | none => (⟨0, 0, 0, 0⟩ : Mem)
    | some m' => { m' with v := m'.v - ((enterGo S p m).2.Q (firstS p)).2 }) = m
  rw [hQ]
  exact hl
theorem leave_none {y : Int} : ∀ (n : Nat) (S : LS) (g : Int), S.home y = none → (leaveGo n S g).home y = none
  | 0, S, g, h => h
  | n + 1, S, g, h => by
    unfold leaveGo
    split
    · refine leave_none n _ _ ?_
      show upd S.home g none y = none
      unfold upd
      split
      · rfl
      · exact h
    · exact h
theorem leave_tells {S : LS} {id g : Int} (ht : id ∈ S.tasks) (hh : S.home id = some g) : leaveS S id = (some (memS S g id), 0, (leaveS S id).2.2) ∧ (leaveS S id).2.2.home id = none := by
  unfold leaveS
  rw [if_pos ht, hh]
  refine ⟨rfl, ?_⟩
  show (leaveGo 16 (quitS S id) g).home id = none
  refine leave_none 16 _ _ ?_
  show upd S.home id none id = none
  exact upd_at _ _ _
end Go.Proofs.Ytpgfenelckonoaa.LaM
namespace Go.Proofs.Ytpgfenelckonoaa.LaM
open Go.Proofs.Ytpgfenelckonoaa.ShM Go.Proofs.Ytpgfenelckonoaa.QuM Go.Proofs.Ytpgfenelckonoaa.La
set_option linter.unusedVariables false
/-! ### one's own way holds nobody twice -/
theorem way_from {S : LS} : ∀ {l : List Int} {a z : Int}, IsWay S a l → z ∈ l → ∃ r, IsWay S z r ∧ r.length ≤ l.length
  | [], a, z, _, h => by cases h
  | y :: l, a, z, hw, h => by
    have hw' := hw
    obtain ⟨rfl, h2, h3, k, h4, h5⟩ := hw
    rcases List.mem_cons.1 h with rfl | h
    · exact ⟨z :: l, hw', Nat.le_refl _⟩
    · obtain ⟨r, h6, h7⟩ := way_from h5 h
      exact ⟨r, h6, by simp; omega⟩
theorem way_off {S : LS} {x g : Int} {l : List Int} (h : S.home x = some g) (hw : IsWay S g l) : x ∉ l := fun hm => by
  obtain ⟨r, h1, h2⟩ := way_from hw hm
  cases r with
  | nil =>
    have h0 : x = 0 := h1
    subst h0
    exact zero_not hw hm
  | cons y r =>
    obtain ⟨rfl, _, _, k, h4, h5⟩ := h1
    rw [h] at h4
    cases h4
    have := way_uniq hw h5
    rw [this] at h2
    simp at h2
    omega
where zero_not {S : LS} : ∀ {l : List Int} {a : Int}, IsWay S a l → (0 : Int) ∈ l → False
  | [], _, _, h => by cases h
  | y :: l, a, hw, h => by
    obtain ⟨rfl, h2, _, k, _, h5⟩ := hw
    rcases List.mem_cons.1 h with e | h
    · exact h2 e.symm
    · exact zero_not h5 h
theorem way_nodup {S : LS} : ∀ {l : List Int} {a : Int}, IsWay S a l → l.Nodup
  | [], _, _ => List.nodup_nil
  | y :: l, a, hw => by
    obtain ⟨rfl, h2, h3, k, h4, h5⟩ := hw
    exact List.nodup_cons.2 ⟨way_off h4 h5, way_nodup h5⟩
theorem way_ne {S : LS} : ∀ {l : List Int} {a : Int}, IsWay S a l → ∀ z ∈ l, z ≠ 0
  | [], _, _, z, h => by cases h
  | y :: l, a, hw, z, h => by
    obtain ⟨rfl, h2, h3, k, h4, h5⟩ := hw
    rcases List.mem_cons.1 h with rfl | h
    · exact h2
    · exact way_ne h5 z h
/-! ### quit and join -/
theorem put_back {L : List Mem} (hw : WQ L) {m : Mem} (hm : get L m.id = some m) : putM m (del L m.id) = L :=
  wq_ext (put_wq (del_wq hw _) _) hw fun y => by
    rw [put_mem, del_mem]
    constructor
    · rintro (rfl | ⟨⟨h, _⟩, _⟩)
      · exact (get_mem hm).1
      · exact h
    · intro h
      by_cases e : y.id = m.id
      · exact .inl (uniq_eq hw h (get_mem hm).1 e)
      · exact .inr ⟨⟨h, e⟩, e⟩
theorem quit_join {S : LS} {x g : Int} (hh : S.home x = some g) (hw : WQ (S.Q g).1) (hq : QB (S.Q g).1 (S.Q g).2) (hs : (get (S.Q g).1 x).isSome = true) :
    joinS (quitS S x) g (memS S g x) = (0, S) := by
  cases hg : get (S.Q g).1 x with
  | none => rw [hg] at hs; cases hs
  | some y =>
    obtain ⟨hy, hyi⟩ := get_mem hg
    obtain ⟨b1, b2, b3, b4, b5, b6, b7, b8⟩ := hq.each y hy
    have hb0 := hq.b0
    have hm : memS S g x = { y with v := y.v - (S.Q g).2 } := by unfold memS; rw [hg]
    have hQ : (quitS S x).Q g = (del (S.Q g).1 x, (S.Q g).2) := by
      unfold quitS
      rw [hh]
      exact upd_at _ _ _
    have hn : get (del (S.Q g).1 x) x = none := by rw [get_del hw]; simp
    have hc : joinC (memS S g x) ((quitS S x).Q g).1 ((quitS S x).Q g).2 = 0 := by
      rw [hQ, hm]
      unfold joinC
      dsimp only
      rw [if_neg (by omega), hyi, hn, if_neg (by simp), if_neg (by omega)]
    have hL : joinL (memS S g x) ((quitS S x).Q g).1 ((quitS S x).Q g).2 = (S.Q g).1 := by
      unfold joinL
      rw [if_pos hc, hQ, hm]
      dsimp only
      rw [show (S.Q g).2 + (y.v - (S.Q g).2) = y.v from by omega]
      have := put_back hw (m := y) (by rw [hyi]; exact hg)
      rw [hyi] at this
      exact this
    unfold joinS
    rw [if_pos hc, hL, hQ]
    have hmi : (memS S g x).id = x := by rw [hm]; exact hyi
    rw [hmi]
    unfold quitS
    rw [hh]
    simp only [Option.getD_some, upd_upd]
    have e1 : upd S.Q g ((S.Q g).1, (S.Q g).2) = S.Q := upd_self S.Q g
    have e2 : upd S.home x (some g) = S.home := by rw [← hh]; exact upd_self S.home x
    rw [e1, e2]
theorem upd_comm {α : Type} (f : Int → α) {i j : Int} (u v : α) (h : i ≠ j) : upd (upd f i u) j v = upd (upd f j v) i u := by
  funext x
  unfold upd
  split
  · split
    · rename_i e1 e2; exact absurd (e2.symm.trans e1) h
    · rfl
  · rfl
theorem quit_comm {S : LS} {a b ga gb : Int} (ha : S.home a = some ga) (hb : S.home b = some gb) (h1 : a ≠ b) (h2 : ga ≠ gb) : quitS (quitS S a) b = quitS (quitS S b) a := by
  unfold quitS
  simp only [upd_ne _ _ (Ne.symm h1), upd_ne _ _ h1, ha, hb, Option.getD_some, upd_ne _ _ (Ne.symm h2), upd_ne _ _ h2]
  rw [upd_comm S.Q _ _ h2, upd_comm S.home _ _ h1]
theorem quit_K (S : LS) (K : Int → Option Mem) (x : Int) : ({ (quitS S x) with kept := K } : LS) = quitS { S with kept := K } x := rfl
theorem memS_quit {S : LS} {x g h y : Int} (hx : S.home x = some g) (hn : h ≠ g) : memS (quitS S x) h y = memS S h y := by
  unfold memS quitS
  rw [hx]
  simp only [Option.getD_some, upd_ne _ _ hn]
/-- One who leaves a group that is on no group's way above is as if it left last. -/
theorem leave_comm : ∀ (n : Nat) (S : LS) (x g h : Int) (l : List Int), S.home x = some g → IsWay S h l → g ≠ 0 → g ∉ l → x ∉ l → leaveGo n (quitS S x) h = quitS (leaveGo n S h) x
  | 0, S, x, g, h, l, hx, hw, g0, gn, xn => rfl
  | n + 1, S, x, g, h, l, hx, hw, g0, gn, xn => by
    cases l with
    | nil =>
      have h0 : h = 0 := hw
      subst h0
      unfold leaveGo
      rw [if_neg (by simp), if_neg (by simp)]
    | cons y l =>
      have hw0 := hw
      obtain ⟨rfl, h2, h3, k, h4, h5⟩ := hw
      have hyg : y ≠ g := fun e => gn (by rw [e]; simp)
      have hyx : y ≠ x := fun e => xn (by rw [e]; simp)
      have hQ : (quitS S x).Q y = S.Q y := by unfold quitS; rw [hx]; exact upd_ne _ _ hyg
      have hH : (quitS S x).home y = S.home y := upd_ne _ _ hyx
      have hkg : k ≠ g := fun e => by
        cases l with
        | nil => have : k = 0 := h5; omega
        | cons z l => obtain ⟨rfl, _⟩ := h5; exact gn (by rw [e]; simp)
      unfold leaveGo
      rw [hQ]
      by_cases hc : y ≠ 0 ∧ (S.Q y).1 = []
      · rw [if_pos hc, if_pos hc, hH, h4]
        simp only [Option.getD_some]
        rw [memS_quit hx hkg]
        have e1 : ({ (quitS (quitS S x) y) with kept := upd (quitS S x).kept y (some (memS S k y)) } : LS) = quitS { (quitS S y) with kept := upd S.kept y (some (memS S k y)) } x := by
          rw [quit_comm hx h4 (Ne.symm hyx) (Ne.symm hkg)]
          rfl
        rw [e1]
        refine leave_comm n _ x g k l ?_ ?_ g0 (fun hm => gn (List.mem_cons_of_mem _ hm)) (fun hm => xn (List.mem_cons_of_mem _ hm))
        · show upd S.home y none x = some g
          rw [upd_ne _ _ (Ne.symm hyx)]; exact hx
        · exact way_quit h5 (way_off h4 h5)
      · rw [if_neg hc, if_neg hc]
theorem leave_kept : ∀ (n : Nat) (S : LS) (h : Int) (l : List Int) {y : Int}, IsWay S h l → y ∉ l → (leaveGo n S h).kept y = S.kept y
  | 0, S, h, l, y, hw, hn => rfl
  | n + 1, S, h, [], y, hw, hn => by
    have h0 : h = 0 := hw
    subst h0
    unfold leaveGo
    rw [if_neg (by simp)]
  | n + 1, S, h, z :: l, y, hw, hn => by
    obtain ⟨rfl, h2, h3, k, h4, h5⟩ := hw
    unfold leaveGo
    split
    · rw [h4]
      simp only [Option.getD_some]
      have i := leave_kept n { (quitS S z) with kept := upd S.kept z (some (memS S k z)) } k l (y := y) (way_quit h5 (way_off h4 h5)) (fun hm => hn (List.mem_cons_of_mem _ hm))
      exact i.trans (upd_ne _ _ (fun e => hn (by rw [e]; simp)))
    · rfl
theorem leave_at : ∀ (n : Nat) (S : LS) (h : Int) (l : List Int) {x g : Int}, S.home x = some g → IsWay S h l → x ∉ l → g ≠ 0 → g ∉ l.drop 1 → (leaveGo n S h).home x = S.home x ∧ (h ≠ g ∨ (S.Q g).1 ≠ [] → (leaveGo n S h).Q g = S.Q g)
  | 0, S, h, l, x, g, hx, hw, hn, g0, hg => ⟨rfl, fun _ => rfl⟩
  | n + 1, S, h, [], x, g, hx, hw, hn, g0, hg => by
    have h0 : h = 0 := hw
    subst h0
    unfold leaveGo
    rw [if_neg (by simp)]
    exact ⟨rfl, fun _ => rfl⟩
  | n + 1, S, h, z :: l, x, g, hx, hw, hn, g0, hg => by
    obtain ⟨rfl, h2, h3, k, h4, h5⟩ := hw
    unfold leaveGo
    split
    · rename_i hc
      rw [h4]
      simp only [Option.getD_some]
      have hzx : x ≠ z := fun e => hn (by rw [e]; simp)
      have hgl : g ∉ l := hg
      have hkg : g ≠ k := fun e => by
        cases l with
        | nil => have : k = 0 := h5; omega
        | cons y l => obtain ⟨rfl, _⟩ := h5; exact hgl (by rw [e]; simp)
      have hx' : upd S.home z none x = some g := by rw [upd_ne _ _ hzx]; exact hx
      obtain ⟨i1, i2⟩ := leave_at n { (quitS S z) with kept := upd S.kept z (some (memS S k z)) } k l (x := x) (g := g) hx' (way_quit h5 (way_off h4 h5)) (fun hm => hn (List.mem_cons_of_mem _ hm)) g0 (fun hm => hgl (List.mem_of_mem_drop hm))
      refine ⟨i1.trans (upd_ne _ _ hzx), fun _ => ?_⟩
      rw [i2 (.inl (Ne.symm hkg))]
      show upd S.Q ((S.home z).getD 0) _ g = _
      rw [h4]
      exact upd_ne _ _ hkg
    · exact ⟨rfl, fun _ => rfl⟩
/-! ### the way that is entered by again -/
/-- A group's step, as its member tells. -/
def stOf (S : LS) (y : Int) : St := ⟨y, (memS S ((S.home y).getD 0) y).wt⟩
theorem joinS_T (S : LS) (T : List Int) (K : Int → Option Mem) (g : Int) (m : Mem) : joinS { S with tasks := T, kept := K } g m = ((joinS S g m).1, { (joinS S g m).2 with tasks := T, kept := K }) := by
  unfold joinS
  dsimp only
  split <;> rfl
theorem memS_ok2 {S : LS} {x g : Int} (hq : QB (S.Q g).1 (S.Q g).2) (hs : (get (S.Q g).1 x).isSome = true) : (memS S g x).id = x ∧ 1 ≤ (memS S g x).wt ∧ (memS S g x).wt ≤ 1048576 := by
  cases hg : get (S.Q g).1 x with
  | none => rw [hg] at hs; cases hs
  | some y =>
    obtain ⟨hy, hyi⟩ := get_mem hg
    obtain ⟨b1, b2, b3, b4, b5, b6, b7, b8⟩ := hq.each y hy
    have hm : memS S g x = { y with v := y.v - (S.Q g).2 } := by unfold memS; rw [hg]
    rw [hm]
    exact ⟨hyi, b3, b4⟩
theorem back_member {S : LS} {x g : Int} {T : List Int} (m : Mem) (hk : S.kept x = some m) (hi : m.id = x) (h1 : 1 ≤ m.wt) (h2 : m.wt ≤ 1048576) : memberS { S with tasks := T } ⟨x, m.wt⟩ = m := by
  unfold memberS
  dsimp only
  rw [hk]
  dsimp only
  have hc : clampW m.wt = m.wt := by unfold clampW; rw [if_neg (by omega), if_neg (by omega)]
  rw [hc, Int.mul_ediv_cancel _ (by omega), ← hi]
theorem way_K {S : LS} {K : Int → Option Mem} : ∀ {l : List Int} {a : Int}, IsWay S a l → IsWay { S with kept := K } a l
  | [], _, h => h
  | y :: l, a, h => by
    obtain ⟨rfl, h2, h3, k, h4, h5⟩ := h
    exact ⟨rfl, h2, h3, k, h4, way_K h5⟩
theorem back_go : ∀ (n : Nat) (l : List Int) (S : LS) (x g : Int), (∀ j, WQ (S.Q j).1) → (∀ j, QB (S.Q j).1 (S.Q j).2) → (∀ y j, S.home y = some j → (get (S.Q j).1 y).isSome = true) →
    S.home x = some g → IsWay S g l → l.length < n → ∀ T : List Int,
    enterGo { (leaveGo n (quitS S x) g) with tasks := T } (l.map (stOf S)) (memS S g x) = (0, { S with kept := (leaveGo n (quitS S x) g).kept, tasks := T })
  | 0, l, S, x, g, w1, w2, w3, hx, hw, hn, T => absurd hn (Nat.not_lt_zero _)
  | n + 1, [], S, x, g, w1, w2, w3, hx, hw, hn, T => by
    have h0 : g = 0 := hw
    subst h0
    have e : leaveGo (n + 1) (quitS S x) 0 = quitS S x := by unfold leaveGo; rw [if_neg (by simp)]
    rw [e]
    show joinS { (quitS S x) with tasks := T, kept := (quitS S x).kept } 0 (memS S 0 x) = _
    rw [joinS_T, quit_join hx (w1 0) (w2 0) (w3 x 0 hx)]
  | n + 1, z :: l, S, x, g, w1, w2, w3, hx, hw, hn, T => by
    have hw0 := hw
    have hxn := way_off hx hw
    obtain ⟨rfl, h2, h3, k, h4, h5⟩ := hw
    have hzx : z ≠ x := fun e => hxn (by rw [e]; simp)
    have hzl := way_off h4 h5
    have hkz : k ≠ z := fun e => by
      cases l with
      | nil => have : k = 0 := h5; omega
      | cons y l => obtain ⟨rfl, _⟩ := h5; exact hzl (by rw [← e]; simp)
    have hj := quit_join hx (w1 z) (w2 z) (w3 x z hx)
    have hst : (stOf S z).id = z := rfl
    by_cases hc : ((quitS S x).Q z).1 = []
    · have hH : (quitS S x).home z = some k := by show upd S.home x none z = _; rw [upd_ne _ _ hzx]; exact h4
      have hm1 : memS (quitS S x) k z = memS S k z := memS_quit hx hkz
      have e1 : leaveGo (n + 1) (quitS S x) z = quitS (leaveGo n (quitS { S with kept := upd S.kept z (some (memS S k z)) } z) k) x := by
        rw [leaveGo, if_pos ⟨h2, hc⟩, hH]
        simp only [Option.getD_some]
        rw [hm1]
        have e2 : ({ (quitS (quitS S x) z) with kept := upd (quitS S x).kept z (some (memS S k z)) } : LS) = quitS (quitS { S with kept := upd S.kept z (some (memS S k z)) } z) x := by
          rw [quit_comm hx h4 (Ne.symm hzx) (Ne.symm hkz)]
          rfl
        rw [e2]
        refine leave_comm n _ x z k l ?_ ?_ h2 hzl (fun hm => hxn (List.mem_cons_of_mem _ hm))
        · show upd S.home z none x = _
          rw [upd_ne _ _ (Ne.symm hzx)]; exact hx
        · exact way_quit (way_K h5) hzl
      rw [e1]
      obtain ⟨S1, hS1⟩ : ∃ S1, S1 = ({ S with kept := upd S.kept z (some (memS S k z)) } : LS) := ⟨_, rfl⟩
      rw [← hS1]
      obtain ⟨S3, hS3⟩ : ∃ S3, S3 = leaveGo n (quitS S1 z) k := ⟨_, rfl⟩
      have hx1 : (quitS S1 z).home x = some z := by rw [hS1]; show upd S.home z none x = _; rw [upd_ne _ _ (Ne.symm hzx)]; exact hx
      have hw1 : IsWay (quitS S1 z) k l := by rw [hS1]; exact way_quit (way_K h5) hzl
      obtain ⟨a1, a2⟩ := leave_at n (quitS S1 z) k l hx1 hw1 (fun hm => hxn (List.mem_cons_of_mem _ hm)) h2 (fun hm => hzl (List.mem_of_mem_drop hm))
      have a2 := a2 (.inl hkz)
      have a3 := leave_kept n (quitS S1 z) k l hw1 hzl
      have hQz : (quitS S1 z).Q z = S.Q z := by
        rw [hS1]
        show upd S.Q ((S.home z).getD 0) _ z = _
        rw [h4]
        exact upd_ne _ _ (Ne.symm hkz)
      rw [← hS3] at a1 a2 a3 ⊢
      rw [hx1] at a1
      rw [hQz] at a2
      have hkz3 : S3.kept z = some (memS S k z) := by rw [a3, hS1]; exact upd_at _ _ _
      have ih := back_go n l S1 z k (by rw [hS1]; exact w1) (by rw [hS1]; exact w2) (by rw [hS1]; exact w3) (by rw [hS1]; exact h4) (by rw [hS1]; exact way_K h5) (by simp at hn; omega) T
      have hmap : l.map (stOf S1) = l.map (stOf S) := by rw [hS1]; rfl
      have hms : memS S1 k z = memS S k z := by rw [hS1]; rfl
      rw [hmap, hms, ← hS3] at ih
      have hms3 : memS S3 z x = memS S z x := by unfold memS; rw [a2]
      have hj3 := quit_join (S := S3) a1 (by rw [a2]; exact w1 z) (by rw [a2]; exact w2 z) (by rw [a2]; exact w3 x z hx)
      rw [hms3] at hj3
      have hjT : joinS { (quitS S3 x) with tasks := T } z (memS S z x) = (0, { S3 with tasks := T }) := by
        have := joinS_T (quitS S3 x) T S3.kept z (memS S z x)
        rw [hj3] at this
        exact this
      have hQ3 : ((quitS S3 x).Q z).1 = [] := by
        show (upd S3.Q ((S3.home x).getD 0) _ z).1 = _
        rw [a1]
        show (upd S3.Q z (del (S3.Q z).1 x, (S3.Q z).2) z).1 = _
        rw [upd_at, a2]
        have : ((quitS S x).Q z).1 = del (S.Q z).1 x := by
          show (upd S.Q ((S.home x).getD 0) _ z).1 = _
          rw [hx]
          show (upd S.Q z (del (S.Q z).1 x, (S.Q z).2) z).1 = _
          rw [upd_at]
        rw [← this]; exact hc
      rw [List.map_cons, enterGo, hst]
      have hmem : memberS ({ (quitS S3 x) with tasks := T } : LS) (stOf S z) = memS S k z := by
        obtain ⟨o1, o2, o3⟩ := memS_ok2 (S := S) (x := z) (g := k) (w2 k) (w3 z k h4)
        have : stOf S z = ⟨z, (memS S k z).wt⟩ := by unfold stOf; rw [h4]; rfl
        rw [this]
        exact back_member (g := k) (S := quitS S3 x) (memS S k z) hkz3 o1 o2 o3
      rw [hjT, hmem]
      rw [if_neg (by simp), if_pos hQ3, ih, hS1]
      rfl
    · have e1 : leaveGo (n + 1) (quitS S x) z = quitS S x := by rw [leaveGo, if_neg (fun h => hc h.2)]
      rw [e1, List.map_cons, enterGo, hst]
      have hjT : joinS { (quitS S x) with tasks := T } z (memS S z x) = (0, { S with tasks := T }) := by
        have := joinS_T (quitS S x) T S.kept z (memS S z x)
        rw [hj] at this
        exact this
      rw [hjT, if_neg (by simp), if_neg hc]
      rfl
theorem leave_homes : ∀ (n : Nat) (S : LS) (h y : Int), (leaveGo n S h).home y = none ∨ (leaveGo n S h).home y = S.home y
  | 0, S, h, y => .inr rfl
  | n + 1, S, h, y => by
    unfold leaveGo
    split
    · rcases leave_homes n ({ (quitS S h) with kept := upd S.kept h (some (memS S ((S.home h).getD 0) h)) }) ((S.home h).getD 0) y with e | e
      · exact .inl e
      · rw [e]
        show upd S.home h none y = none ∨ upd S.home h none y = _
        by_cases hy : y = h
        · subst hy; exact .inl (upd_at _ _ _)
        · exact .inr (upd_ne _ _ hy)
    · exact .inr rfl
theorem odd_ok {S S2 : LS} {f : Int → St} (hf : ∀ z, (f z).id = z) (ht : ∀ z ∈ S2.tasks, z ∈ S.tasks) : ∀ {l : List Int} {a : Int} {sn : List Int}, IsWay S a l → (∀ z ∈ l, z ∉ sn) → (∀ z ∈ l, 1 ≤ z) → (∀ z, S2.home z = none ∨ S2.home z = S.home z) → oddGo S2 (l.map f) sn = false
  | [], a, sn, hw, h1, h2, h3 => rfl
  | y :: l, a, sn, hw, h1, h2, h3 => by
    obtain ⟨rfl, g2, g3, k, g4, g5⟩ := hw
    have hfl : firstS (l.map f) = k := by
      cases l with
      | nil => exact (show k = 0 from g5).symm
      | cons z l => obtain ⟨rfl, _⟩ := g5; exact hf _
    rw [List.map_cons, oddGo, hf]
    rw [if_neg]
    · refine odd_ok hf ht g5 (fun z hz hm => ?_) (fun z hz => h2 z (List.mem_cons_of_mem _ hz)) h3
      rcases List.mem_append.1 hm with hm | hm
      · exact h1 z (List.mem_cons_of_mem _ hz) hm
      · have : z = y := by simpa using hm
        subst this
        exact way_off g4 g5 hz
    · rintro (e | e | e | ⟨e1, e2⟩)
      · have := h2 y (by simp); omega
      · exact h1 y (by simp) e
      · exact g3 (ht y e)
      · rw [hfl] at e2
        rcases h3 y with e | e
        · rw [e] at e1; cases e1
        · exact e2 (e.trans g4)
theorem ins_filter {t : Int} : ∀ {T : List Int}, T.Pairwise (· < ·) → t ∈ T → insT t (T.filter fun x => decide (x ≠ t)) = T
  | [], _, h => by cases h
  | y :: T, hp, h => by
    obtain ⟨h1, h2⟩ := List.pairwise_cons.1 hp
    by_cases e : y = t
    · subst e
      rw [List.filter_cons_of_neg (by simp)]
      have : T.filter (fun x => decide (x ≠ y)) = T := List.filter_eq_self.2 fun x hx => by have := h1 x hx; simp; omega
      rw [this]
      cases T with
      | nil => rfl
      | cons z T =>
        have := h1 z (by simp)
        unfold insT
        rw [if_neg (by omega)]
    · have ht : t ∈ T := by
        rcases List.mem_cons.1 h with h | h
        · exact absurd h.symm e
        · exact h
      rw [List.filter_cons_of_pos (by simpa using e), insT, if_pos (h1 t ht), ins_filter h2 ht]
/-- A task that leaves, and enters by its own way again, finds all as it was, but for what is kept. -/
theorem back_all {S : LS} (wl : WL S) {t g : Int} (ht : t ∈ S.tasks) (hh : S.home t = some g) :
    ∃ K, enterS (leaveS S t).2.2 ((wayS S t).map (stOf S)) (memS S g t) = (0, { S with kept := K }) := by
  obtain ⟨l, hl, h8, hwy⟩ := way_is wl hh
  rw [hwy]
  have hgo := back_go 16 l S t g wl.wq wl.qb (fun y j h => (wl.home y j).1 h) hh hl (by omega) (S.tasks.filter fun x => decide (x ≠ t))
  have hlv : (leaveS S t).2.2 = { (leaveGo 16 (quitS S t) g) with tasks := S.tasks.filter fun x => decide (x ≠ t) } := by
    unfold leaveS
    rw [if_pos ht, hh]
    rfl
  have hlt := leave_tells ht hh
  have hmi := (memS_ok2 (wl.qb g) ((wl.home t g).1 hh)).1
  have hpos : ∀ z ∈ l, 1 ≤ z := fun z hz => by
    obtain ⟨r1, r2, r3⟩ := way_home hl z hz
    cases hz' : S.home z with
    | none => rw [hz'] at r1; cases r1
    | some j =>
      obtain ⟨y, _, hy, hyi⟩ := member_some wl hz'
      have := ((wl.qb j).each y hy).1
      omega
  refine ⟨(leaveGo 16 (quitS S t) g).kept, ?_⟩
  have hnt : t ∉ (leaveS S t).2.2.tasks := by
    rw [hlv]
    show t ∉ S.tasks.filter _
    rw [List.mem_filter]
    simp
  have hod : oddS (leaveS S t).2.2 (l.map (stOf S)) t = false := by
    unfold oddS
    rw [hlt.2, odd_ok (S := S) (S2 := (leaveS S t).2.2) (f := stOf S) (fun z => rfl) (fun z hz => ?_) hl (fun z hz hm => ?_) hpos (fun z => ?_)]
    · rfl
    · rw [hlv] at hz
      exact (List.mem_filter.1 hz).1
    · have : z = t := by simpa using hm
      subst this
      exact way_off hh hl hz
    · rw [hlv]
      show (leaveGo 16 (quitS S t) g).home z = none ∨ (leaveGo 16 (quitS S t) g).home z = S.home z
      rcases leave_homes 16 (quitS S t) g z with e | e
      · exact .inl e
      · rw [e]
        show upd S.home t none z = none ∨ upd S.home t none z = _
        by_cases hz : z = t
        · subst hz; exact .inl (upd_at _ _ _)
        · exact .inr (upd_ne _ _ hz)
  unfold enterS
  rw [hmi, if_neg hnt, hod, if_neg (by simp), hlv, hgo, if_neg (by simp)]
  show ((0 : Int), ({ S with kept := _, tasks := insT t (S.tasks.filter fun x => decide (x ≠ t)) } : LS)) = _
  rw [ins_filter wl.tasks ht]
theorem way_keptF (S : LS) (K : Int → Option Mem) : ∀ (n : Nat) (y : Int), wayF { S with kept := K } n y = wayF S n y
  | 0, y => rfl
  | n + 1, y => by
    unfold wayF
    dsimp only
    cases S.home y with
    | none => rfl
    | some g =>
      dsimp only
      rw [way_keptF S K n g]
end Go.Proofs.Ytpgfenelckonoaa.LaM
namespace Go.Proofs.Ytpgfenelckonoaa.La
open Go.RowKit Go.Proofs.Ytpgfenelckonoaa.Kit Go.Proofs.Ytpgfenelckonoaa.ShM Go.Proofs.Ytpgfenelckonoaa.Sh Go.Proofs.Ytpgfenelckonoaa.QuM Go.Proofs.Ytpgfenelckonoaa.Qu Go.Proofs.Ytpgfenelckonoaa.LaM
open Go.Proofs.Ytpgfenelckonoaa.Ki (Row row_nil row_of iv iv_len iv_one)
set_option linter.unusedVariables false
set_option linter.unusedSimpArgs false
def flatP (l : List St) : List Value := l.flatMap fun s => [.int .i64 s.id, .int .i64 s.wt]
theorem flatP_snoc (l : List St) (s : St) : flatP (l ++ [s]) = flatP l ++ [.int .i64 s.id, .int .i64 s.wt] := by
  unfold flatP
  rw [List.flatMap_append]
  rfl
theorem flatP_get : ∀ (l : List St) (i : Nat) (h : i < l.length), (flatP l)[i * 2]? = some (.int .i64 l[i].id) ∧ (flatP l)[i * 2 + 1]? = some (.int .i64 l[i].wt)
  | [], i, h => absurd h (Nat.not_lt_zero _)
  | x :: l, 0, h => by simp [flatP]
  | x :: l, i + 1, h => by
    have := flatP_get l i (by simpa using h)
    have e : flatP (x :: l) = .int .i64 x.id :: .int .i64 x.wt :: flatP l := rfl
    rw [e, show (i + 1) * 2 = i * 2 + 1 + 1 by omega]
    simpa using this
theorem srow_cells {w : World} {A : Option Addr} {l : List St} (h : Cells w A (flatP l)) (hi : ∀ s ∈ l, int64 s.id) : SRow w A l := fun i hl => by
  obtain ⟨e0, e1⟩ := flatP_get l i hl
  obtain ⟨h0, g0⟩ := List.getElem?_eq_some_iff.1 e0
  obtain ⟨h1, g1⟩ := List.getElem?_eq_some_iff.1 e1
  obtain ⟨ad, rfl, c0⟩ := h _ h0
  obtain ⟨ad', e, c1⟩ := h _ h1
  cases e
  exact ⟨ad, rfl, by rw [c0, g0], by rw [c1, g1], hi _ (List.getElem_mem hl)⟩
theorem infoS : (Try.prog.info? 30).map (fun i => (i.zero, i.size, i.bytes)) = some (some (.agg #[.int .i64 0, .int .i64 0]), 2, 16) := by kernel_rfl
theorem litS (w : World) (a b : Int) : Cells (w.alloc (.cells #[.int .i64 a, .int .i64 b] 30)) (some ⟨w.heap.size, 0, none⟩) [.int .i64 a, .int .i64 b] := by
  have h := World.ownsRow_lit (base := 0) (e := 30) (size := 2) w #[.int .i64 a, .int .i64 b] 1 (Nat.zero_le _) (by decide) rfl
  obtain ⟨A, cap, hv, hc, _⟩ := own_readsS (by decide) h
  cases hv
  exact hc
theorem infoR : (Try.prog.info? 39).map (fun i => (i.zero, i.size, i.bytes)) = some (some (.slice none 0 0), 1, 24) := by kernel_rfl
theorem litR (w : World) (v : Value) : Cells (w.alloc (.cells #[v] 39)) (some ⟨w.heap.size, 0, none⟩) [v] := fun i hi => ⟨_, rfl, by
  have hi : i < 1 := by simpa using hi
  obtain rfl : i = 0 := by omega
  rw [add_lit, blk_cell (blk_new w _)]
  rfl⟩
def sv (S : LS) (wy : List Int) (f : Nat → Option Addr × Nat) (k : Nat) : Value := .slice (f k).1 (S.Q (wy.getD k 0)).1.length (f k).2
structure BkI (wc wr : World) (S : LS) (wy : List Int) (i j : Nat) (f : Nat → Option Addr × Nat) (p q : Value) : Prop where
  bel : Below wc.heap.size wc wr
  path : wr.ownsRow wc.heap.size 30 2 p i (flatP ((wy.take i).map (stOf S)))
  was : wr.ownsRow wc.heap.size 39 1 q j ((List.range j).map (sv S wy f))
  each : ∀ k, k < j → Hid (TRow wr (f k).1 (told (S.Q (wy.getD k 0)).2 (S.Q (wy.getD k 0)).1)) ∧ ∀ a, (f k).1 = some a → wc.heap.size ≤ a.block ∧ a.block < wr.heap.size ∧ p.ownBlock ≠ some a.block ∧ q.ownBlock ≠ some a.block
  apart : ∀ k, p.ownBlock = some k → q.ownBlock ≠ some k
section
variable {wc wr w' : World} {S : LS} {wy : List Int} {i j : Nat} {f : Nat → Option Addr × Nat} {p q : Value}
theorem BkI.start (wc : World) (S : LS) (wy : List Int) (f : Nat → Option Addr × Nat) : BkI wc wc S wy 0 0 f (.slice none 0 0) (.slice none 0 0) :=
  ⟨Below.refl _ _, ⟨rfl, .inl ⟨rfl, rfl⟩⟩, ⟨rfl, .inl ⟨rfl, rfl⟩⟩, fun k hk => absurd hk (Nat.not_lt_zero _), fun k hk => by cases hk⟩
theorem BkI.below (h : BkI wc wr S wy i j f p q) (hb : Below wr.heap.size wr w') : BkI wc w' S wy i j f p q :=
  ⟨h.bel.trans (hb.mono h.bel.size), own_belowS h.path hb, own_belowS h.was hb, fun k hk => ⟨trow_below (h.each k hk).1 hb, fun a ha => by
    obtain ⟨h1, h2, h3⟩ := (h.each k hk).2 a ha
    exact ⟨h1, Nat.lt_of_lt_of_le h2 hb.size, h3⟩⟩, h.apart⟩
theorem BkI.pushP (h : BkI wc wr S wy i j f p q) {y : Int} (hi : wy[i]? = some y) {p' : Value} {t : Int} (ht : t = (stOf S y).wt) (hown : w'.ownsRow wc.heap.size 30 2 p' (i + 1) (flatP ((wy.take i).map (stOf S)) ++ [.int .i64 y, .int .i64 t]))
    (hg : wr.grownBy w' p.ownBlock) (hv : p'.ownBlock = p.ownBlock ∨ p'.ownBlock = some wr.heap.size) : BkI wc w' S wy (i + 1) j f p' q := by
  have hq : ∀ k, q.ownBlock = some k → p.ownBlock ≠ some k := fun k hk e => h.apart k e hk
  refine ⟨h.bel.grown hg h.bel.size fun k hk => (h.path.lt k hk).1, ?_, ?_, fun k hk => ⟨?_, fun a ha => ?_⟩, fun k hk => ?_⟩
  · rw [List.take_add_one, hi, List.map_append]
    rw [show (some y).toList.map (stOf S) = [stOf S y] from rfl, flatP_snoc, show (stOf S y).id = y from rfl, ← ht]
    exact hown
  · refine h.was.kept hg ?_
    cases hk : q.ownBlock with
    | none => exact .inl rfl
    | some k => exact .inr (fun e => hq k hk e.symm)
  · exact trow_same (h.each k hk).1 fun a ha => hg.block _ ((h.each k hk).2 a ha).2.1 (fun e => ((h.each k hk).2 a ha).2.2.1 e.symm)
  · obtain ⟨h1, h2, h3, h4⟩ := (h.each k hk).2 a ha
    refine ⟨h1, Nat.lt_of_lt_of_le h2 hg.size, ?_, h4⟩
    rcases hv with e | e
    · rw [e]; exact h3
    · rw [e]; intro e; have := Option.some.inj e; omega
  · rcases hv with e | e
    · rw [e] at hk; exact h.apart k hk
    · rw [e] at hk
      cases hk
      intro e2
      have := (h.was.lt _ e2).2
      omega
theorem BkI.pushQ (h : BkI wc wr S wy i j f p q) {y : Int} (hi : wy[j]? = some y) {q' : Value} {A : Option Addr} {c : Nat} (hT : Hid (TRow wr A (told (S.Q y).2 (S.Q y).1))) (hA : ∀ a, A = some a → wc.heap.size ≤ a.block ∧ a.block < wr.heap.size ∧ p.ownBlock ≠ some a.block ∧ q.ownBlock ≠ some a.block)
    (hown : w'.ownsRow wc.heap.size 39 1 q' (j + 1) ((List.range j).map (sv S wy f) ++ [.slice A (S.Q y).1.length c])) (hg : wr.grownBy w' q.ownBlock) (hv : q'.ownBlock = q.ownBlock ∨ q'.ownBlock = some wr.heap.size) :
    ∃ f', BkI wc w' S wy i (j + 1) f' p q' := by
  have hy : wy.getD j 0 = y := by rw [List.getD_eq_getElem?_getD, hi]; rfl
  obtain ⟨f', hf'⟩ : ∃ f' : Nat → Option Addr × Nat, f' = fun k => if k = j then (A, c) else f k := ⟨_, rfl⟩
  have fj : f' j = (A, c) := by rw [hf']; simp
  have fo : ∀ k, k < j → f' k = f k := fun k hk => by rw [hf']; simp [Nat.ne_of_lt hk]
  have all : ∀ k, k < j + 1 → Hid (TRow wr (f' k).1 (told (S.Q (wy.getD k 0)).2 (S.Q (wy.getD k 0)).1)) ∧ ∀ a, (f' k).1 = some a → wc.heap.size ≤ a.block ∧ a.block < wr.heap.size ∧ p.ownBlock ≠ some a.block ∧ q.ownBlock ≠ some a.block := by
    intro k hk
    by_cases e : k = j
    · subst e; rw [fj, hy]; exact ⟨hT, hA⟩
    · have hk' : k < j := by omega
      rw [fo k hk']; exact h.each k hk'
  refine ⟨f', h.bel.grown hg h.bel.size fun k hk => (h.was.lt k hk).1, ?_, ?_, fun k hk => ⟨?_, fun a ha => ?_⟩, fun k hk => ?_⟩
  · refine h.path.kept hg ?_
    cases hk : p.ownBlock with
    | none => exact .inl rfl
    | some k => exact .inr (fun e => h.apart k hk e.symm)
  · have e : (List.range (j + 1)).map (sv S wy f') = (List.range j).map (sv S wy f) ++ [.slice A (S.Q y).1.length c] := by
      rw [List.range_succ, List.map_append]
      congr 1
      · exact List.map_congr_left fun k hk => by unfold sv; rw [fo k (List.mem_range.1 hk)]
      · show [sv S wy f' j] = _
        unfold sv
        rw [fj, hy]
    rw [e]; exact hown
  · exact trow_same (all k hk).1 fun a ha => hg.block _ ((all k hk).2 a ha).2.1 (fun e => ((all k hk).2 a ha).2.2.2 e.symm)
  · obtain ⟨h1, h2, h3, h4⟩ := (all k hk).2 a ha
    refine ⟨h1, Nat.lt_of_lt_of_le h2 hg.size, h3, ?_⟩
    rcases hv with e | e
    · rw [e]; exact h4
    · rw [e]; intro e; have := Option.some.inj e; omega
  · rcases hv with e | e
    · rw [e]; exact h.apart k hk
    · rw [e]
      intro e2
      have := Option.some.inj e2
      have := (h.path.lt k hk).2
      omega
end
section
variable {w0 wa w wq : World} {lp n : Nat} {S : LS} {K : Nat → Prop}
/-- What was laid behind the lane is kept. -/
theorem Bye.range (h : Bye w0 wa lp S n K) (hb : Below wa.heap.size wa wq) : Bye w0 wq lp S n (fun k => wa.heap.size ≤ k ∧ k < wq.heap.size) := by
  have h8 := h.below hb
  obtain ⟨⟨G, h1, h2, h3⟩, h7⟩ := h
  exact ⟨⟨G, h1.below hb, h2, fun k hk => ⟨hk.2, fun hg => by have := h1.lt k hg; omega⟩⟩, h8.bel⟩
theorem Bye.lane2 (h : Bye w0 w lp S n K) : ∃ G, LF G w lp S n ∧ (∀ x, G x → w0.heap.size ≤ x) ∧ (∀ k, K k → k < w.heap.size ∧ ¬ G k) ∧ ∀ w' S' n', Ln w G w' lp S' n' → Bye w0 w' lp S' n' K ∧ (∀ k, K k → w'.heap[k]? = w.heap[k]?) := by
  obtain ⟨⟨G, h1, h2, h3⟩, h7⟩ := h
  refine ⟨G, h1, h2, h3, fun w' S' n' hl => ?_⟩
  obtain ⟨G2, g1, g2, g3⟩ := hl
  refine ⟨⟨⟨G2, g1, fun x hx => ?_, fun k hk => ?_⟩, ?_⟩, fun k hk => g3.block k (h3 k hk).1 (h3 k hk).2⟩
  · rcases g2 x hx with e | e
    · exact h2 x e
    · exact Nat.le_trans h7.size e
  · obtain ⟨e1, e2⟩ := h3 k hk
    refine ⟨Nat.lt_of_lt_of_le e1 g3.size, fun hg => ?_⟩
    rcases g2 k hg with e | e
    · exact e2 e
    · omega
  · exact ⟨g3.os.trans h7.os, g3.tape.trans h7.tape, g3.output.trans h7.output, Nat.le_trans h7.size g3.size, fun x hx => (g3.block x (Nat.lt_of_lt_of_le hx h7.size) (fun hg => by have := h2 x hg; omega)).trans (h7.block x hx)⟩
end
/-- Cells whose blocks are kept. -/
theorem cells_same {w w' : World} {A : Option Addr} {l : List Value} (h : Cells w A l) (hs : ∀ a, A = some a → w'.heap[a.block]? = w.heap[a.block]?) : Cells w' A l := fun i hi => by
  obtain ⟨ad, rfl, c⟩ := h i hi
  exact ⟨ad, rfl, (cell_blk (by rw [add_blk]; exact hs ad rfl)).trans c⟩
end Go.Proofs.Ytpgfenelckonoaa.La
namespace Go.Proofs.Ytpgfenelckonoaa.La
open Go.RowKit Go.Proofs.Ytpgfenelckonoaa.Kit Go.Proofs.Ytpgfenelckonoaa.ShM Go.Proofs.Ytpgfenelckonoaa.Sh Go.Proofs.Ytpgfenelckonoaa.QuM Go.Proofs.Ytpgfenelckonoaa.Qu Go.Proofs.Ytpgfenelckonoaa.LaM
open Go.Proofs.Ytpgfenelckonoaa.Ki (Row row_nil row_of iv iv_len iv_one)
set_option linter.unusedVariables false
set_option linter.unusedSimpArgs false
set_option maxRecDepth 40000 in
set_option maxHeartbeats 6400000 in
theorem backLaw_any (A : Option Addr) (l : List LOp) (cap : Nat) (whi : Int) (w : World) (hr : Hid (LRow w A l)) (hl : l.length ≤ 9223372036854775807) (hw0 : 0 ≤ whi) (hw1 : whi ≤ 255) :
    Calls Try.prog 7 #[.slice A l.length cap, .int .u8 whi] w fun e w' => e = .returned (.bool true) ∧ Below w.heap.size w w' := by
  have HA := Kit.hid (awake_lane w)
  go_enter Try.func7, Try.ntmps7
  go_wp2_with fail
  (with_reducible refine HA.out.mono ?_); rintro e w1 ⟨rfl, hb1⟩
  have HB1 := Kit.hid hb1
  have HF := Kit.hid (few_any A l cap w1 (Kit.hid (hr.out.below hb1)) hl)
  clear hb1 HA
  obtain ⟨f1, hf1⟩ : ∃ f1, f1 = fewS l := ⟨_, rfl⟩
  have HE1 := Kit.hid hf1
  rw [← hf1] at HF
  clear hf1
  go_wp2_with fail
  (with_reducible refine HF.out.mono ?_); rintro e w2 ⟨rfl, rfl⟩
  cases f1 with
  | false =>
    go_wp2
    go_ret
    exact ⟨rfl, HB1.out⟩
  | true =>
  have HWK := Kit.hid (walked_lane A l cap w2 (Kit.hid (hr.out.below HB1.out)) HE1.out.symm)
  have HWL : Hid (WL (walkedS l)) := Kit.hid (walkedS_ok l fun o ho => ((few_ok HE1.out.symm).1 o ho).1)
  have hl40 := (few_ok HE1.out.symm).2
  obtain ⟨S, hS⟩ : ∃ S, S = walkedS l := ⟨_, rfl⟩
  rw [← hS] at HWK HWL
  clear hS HF
  go_wp2_with fail
  (with_reducible refine HWK.out.mono ?_); rintro e wa ⟨lp, rfl, hla⟩
  have HDa := Kit.hid (Bye.of_ln hla)
  obtain ⟨Ga, a1, a2, a3⟩ := HDa.out.lane
  have HTS := Kit.hid (tasks_lane a1 (by omega))
  have HGa := Kit.hid a1
  have htl : S.tasks.length ≤ 100000 := by
    obtain ⟨mb, mh, mk, vt, Qp, Fq, _, hx⟩ := a1
    have := hx.tn
    omega
  clear hla HWK a1 a2 a3
  go_wp2_with fail
  (with_reducible refine HTS.out.mono ?_); rintro e wb ⟨vt, rfl, hrt, hbb⟩
  have HRT := Kit.hid hrt
  have HBb := Kit.hid hbb
  obtain ⟨At, ct, rfl, hct, _, _⟩ := hrt.reads
  clear hrt hbb HTS
  by_cases hz : S.tasks = []
  · rw [hz]
    have HE := Kit.hid (HB1.out.trans ((HDa.out.below HBb.out).bel.mono HB1.out.size))
    go_wp2
    go_ret
    exact ⟨rfl, HE.out⟩
  have hpos : 0 < S.tasks.length := List.length_pos_iff.2 hz
  obtain ⟨whn, rfl⟩ := Int.eq_ofNat_of_zero_le hw0
  obtain ⟨i, hi⟩ : ∃ i, i = whn % S.tasks.length := ⟨_, rfl⟩
  have hil : i < S.tasks.length := by rw [hi]; exact Nat.mod_lt _ hpos
  have hrem : Int.tmod (whn : Int) (S.tasks.length : Int) = (i : Int) := by rw [hi, Int.tmod_eq_emod_of_nonneg (by omega)]; simp
  obtain ⟨id, hid⟩ : ∃ id, S.tasks[i]? = some id := ⟨_, List.getElem?_eq_getElem hil⟩
  have hidt : id ∈ S.tasks := List.mem_of_getElem? hid
  have hsome := HWL.out.isHome id hidt
  obtain ⟨g, hg⟩ : ∃ g, S.home id = some g := by
    cases hh : S.home id with
    | none => rw [hh] at hsome; cases hsome
    | some g => exact ⟨g, rfl⟩
  have HIDT := Kit.hid hidt
  have HG := Kit.hid hg
  have HII : Hid (int64 id) := Kit.hid (home_int HWL.out hsome)
  have HSW := Kit.hid (steps_way HWL.out hsome)
  obtain ⟨ad, hA, k0⟩ := cells_at hct hid
  subst hA
  have HWY := Kit.hid (way_lane id (HGa.out.below HBb.out) HWL.out HII.out)
  obtain ⟨wy, hwy⟩ : ∃ wy, wy = wayS S id := ⟨_, rfl⟩
  have hw8 : wy.length ≤ 8 := by rw [hwy]; exact way_len HWL.out id
  have HWE := Kit.hid hwy
  rw [← hwy] at HWY HSW
  have hi4 : (i : Int) < (S.tasks.length : Int) := by omega
  have hz' : ¬ S.tasks.length = 0 := by omega
  have hz2 : ((S.tasks.length : Int) == 0) = false := by simp; omega
  have hz3 : ¬ (S.tasks.length : Int) = 0 := by omega
  clear hz hi hil hid hidt hsome hg hct hwy
  go_wp2_with fail
  (with_reducible refine HWY.out.mono ?_); rintro e wc ⟨vy, rfl, hry, hbc⟩
  have HRY := Kit.hid hry
  have HBc := Kit.hid (HBb.out.trans (hbc.mono HBb.out.size))
  obtain ⟨Ay, cy, rfl, hcy, _, _⟩ := hry.reads
  have HCY := Kit.hid hcy
  have HGc := Kit.hid (HGa.out.below HBc.out)
  have HBSZ : Hid (wb.heap.size ≤ wc.heap.size) := Kit.hid hbc.size
  have HBC2 := Kit.hid hbc
  clear hry hbc hcy HWY k0
  go_wp2_with fail
  go_loopw [11, 12, 13] (fun v11 v12 v13 wr => ∃ (i : Nat) (f : Nat → Option Addr × Nat), i ≤ wy.length ∧ v13 = .int .i64 i ∧ Hid (BkI wc wr S wy i i f v11 v12)) (fun _ _ i _ => wy.length - (intOf i).toNat)
  case atStart => exact ⟨0, fun _ => (none, 0), by omega, rfl, Kit.hid (BkI.start _ _ _ _)⟩
  case round =>
    obtain ⟨i, f, hi, rfl, HK⟩ := hrel
    by_cases hlt : i < wy.length
    · obtain ⟨y, j, e1, e2, e3⟩ := HSW.out (i + 1) (by omega)
      rw [List.getElem?_cons_succ] at e1
      have HY := Kit.hid e1
      have HB := Kit.hid HK.out.bel
      obtain ⟨ad', hA, k0⟩ := cells_at (cells_over HCY.out HB.out) e1
      subst hA
      have hil : (i : Int) < (wy.length : Int) := by omega
      have z1 : (0 : Int) ≤ (i : Int) := by omega
      have hyi := home_int HWL.out (x := y) (by rw [e3]; rfl)
      have hgk := HGc.out.below HB.out
      have HGT := Kit.hid (get_full y j hgk HWL.out (by omega) hyi e3)
      have hfu : (S.Q y).1 ≠ [] := by
        have hm := way_home2 HWL.out (id := id) y (by rw [← HWE.out]; exact List.mem_of_getElem? e1)
        obtain ⟨j', hj'⟩ := Option.isSome_iff_exists.1 hm
        refine HWL.out.full y j' hj' ?_
        obtain ⟨l2, h1, _, h3⟩ := way_is HWL.out HG.out
        exact (way_home h1 y (by rw [← h3, ← HWE.out]; exact List.mem_of_getElem? e1)).2.2
      obtain ⟨m, hm⟩ : ∃ m, m = memS S j y := ⟨_, rfl⟩
      have HWT : Hid (m.wt = (stOf S y).wt) := Kit.hid (by unfold stOf; rw [hm, e3]; rfl)
      have HFU := Kit.hid hfu
      have HYI := Kit.hid hyi
      have HC0 : Hid (∀ w', Below wc.heap.size wc w' → w'.cell? (ad'.add i) = some (.int .i64 y)) := Kit.hid (fun w' hb => by
        obtain ⟨a2, e, c⟩ := cells_at (cells_over HCY.out hb) HY.out
        cases e
        exact c)
      rw [← hm] at HGT
      unfold memV at HGT
      clear e1 e2 e3 hyi hgk hfu hm
      go_wp2_with fail
      (with_reducible refine HGT.out.mono ?_); rintro e w5 ⟨rfl, hb5⟩
      have HB5 := Kit.hid hb5
      clear hb5 HGT k0
      go_wp2_with fail
      obtain ⟨w6, hw6⟩ : ∃ w6, w6 = w5.alloc (.cells #[.int .i64 m.id, .int .i64 m.wt, .int .i64 m.v, .int .i64 m.rem] 35) := ⟨_, rfl⟩
      rw [← hw6]
      obtain ⟨b6, hb6⟩ : ∃ b6, b6 = w5.heap.size := ⟨_, rfl⟩
      have HX6 : Hid (w6.heap[b6]? = some (.cells #[.int .i64 m.id, .int .i64 m.wt, .int .i64 m.v, .int .i64 m.rem] 35 (0, 0))) := Kit.hid (by rw [hw6, hb6]; exact blk_new _ _)
      have HB6 : Hid (Below wr.heap.size wr w6) := Kit.hid (by rw [hw6]; exact HB5.out.alloc HB5.out.size _)
      have HK6 := Kit.hid (HK.out.below HB6.out)
      have HLT := Kit.hid (blk_lt HX6.out)
      have HBW : Hid (wr.heap.size ≤ b6) := Kit.hid (by rw [hb6]; exact HB5.out.size)
      have HPB : Hid (u11.ownBlock ≠ some b6) := Kit.hid (fun e => by have := (HK.out.path.lt _ e).2; have := HBW.out; omega)
      have HSZ6 := Kit.hid HK6.out.bel.size
      rw [← hb6]
      clear hw6 hb6
      refine wp_region_noPanic ?_
      refine wp_region_held_drew (S := fun w' => Below wc.heap.size wc w' ∧ w'.heap[b6]? = some (.cells #[.int .i64 m.id, .int .i64 m.wt, .int .i64 m.v, .int .i64 m.rem] 35 (0, 0))) (by kernel_rfl) ⟨HK6.out.bel.drew, HX6.out⟩ (fun hHeld => ?_)
      refine wpAnyH_take (i := 0) (hi := by simp only [List.getElem?_toArray, List.getElem?_cons_succ, List.getElem?_cons_zero]; rfl) (v := ?_) (by kernel_rfl) (by kernel_rfl) (by kernel_rfl) (fun _ _ _ h => h) (Or.inl ⟨by rfl, ?_⟩) (by assumption) ?_
      rotate_left
      · (intro w hSw; (try dsimp only at hSw); go_simp; first | done | with_reducible rfl)
      try simp only [Act.put, List.setIfInBounds_toArray, List.set_cons_zero, List.set_cons_succ]
      refine wpAnyH_take (i := 1) (hi := by simp only [List.getElem?_toArray, List.getElem?_cons_succ, List.getElem?_cons_zero]; rfl) (v := ?_) (by kernel_rfl) (by kernel_rfl) (by kernel_rfl) (fun _ _ _ h => h) (Or.inl ⟨by rfl, ?_⟩) (by assumption) ?_
      rotate_left
      · (intro w hSw; (try dsimp only at hSw); go_simp; first | done | with_reducible rfl)
      try simp only [Act.put, List.setIfInBounds_toArray, List.set_cons_zero, List.set_cons_succ]
      refine wpAnyH_take (i := 2) (hi := by simp only [List.getElem?_toArray, List.getElem?_cons_succ, List.getElem?_cons_zero]; rfl) (v := ?_) (by kernel_rfl) (by kernel_rfl) (by kernel_rfl) (fun _ _ _ h => h) (Or.inl ⟨by rfl, ?_⟩) (by assumption) ?_
      rotate_left
      · (intro w hSw; (try dsimp only at hSw); go_simp; first | done | with_reducible rfl)
      try simp only [Act.put, List.setIfInBounds_toArray, List.set_cons_zero, List.set_cons_succ]
      refine wpAnyH_take (i := 3) (hi := by simp only [List.getElem?_toArray, List.getElem?_cons_succ, List.getElem?_cons_zero]; rfl) (v := ?_) (by kernel_rfl) (by kernel_rfl) (by kernel_rfl) (fun _ _ _ h => h) (Or.inl ⟨by rfl, ?_⟩) (by assumption) ?_
      rotate_left
      · (intro w hSw; (try dsimp only at hSw); (obtain ⟨hS1, hS2⟩ := hSw; have c0 := HC0.out _ hS1; have c1 := blk_cell hS2 1; have lb := blk_lt hS2); go_simp; first | done | with_reducible rfl)
      try simp only [Act.put, List.setIfInBounds_toArray, List.set_cons_zero, List.set_cons_succ]
      refine wpAnyH_take (i := 4) (hi := by simp only [List.getElem?_toArray, List.getElem?_cons_succ, List.getElem?_cons_zero]; rfl) (v := ?_) (by kernel_rfl) (by kernel_rfl) (by kernel_rfl) (fun _ _ _ h => h) (Or.inl ⟨by rfl, ?_⟩) (by assumption) ?_
      rotate_left
      · (intro w hSw; (try dsimp only at hSw); (obtain ⟨hS1, hS2⟩ := hSw; have c0 := HC0.out _ hS1; have c1 := blk_cell hS2 1; have lb := blk_lt hS2); go_simp; first | done | with_reducible rfl)
      try simp only [Act.put, List.setIfInBounds_toArray, List.set_cons_zero, List.set_cons_succ]
      refine wpAnyH_take (i := 5) (hi := by simp only [List.getElem?_toArray, List.getElem?_cons_succ, List.getElem?_cons_zero]; rfl) (v := ?_) (by kernel_rfl) (by kernel_rfl) (by kernel_rfl) (fun _ _ _ h => h) (Or.inl ⟨by rfl, ?_⟩) (by assumption) ?_
      rotate_left
      · (intro w hSw; (try dsimp only at hSw); go_simp; first | done | with_reducible rfl)
      try simp only [Act.put, List.setIfInBounds_toArray, List.set_cons_zero, List.set_cons_succ]
      refine wpAnyH_take (i := 6) (hi := by simp only [List.getElem?_toArray, List.getElem?_cons_succ, List.getElem?_cons_zero]; rfl) (v := ?_) (by kernel_rfl) (by kernel_rfl) (by kernel_rfl) (fun _ _ _ h => h) (Or.inl ⟨by rfl, ?_⟩) (by assumption) ?_
      rotate_left
      · (intro w hSw; (try dsimp only at hSw); (obtain ⟨hS1, hS2⟩ := hSw; have c0 := HC0.out _ hS1; have c1 := blk_cell hS2 1; have lb := blk_lt hS2); go_simp; first | done | with_reducible rfl)
      try simp only [Act.put, List.setIfInBounds_toArray, List.set_cons_zero, List.set_cons_succ]
      refine wpAnyH_take (i := 7) (hi := by simp only [List.getElem?_toArray, List.getElem?_cons_succ, List.getElem?_cons_zero]; rfl) (v := ?_) (by kernel_rfl) (by kernel_rfl) (by kernel_rfl) (fun _ _ _ h => h) (Or.inl ⟨by rfl, ?_⟩) (by assumption) ?_
      rotate_left
      · (intro w hSw; (try dsimp only at hSw); go_simp; first | done | with_reducible rfl)
      try simp only [Act.put, List.setIfInBounds_toArray, List.set_cons_zero, List.set_cons_succ]
      refine wpAnyH_ready (rs := [8]) (by kernel_rfl) (by simp) ?_
      refine AllReadyH.cons (ho := by simp only [List.getElem?_toArray, List.getElem?_cons_succ, List.getElem?_cons_zero]; rfl) (fun K hK => ?_) (AllReadyH.nil)
      go_simp
      go_wp2_with fail
      have HB7 : Hid (Below w6.heap.size w6 (w6.drew.alloc (.cells #[.int .i64 y, .int .i64 m.wt] 30))) := Kit.hid ((Below.refl _ w6).drew.alloc (Nat.le_refl _) _)
      have HK7 := Kit.hid (HK6.out.below HB7.out)
      refine hK.out _ _ ?_ (fun hHeldN => ?_)
      · exact ⟨HK7.out.bel, (HB7.out.block _ HLT.out).trans HX6.out⟩
      clear hHeld
      have hHeld := hHeldN
      clear hHeldN
      clear hK K
      try simp only [Act.put, List.setIfInBounds_toArray, List.set_cons_zero, List.set_cons_succ]
      refine wpAnyH_ready (rs := [9]) (by kernel_rfl) (by simp) ?_
      refine AllReadyH.cons (ho := by simp only [List.getElem?_toArray, List.getElem?_cons_succ, List.getElem?_cons_zero]; rfl) (fun K hK => ?_) (AllReadyH.nil)
      refine step_append_srcS rfl _ _ 31 rfl wc.heap.size 30 (.agg #[.int .i64 0, .int .i64 0]) 2 16 (by decide) Try.underlying31 infoS rfl _ i _ (by simp [Act.eval, Act.put]) HK7.out.path (some ⟨w6.heap.size, 0, none⟩) 1 1 [.int .i64 y, .int .i64 m.wt] (by simp [Act.eval, Act.put]) rfl (litS w6.drew _ _) (by simp [Value.oneCell']) (by unfold maxLen; omega) (by omega) (Nat.le_trans HSZ6.out HB7.out.size) ?_
      intro p' w8 hown' hgrow hvb'
      have HK8 := Kit.hid (HK7.out.pushP HY.out HWT.out hown' hgrow hvb')
      have HX8 : Hid (w8.heap[b6]? = _) := Kit.hid ((hgrow.block b6 (Nat.lt_of_lt_of_le HLT.out HB7.out.size) (fun e => HPB.out e.symm)).trans ((HB7.out.block _ HLT.out).trans HX6.out))
      clear hown' hgrow hvb'
      refine hK.out _ _ ?_ (fun hHeldN => ?_)
      · exact ⟨HK8.out.bel, HX8.out⟩
      clear hHeld
      have hHeld := hHeldN
      clear hHeldN
      clear hK K
      try simp only [Act.put, List.setIfInBounds_toArray, List.set_cons_zero, List.set_cons_succ]
      refine wpAnyH_take (i := 10) (hi := by simp only [List.getElem?_toArray, List.getElem?_cons_succ, List.getElem?_cons_zero]; rfl) (v := ?_) (by kernel_rfl) (by kernel_rfl) (by kernel_rfl) (fun _ _ _ h => h) (Or.inl ⟨by rfl, ?_⟩) (by assumption) ?_
      rotate_left
      · (intro w hSw; (try dsimp only at hSw); go_simp; first | done | with_reducible rfl)
      try simp only [Act.put, List.setIfInBounds_toArray, List.set_cons_zero, List.set_cons_succ]
      clear hHeld
      refine wpAnyH_done (by kernel_rfl) ?_ _
      refine NoPanic.normal ?_
      skip
      have k8 := HC0.out _ HK8.out.bel
      have HQF := Kit.hid (queue_full y (HGc.out.below HK8.out.bel) (by omega) HYI.out HFU.out)
      go_wp2_with fail
      (with_reducible refine HQF.out.mono ?_); rintro e w9 ⟨vq, rfl, hvq, hb9⟩
      obtain ⟨Aq, cq, rfl, hcq, _, hab⟩ := own_readsS (by decide) hvq
      obtain ⟨w10, hw10⟩ : ∃ w10, w10 = w9.alloc (.cells #[.slice Aq (S.Q y).1.length cq] 39) := ⟨_, rfl⟩
      have hb10 : Below w8.heap.size w8 w10 := by rw [hw10]; exact hb9.alloc hb9.size _
      have HK10 := Kit.hid (HK8.out.below hb10)
      have HT10 := Kit.hid (trow_below (trow_cells hcq) (by rw [hw10]; exact (Below.refl _ _).alloc (Nat.le_refl _) _ : Below w9.heap.size w9 w10))
      have HA10 : Hid (∀ a, Aq = some a → wc.heap.size ≤ a.block ∧ a.block < w10.heap.size ∧ p'.ownBlock ≠ some a.block ∧ u12.ownBlock ≠ some a.block) := Kit.hid (fun a ha => by
        obtain ⟨h1, h2⟩ := hvq.lt a.block (by rw [ha]; rfl)
        have h3 := HK8.out.bel.size
        have h4 : w9.heap.size ≤ w10.heap.size := by rw [hw10]; simp
        refine ⟨by omega, by omega, fun e => ?_, fun e => ?_⟩
        · have := (HK8.out.path.lt _ e).2; omega
        · have := (HK8.out.was.lt _ e).2; omega)
      have HLR := Kit.hid (litR w9 (.slice Aq (S.Q y).1.length cq))
      have how := HK10.out.was
      have hsz : wc.heap.size ≤ w10.heap.size := HK10.out.bel.size
      rw [hw10] at how hsz
      have HOW := Kit.hid how
      have HSZ := Kit.hid hsz
      have HW10 := Kit.hid hw10
      clear hvq hb9 hcq hab hw10 hb10 how hsz HQF
      go_wp2_with (at_builtin; refine wpList_append_src rfl _ _ 60 rfl wc.heap.size 39 (.slice none 0 0) 24 Try.underlying60 infoR rfl u12 i _ rfl HOW.out (some ⟨w9.heap.size, 0, none⟩) 1 1 [.slice Aq (S.Q y).1.length cq] rfl rfl HLR.out (fun u hu => by rw [List.mem_singleton.1 hu]; rfl) (by unfold maxLen; omega) (by omega) HSZ.out ?_
                   intro q' w11 hown' hg' hv'
                   rw [← HW10.out] at hg' hv'
                   obtain ⟨f', hk'⟩ := HK10.out.pushQ HY.out HT10 HA10.out hown' hg' hv'
                   have HK' := Kit.hid hk'
                   clear hown' hg' hv' hk')
      go_roundw
      case rel => exact ⟨i + 1, f', by omega, by go_num, HK'⟩
      case measure => simp [intOf]; omega
    · obtain rfl : i = wy.length := by omega
      obtain ⟨Ap, cp, ep, hcp, hlp, habp⟩ := own_readsS (by decide) HK.out.path
      obtain ⟨Av, cv, ev, hcv, _, habv⟩ := own_readsS (by decide) HK.out.was
      subst ep ev
      rw [List.take_length] at hcp
      have HF0 : Hid ((S.Q 0).1 ≠ []) := Kit.hid (by
        obtain ⟨y, j, e1, e2, e3⟩ := HSW.out wy.length (Nat.le_refl _)
        rw [List.getElem?_append_right (Nat.le_refl _), Nat.sub_self] at e2
        cases e2
        exact home_full HWL.out e3)
      have HQ0 := Kit.hid (queue_full 0 (HGc.out.below HK.out.bel) (by omega) (by constructor <;> omega) HF0.out)
      have HCP := Kit.hid hcp
      have HAP := Kit.hid habp
      have HCV := Kit.hid hcv
      have HAV := Kit.hid habv
      clear hcp habp hcv habv
      go_wp2_with fail
      (with_reducible refine HQ0.out.mono ?_); rintro e wq ⟨v0, rfl, hv0, hb0⟩
      obtain ⟨A0, c0, rfl, hc0, _, _⟩ := own_readsS (by decide) hv0
      have HT0 := Kit.hid (trow_cells hc0)
      have HA0 : Hid (∀ a, A0 = some a → wr.heap.size ≤ a.block ∧ a.block < wq.heap.size) := Kit.hid (fun a ha => hv0.lt a.block (by rw [ha]; rfl))
      have HBR := Kit.hid hb0
      have HBQ : Hid (Below wa.heap.size wa wq) := Kit.hid (HBc.out.trans ((HK.out.bel.trans (hb0.mono HK.out.bel.size)).mono HBc.out.size))
      have HDq := Kit.hid (HDa.out.range HBQ.out)
      have HKq := Kit.hid (HK.out.below hb0)
      obtain ⟨G1, g1, g2, g3, g4⟩ := HDq.out.lane2
      have HLV := Kit.hid (leave_lane id g1 HWL.out (by omega) (by omega) HII.out.1 HII.out.2)
      have hlt := leave_tells HIDT.out HG.out
      obtain ⟨m, hm⟩ : ∃ m, m = memS S g id := ⟨_, rfl⟩
      have HM := Kit.hid hm
      rw [← hm] at hlt
      have e1 : (leaveS S id).1.getD ⟨0, 0, 0, 0⟩ = m := by rw [hlt.1]; rfl
      have e2 : (leaveS S id).2.1 = 0 := by rw [hlt.1]
      rw [e1, e2] at HLV
      unfold memV at HLV
      have HL4 := Kit.hid g4
      have HWL2 := Kit.hid (HWL.out.leave id)
      obtain ⟨K3, hK3⟩ := back_all HWL.out HIDT.out HG.out
      rw [← HWE.out, ← hm] at hK3
      obtain ⟨S2, hS2⟩ : ∃ S2, S2 = (leaveS S id).2.2 := ⟨_, rfl⟩
      rw [← hS2] at HLV HWL2 hK3
      have HK3 := Kit.hid hK3
      clear hv0 hb0 hc0 g1 g2 g3 g4 hlt hm e1 e2 hK3 hS2 HQ0
      go_wp2_with fail
      (with_reducible refine HLV.out.mono ?_); rintro e w3 ⟨rfl, hl3⟩
      obtain ⟨hd3, hk3⟩ := HL4.out _ _ _ hl3
      obtain ⟨w4, hw4⟩ : ∃ w4, w4 = w3.alloc (.cells #[.int .i64 m.id, .int .i64 m.wt, .int .i64 m.v, .int .i64 m.rem] 35) := ⟨_, rfl⟩
      have hb4 : Below w3.heap.size w3 w4 := by rw [hw4]; exact (Below.refl _ _).alloc (Nat.le_refl _) _
      have HD4 := Kit.hid (hd3.below hb4)
      have HS4 : Hid (∀ k, wa.heap.size ≤ k → k < wq.heap.size → w4.heap[k]? = wq.heap[k]?) := Kit.hid (fun k h1 h2 => by
        obtain ⟨⟨G, q1, q2, q3⟩, _⟩ := hd3
        exact (hb4.block k (q3 k ⟨h1, h2⟩).1).trans (hk3 k ⟨h1, h2⟩))
      obtain ⟨G4, h1, h2, h3, h4⟩ := HD4.out.lane2
      have HPS : Hid (SRow w4 Ap (wy.map (stOf S))) := Kit.hid (srow_cells (cells_same (cells_over HCP.out HBR.out) fun a ha => by
        rcases HAP.out with ⟨e, _⟩ | ⟨g, e, q1, q2⟩
        · rw [e] at ha; cases ha
        · rw [e] at ha; cases ha
          exact HS4.out g (Nat.le_trans HBc.out.size q1) (Nat.lt_of_lt_of_le q2 HBR.out.size)) fun s hs => by
        obtain ⟨y, hy, rfl⟩ := List.mem_map.1 hs
        exact home_int HWL.out (way_home2 HWL.out (id := id) y (by rw [← HWE.out]; exact hy)))
      have HEN := Kit.hid (enter_lane Ap (wy.map (stOf S)) cp m h1 HWL2.out HPS.out (fun _ a ha => by
        rcases HAP.out with ⟨e, _⟩ | ⟨g, e, q1, q2⟩
        · rw [e] at ha; cases ha
        · rw [e] at ha; cases ha
          exact h3 g ⟨Nat.le_trans HBc.out.size q1, Nat.lt_of_lt_of_le q2 HBR.out.size⟩) (by rw [List.length_map]; exact hlp) (by rw [List.length_map]; exact hw8) (by omega) (by omega) (by
          have : m.id = id := by rw [HM.out]; exact (memS_ok2 (HWL.out.qb g) ((HWL.out.home id g).1 HG.out)).1
          rw [this]; exact HII.out))
      rw [HK3.out, List.length_map] at HEN
      have HL5 := Kit.hid h4
      obtain ⟨S3, hS3⟩ : ∃ S3, S3 = ({ S with kept := K3 } : LS) := ⟨_, rfl⟩
      have HWL3 : Hid (WL S3) := Kit.hid (by
        have := HWL2.out.enter (wy.map (stOf S)) (by rw [List.length_map]; exact hw8) m
        rw [HK3.out] at this
        rw [hS3]; exact this)
      have HQ3 : Hid (S3.Q = S.Q) := Kit.hid (by rw [hS3])
      have HT3 : Hid (S3.tasks = S.tasks) := Kit.hid (by rw [hS3])
      have HW3 : Hid (wayS S3 id = wy) := Kit.hid (by rw [hS3, HWE.out]; exact way_keptF S K3 16 id)
      rw [← hS3] at HEN
      clear hl3 hd3 hk3 hb4 h1 h2 h3 h4 HLV hS3 hlp
      go_wp2_with fail
      rw [← hw4]
      clear hw4
      (with_reducible refine HEN.out.mono ?_); rintro e w5 ⟨rfl, hl5⟩
      obtain ⟨hd5, hk5⟩ := HL5.out _ _ _ hl5
      have HD5 := Kit.hid hd5
      have HS5 : Hid (∀ k, wa.heap.size ≤ k → k < wq.heap.size → w5.heap[k]? = wq.heap[k]?) := Kit.hid (fun k h1 h2 => (hk5 k ⟨h1, h2⟩).trans (HS4.out k h1 h2))
      have HBAC : Hid (wa.heap.size ≤ wc.heap.size ∧ wc.heap.size ≤ wr.heap.size ∧ wr.heap.size ≤ wq.heap.size ∧ wa.heap.size ≤ wb.heap.size ∧ wb.heap.size ≤ wc.heap.size) := Kit.hid ⟨HBc.out.size, HK.out.bel.size, HBR.out.size, HBb.out.size, HBSZ.out⟩
      have HT5 := Kit.hid (trow_same HT0 fun a ha => HS5.out _ (by have := (HA0.out a ha).1; have := HBAC.out; omega) (HA0.out a ha).2)
      have HR5 : Hid (Row wa.heap.size w5 (.slice (some ad) S.tasks.length ct) S.tasks) := Kit.hid ((HRT.out.below (by
        exact HBC2.out.trans ((HK.out.bel.trans (HBR.out.mono HK.out.bel.size)).mono HBC2.out.size) : Below wb.heap.size wb wq)).same fun g hg => HS5.out g (HRT.out.own_lt g hg).1 (by have := (HRT.out.own_lt g hg).2; have := HBAC.out; omega))
      obtain ⟨G5, k1, k2, k3⟩ := HD5.out.lane
      have HG5 := Kit.hid k1
      have HBE := Kit.hid (HB1.out.trans (HD5.out.bel.mono HB1.out.size))
      have HRY5 : Hid (Row wb.heap.size w5 (.slice Ay wy.length cy) wy) := Kit.hid (((HRY.out.below HK.out.bel).below HBR.out).same fun g hg => HS5.out g (by have := (HRY.out.own_lt g hg).1; have := HBAC.out; omega) (by have := (HRY.out.own_lt g hg).2; have := HBAC.out; omega))
      clear hl5 hd5 hk5 k1 k2 k3 HEN HL5
      have HQ5 := Kit.hid (queue_full 0 HG5.out (by omega) (by constructor <;> omega) (by rw [HQ3.out]; exact HF0.out))
      rw [HQ3.out] at HQ5
      go_wp2_with fail
      (with_reducible refine HQ5.out.mono ?_); rintro e w6 ⟨v6, rfl, hv6, hb6⟩
      obtain ⟨A6, c6, rfl, hc6, _, _⟩ := own_readsS (by decide) hv6
      have HB6 := Kit.hid hb6
      have hql := HGa.out.qn 0
      have HQS := Kit.hid (qsame_any A6 A0 _ _ c6 c0 w6 (trow_cells hc6) (trow_below HT5 hb6) (by rw [told_len]; omega) (by rw [told_len]; omega))
      rw [told_len, decide_eq_true rfl] at HQS
      clear hv6 hb6 hc6 HQ5
      go_wp2_with fail
      (with_reducible refine HQS.out.mono ?_); rintro e w7 ⟨rfl, mm, rfl⟩
      have HB7 := Kit.hid (below_drewN HB6.out mm)
      have HTS2 := Kit.hid (tasks_lane (HG5.out.below HB7.out) (by omega))
      rw [HT3.out] at HTS2
      clear HQS
      go_wp2_with fail
      (with_reducible refine HTS2.out.mono ?_); rintro e w8 ⟨vt2, rfl, hrt2, hb8⟩
      have HB8 := Kit.hid (HB7.out.trans (hb8.mono HB7.out.size))
      have HSM := Kit.hid (rsame_any hrt2 (HR5.out.below HB8.out) (by omega) (by omega))
      rw [decide_eq_true rfl] at HSM
      obtain ⟨At2, ct2, rfl, _, _, _⟩ := hrt2.reads
      clear hrt2 hb8 HTS2
      go_wp2_with fail
      (with_reducible refine HSM.out.mono ?_); rintro e w9 ⟨rfl, hb9⟩
      have HB9 := Kit.hid (HB8.out.trans (hb9.mono HB8.out.size))
      have HWY3 := Kit.hid (way_lane id (HG5.out.below HB9.out) HWL3.out HII.out)
      rw [HW3.out] at HWY3
      clear hb9 HSM
      go_wp2_with fail
      (with_reducible refine HWY3.out.mono ?_); rintro e w10 ⟨vy2, rfl, hry2, hb10⟩
      have HB10 := Kit.hid (HB9.out.trans (hb10.mono HB9.out.size))
      have HSM2 := Kit.hid (rsame_any hry2 (HRY5.out.below HB10.out) (by omega) (by omega))
      rw [decide_eq_true rfl] at HSM2
      obtain ⟨Ay2, cy2, rfl, _, _, _⟩ := hry2.reads
      clear hry2 hb10 HWY3
      go_wp2_with fail
      (with_reducible refine HSM2.out.mono ?_); rintro e w11 ⟨rfl, hb11⟩
      have HB11 := Kit.hid (HB10.out.trans (hb11.mono HB10.out.size))
      clear hb11 HSM2
      go_wp2_with fail
      have HCV5 : Hid (Cells w5 Av ((List.range wy.length).map (sv S wy f))) := Kit.hid (cells_same (cells_over HCV.out HBR.out) fun a ha => by
        rcases HAV.out with ⟨e, _⟩ | ⟨g, e, q1, q2⟩
        · rw [e] at ha; cases ha
        · rw [e] at ha; cases ha
          exact HS5.out g (by have := HBAC.out; show _ ≤ g; omega) (by have := HBAC.out; show g < _; omega))
      have HTE : Hid (∀ k, k < wy.length → Hid (TRow w5 (f k).1 (told (S.Q (wy.getD k 0)).2 (S.Q (wy.getD k 0)).1))) := Kit.hid (fun k hk => trow_same (HKq.out.each k hk).1 fun a ha => HS5.out _ (by have := ((HKq.out.each k hk).2 a ha).1; have := HBAC.out; omega) ((HKq.out.each k hk).2 a ha).2.1)
      obtain ⟨Ay5, cy5, e5, hcy5, _, _⟩ := HRY5.out.reads
      cases e5
      have HCY5 := Kit.hid hcy5
      clear hcy5
      go_loopw [20] (fun v20 wr => ∃ (k : Nat), k ≤ wy.length ∧ v20 = .int .i64 k ∧ Hid (Below w11.heap.size w11 wr)) (fun i _ => wy.length - (intOf i).toNat)
      case atStart => exact ⟨0, by omega, rfl, Kit.hid (Below.refl _ _)⟩
      case round =>
        obtain ⟨k, hk, rfl, HBk⟩ := hrel
        by_cases hlt : k < wy.length
        · obtain ⟨y, hy⟩ : ∃ y, wy[k]? = some y := ⟨_, List.getElem?_eq_getElem hlt⟩
          have HB5r := Kit.hid (HB11.out.trans (HBk.out.mono HB11.out.size))
          obtain ⟨ya, hAy, y0⟩ := cells_at HCY5.out hy
          subst hAy
          have hgd : wy.getD k 0 = y := by rw [List.getD_eq_getElem?_getD, hy]; rfl
          obtain ⟨va, hAv, z0⟩ : ∃ ad, Av = some ad ∧ w5.cell? (ad.add k) = some (.slice (f k).1 (S.Q y).1.length (f k).2) := by
            obtain ⟨ad, e, c⟩ := HCV5.out k (by simpa using hlt)
            refine ⟨ad, e, ?_⟩
            rw [c]
            simp only [List.getElem_map, List.getElem_range]
            unfold sv
            rw [hgd]
          subst hAv
          have hm := way_home2 HWL.out (id := id) y (by rw [← HWE.out]; exact List.mem_of_getElem? hy)
          have hyi := home_int HWL.out hm
          have hfu : (S.Q y).1 ≠ [] := by
            obtain ⟨j', hj'⟩ := Option.isSome_iff_exists.1 hm
            refine HWL.out.full y j' hj' ?_
            obtain ⟨l2, h1, _, h3⟩ := way_is HWL.out HG.out
            exact (way_home h1 y (by rw [← h3, ← HWE.out]; exact List.mem_of_getElem? hy)).2.2
          have hte := HTE.out k hlt
          rw [hgd] at hte
          have HTY := Kit.hid hte
          have HCC : Hid (∀ w', Below wr.heap.size wr w' → w'.cell? (ya.add k) = some (.int .i64 y) ∧ w'.cell? (va.add k) = some (.slice (f k).1 (S.Q y).1.length (f k).2)) := Kit.hid (fun w' hb => by
            have h := HB5r.out.trans (hb.mono HB5r.out.size)
            exact ⟨(h.cell (cell_lt y0)).trans y0, (h.cell (cell_lt z0)).trans z0⟩)
          have HQC : Hid (∀ w', Below wr.heap.size wr w' → Calls Try.prog 13 #[.pointer (some ⟨lp, 0, none⟩), .int .i64 y] w' fun e w'' => ∃ v, e = .returned v ∧ w''.ownsRow w'.heap.size 35 4 v (S.Q y).1.length (flatM (S.Q y).2 (S.Q y).1) ∧ Below w'.heap.size w' w'') := Kit.hid (fun w' hb => by
            have h := queue_full y (HG5.out.below (HB5r.out.trans (hb.mono HB5r.out.size))) (by omega) hyi (by rw [HQ3.out]; exact hfu)
            rw [HQ3.out] at h
            exact h)
          have HSC : Hid (∀ w' A' c', Below wr.heap.size wr w' → Hid (TRow w' A' (told (S.Q y).2 (S.Q y).1)) → Calls Try.prog 23 #[.slice A' (S.Q y).1.length c', .slice (f k).1 (S.Q y).1.length (f k).2] w' fun e w'' => e = .returned (.bool true) ∧ Below w'.heap.size w' w'') := Kit.hid (fun w' A' c' hb ht => by
            have hql := HGa.out.qn y
            have h := qsame_any A' (f k).1 _ _ c' (f k).2 w' ht (trow_below HTY.out (HB5r.out.trans (hb.mono HB5r.out.size))) (by rw [told_len]; omega) (by rw [told_len]; omega)
            rw [told_len, decide_eq_true rfl] at h
            refine h.mono ?_
            rintro e w'' ⟨h1, m', rfl⟩
            exact ⟨h1, below_drewN (Below.refl _ _) m'⟩)
          have hkl : (k : Int) < (wy.length : Int) := by omega
          have zk : (0 : Int) ≤ (k : Int) := by omega
          clear hy y0 z0 hgd hm hyi hfu hte
          go_wp2_with fail
          refine wp_region_noPanic ?_
          refine wp_region_held_drew (S := fun w' => Below wr.heap.size wr w') (by kernel_rfl) (Below.refl _ _).drew (fun hHeld => ?_)
          refine wpAnyH_take (i := 0) (hi := by simp only [List.getElem?_toArray, List.getElem?_cons_succ, List.getElem?_cons_zero]; rfl) (v := ?_) (by kernel_rfl) (by kernel_rfl) (by kernel_rfl) (fun _ _ _ h => h) (Or.inl ⟨by rfl, ?_⟩) (by assumption) ?_
          rotate_left
          · (intro w hSw; (try dsimp only at hSw); go_simp; first | done | with_reducible rfl)
          try simp only [Act.put, List.setIfInBounds_toArray, List.set_cons_zero, List.set_cons_succ]
          refine wpAnyH_take (i := 1) (hi := by simp only [List.getElem?_toArray, List.getElem?_cons_succ, List.getElem?_cons_zero]; rfl) (v := ?_) (by kernel_rfl) (by kernel_rfl) (by kernel_rfl) (fun _ _ _ h => h) (Or.inl ⟨by rfl, ?_⟩) (by assumption) ?_
          rotate_left
          · (intro w hSw; (try dsimp only at hSw); go_simp; first | done | with_reducible rfl)
          try simp only [Act.put, List.setIfInBounds_toArray, List.set_cons_zero, List.set_cons_succ]
          refine wpAnyH_take (i := 2) (hi := by simp only [List.getElem?_toArray, List.getElem?_cons_succ, List.getElem?_cons_zero]; rfl) (v := ?_) (by kernel_rfl) (by kernel_rfl) (by kernel_rfl) (fun _ _ _ h => h) (Or.inl ⟨by rfl, ?_⟩) (by assumption) ?_
          rotate_left
          · (intro w hSw; (try dsimp only at hSw); go_simp; first | done | with_reducible rfl)
          try simp only [Act.put, List.setIfInBounds_toArray, List.set_cons_zero, List.set_cons_succ]
          refine wpAnyH_take (i := 3) (hi := by simp only [List.getElem?_toArray, List.getElem?_cons_succ, List.getElem?_cons_zero]; rfl) (v := ?_) (by kernel_rfl) (by kernel_rfl) (by kernel_rfl) (fun _ _ _ h => h) (Or.inl ⟨by rfl, ?_⟩) (by assumption) ?_
          rotate_left
          · (intro w hSw; (try dsimp only at hSw); (obtain ⟨c0, c1⟩ := HCC.out _ hSw); go_simp; first | done | with_reducible rfl)
          try simp only [Act.put, List.setIfInBounds_toArray, List.set_cons_zero, List.set_cons_succ]
          refine wpAnyH_take (i := 4) (hi := by simp only [List.getElem?_toArray, List.getElem?_cons_succ, List.getElem?_cons_zero]; rfl) (v := ?_) (by kernel_rfl) (by kernel_rfl) (by kernel_rfl) (fun _ _ _ h => h) (Or.inl ⟨by rfl, ?_⟩) (by assumption) ?_
          rotate_left
          · (intro w hSw; (try dsimp only at hSw); (obtain ⟨c0, c1⟩ := HCC.out _ hSw); go_simp; first | done | with_reducible rfl)
          try simp only [Act.put, List.setIfInBounds_toArray, List.set_cons_zero, List.set_cons_succ]
          refine wpAnyH_take (i := 6) (hi := by simp only [List.getElem?_toArray, List.getElem?_cons_succ, List.getElem?_cons_zero]; rfl) (v := ?_) (by kernel_rfl) (by kernel_rfl) (by kernel_rfl) (fun _ _ _ h => h) (Or.inl ⟨by rfl, ?_⟩) (by assumption) ?_
          rotate_left
          · (intro w hSw; (try dsimp only at hSw); go_simp; first | done | with_reducible rfl)
          try simp only [Act.put, List.setIfInBounds_toArray, List.set_cons_zero, List.set_cons_succ]
          refine wpAnyH_take (i := 7) (hi := by simp only [List.getElem?_toArray, List.getElem?_cons_succ, List.getElem?_cons_zero]; rfl) (v := ?_) (by kernel_rfl) (by kernel_rfl) (by kernel_rfl) (fun _ _ _ h => h) (Or.inl ⟨by rfl, ?_⟩) (by assumption) ?_
          rotate_left
          · (intro w hSw; (try dsimp only at hSw); go_simp; first | done | with_reducible rfl)
          try simp only [Act.put, List.setIfInBounds_toArray, List.set_cons_zero, List.set_cons_succ]
          refine wpAnyH_take (i := 8) (hi := by simp only [List.getElem?_toArray, List.getElem?_cons_succ, List.getElem?_cons_zero]; rfl) (v := ?_) (by kernel_rfl) (by kernel_rfl) (by kernel_rfl) (fun _ _ _ h => h) (Or.inl ⟨by rfl, ?_⟩) (by assumption) ?_
          rotate_left
          · (intro w hSw; (try dsimp only at hSw); (obtain ⟨c0, c1⟩ := HCC.out _ hSw); go_simp; first | done | with_reducible rfl)
          try simp only [Act.put, List.setIfInBounds_toArray, List.set_cons_zero, List.set_cons_succ]
          refine wpAnyH_take (i := 9) (hi := by simp only [List.getElem?_toArray, List.getElem?_cons_succ, List.getElem?_cons_zero]; rfl) (v := ?_) (by kernel_rfl) (by kernel_rfl) (by kernel_rfl) (fun _ _ _ h => h) (Or.inl ⟨by rfl, ?_⟩) (by assumption) ?_
          rotate_left
          · (intro w hSw; (try dsimp only at hSw); (obtain ⟨c0, c1⟩ := HCC.out _ hSw); go_simp; first | done | with_reducible rfl)
          try simp only [Act.put, List.setIfInBounds_toArray, List.set_cons_zero, List.set_cons_succ]
          refine wpAnyH_ready (rs := [5]) (by kernel_rfl) (by simp) ?_
          refine AllReadyH.cons (ho := by simp only [List.getElem?_toArray, List.getElem?_cons_succ, List.getElem?_cons_zero]; rfl) (fun K hK => ?_) (AllReadyH.nil)
          go_simp
          go_at_call 13; (with_reducible refine (HQC.out _ hHeld).mono ?_); rintro e w21 ⟨v21, rfl, hv21, hb21⟩
          obtain ⟨A21, c21, rfl, hc21, _, _⟩ := own_readsS (by decide) hv21
          have HB21 : Hid (Below wr.heap.size wr w21) := Kit.hid (hHeld.trans (hb21.mono hHeld.size))
          have HS21 := Kit.hid (HSC.out w21 A21 c21 HB21.out (trow_cells hc21))
          clear hb21 hv21 hc21
          go_wp2_with fail
          refine hK.out _ _ ?_ (fun hHeldN => ?_)
          · exact HB21.out
          clear hHeld
          have hHeld := hHeldN
          clear hHeldN
          clear hK K
          try simp only [Act.put, List.setIfInBounds_toArray, List.set_cons_zero, List.set_cons_succ]
          refine wpAnyH_ready (rs := [10]) (by kernel_rfl) (by simp) ?_
          refine AllReadyH.cons (ho := by simp only [List.getElem?_toArray, List.getElem?_cons_succ, List.getElem?_cons_zero]; rfl) (fun K hK => ?_) (AllReadyH.nil)
          go_simp
          go_at_call 23; (with_reducible refine HS21.out.mono ?_); rintro e w22 ⟨rfl, hb22⟩
          have HB22 : Hid (Below wr.heap.size wr w22) := Kit.hid (hHeld.trans (hb22.mono hHeld.size))
          clear hb22
          go_wp2_with fail
          refine hK.out _ _ ?_ (fun hHeldN => ?_)
          · exact HB22.out
          clear hHeld
          have hHeld := hHeldN
          clear hHeldN
          clear hK K
          try simp only [Act.put, List.setIfInBounds_toArray, List.set_cons_zero, List.set_cons_succ]
          refine wpAnyH_take (i := 11) (hi := by simp only [List.getElem?_toArray, List.getElem?_cons_succ, List.getElem?_cons_zero]; rfl) (v := ?_) (by kernel_rfl) (by kernel_rfl) (by kernel_rfl) (fun _ _ _ h => h) (Or.inl ⟨by rfl, ?_⟩) (by assumption) ?_
          rotate_left
          · (intro w hSw; (try dsimp only at hSw); go_simp; first | done | with_reducible rfl)
          try simp only [Act.put, List.setIfInBounds_toArray, List.set_cons_zero, List.set_cons_succ]
          clear hHeld
          refine wpAnyH_done (by kernel_rfl) ?_ _
          refine NoPanic.normal ?_
          skip
          go_wp2_with fail
          go_roundw
          case rel => exact ⟨k + 1, by omega, by go_num, Kit.hid (HBk.out.trans (HB22.out.mono HBk.out.size))⟩
          case measure => simp [intOf]; omega
        · obtain rfl : k = wy.length := by omega
          have HEE := Kit.hid (HBE.out.trans ((HB11.out.trans (HBk.out.mono HB11.out.size)).mono HBE.out.size))
          go_wp2
          go_ret
          exact ⟨rfl, HEE.out⟩
end Go.Proofs.Ytpgfenelckonoaa.La

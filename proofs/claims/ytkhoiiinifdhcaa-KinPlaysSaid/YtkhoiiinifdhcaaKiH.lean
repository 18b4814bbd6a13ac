/- A tree behind things that were done; the example; rows of numbers, compared and looked through; rows of what is done, as arguments. -/
import Derived.Test.YtkhoiiinifdhcaaKiG
import Derived.Deep.SlicePairs
namespace Go.Proofs.Ytkhoiiinifdhcaa.KiM
structure KOp where
  d : Int
  id : Int
  p : Int
def doK (T : Tr) (o : KOp) : Int × Tr := if o.d = 1 then addR T o.id o.p else if o.d = 2 then dropR T o.id else if o.d = 3 then moveR T o.id o.p else (0, T)
theorem WF.doK {T : Tr} (h : WF T) (o : KOp) : WF (doK T o).2 := by
  unfold KiM.doK
  split
  · exact h.addR _ _
  split
  · exact h.dropR _
  split
  · exact h.moveR _ _
  · exact h
def runK (T : Tr) (l : List KOp) : Tr := l.foldl (fun T o => (KiM.doK T o).2) T
theorem runK_snoc (T : Tr) (l : List KOp) (i : Nat) (o : KOp) (h : l[i]? = some o) : runK T (l.take (i + 1)) = (KiM.doK (runK T (l.take i)) o).2 := by
  obtain ⟨h1, rfl⟩ := List.getElem?_eq_some_iff.1 h
  unfold runK
  rw [List.take_add_one, List.getElem?_eq_getElem h1, List.foldl_append]
  rfl
theorem WF.runK {T : Tr} (h : WF T) (l : List KOp) : WF (runK T l) := by
  induction l generalizing T with
  | nil => exact h
  | cons o l ih => exact ih (h.doK o)
def walkedK (l : List KOp) : Tr := runK [] l
theorem walkedK_wf (l : List KOp) : WF (walkedK l) := WF.nil.runK l
end Go.Proofs.Ytkhoiiinifdhcaa.KiM
namespace Go.Proofs.Ytkhoiiinifdhcaa.Ki
open Go.RowKit Go.Proofs.Ytkhoiiinifdhcaa.Kit Go.Proofs.Ytkhoiiinifdhcaa.KiM
set_option linter.unusedVariables false
set_option linter.unusedSimpArgs false
section
variable {w w' : World} {p mb n : Nat} {T : Tr}
set_option maxRecDepth 8000 in
set_option maxHeartbeats 1600000 in
theorem do_any (o : KOp) (h : KT w p mb T n) (hn : n ≤ 4000) (hi1 : -9223372036854775808 ≤ o.id) (hi2 : o.id ≤ 9223372036854775807) (hj1 : -9223372036854775808 ≤ o.p) (hj2 : o.p ≤ 9223372036854775807) :
    Calls Try.prog 14 #[.pointer (some ⟨p, 0, none⟩), .agg #[.int .i64 o.d, .int .i64 o.id, .int .i64 o.p]] w fun e w' => e = .returned (.int .i64 (doK T o).1) ∧ KT w' p mb (doK T o).2 (n + 3) ∧ Kp mb w w' := by
  have HT := Kit.hid h
  have hbb : Below w.heap.size w (w.alloc (.cells #[.int .i64 o.d, .int .i64 o.id, .int .i64 o.p] 35)) := (Below.refl _ _).alloc (Nat.le_refl _) _
  have hox := blk_new w (.cells #[.int .i64 o.d, .int .i64 o.id, .int .i64 o.p] 35)
  clear h
  go_enter Try.func14, Try.ntmps14
  go_wp2_with fail
  all_goals
    generalize w.alloc (.cells #[.int .i64 o.d, .int .i64 o.id, .int .i64 o.p] 35) = W1 at hbb hox ⊢
    have HB1 := Kit.hid hbb
    have o0 := blk_cell hox 0
    have o1 := blk_cell hox 1
    have o2 := blk_cell hox 2
    have lo := blk_lt hox
    have HT1 := Kit.hid (HT.out.below HB1.out)
    clear hbb hox
  · have e1 : (o.d == 1) = true := by assumption
    have d1 := beq_iff_eq.1 e1
    have HD : Hid (doK T o = addR T o.id o.p) := Kit.hid (by unfold doK; rw [if_pos d1])
    have HJ := Kit.hid (add_any HT1.out hn o.id o.p hi1 hi2 hj1 hj2)
    clear d1
    (with_reducible refine HJ.out.mono ?_); rintro e w2 ⟨rfl, h2, k2⟩
    have H2 := Kit.hid h2
    have K2 := Kit.hid ((Kp.of_below HB1.out).trans k2)
    clear h2 k2
    go_wp2
    go_ret
    rw [HD.out]
    exact ⟨rfl, H2.out.more (by omega) (by omega), K2.out⟩
  · have e1 : (o.d == 1) = false := by assumption
    have n1 := beq_eq_false_iff_ne.1 e1
    have e2 : (o.d == 2) = true := by assumption
    have d2 := beq_iff_eq.1 e2
    have HD : Hid (doK T o = dropR T o.id) := Kit.hid (by unfold doK; rw [if_neg n1, if_pos d2])
    have HJ := Kit.hid (drop_any HT1.out hn o.id hi1 hi2)
    clear d2 n1
    (with_reducible refine HJ.out.mono ?_); rintro e w2 ⟨rfl, h2, k2⟩
    have H2 := Kit.hid h2
    have K2 := Kit.hid ((Kp.of_below HB1.out).trans k2)
    clear h2 k2
    go_wp2
    go_ret
    rw [HD.out]
    exact ⟨rfl, H2.out.more (by omega) (by omega), K2.out⟩
  · have e1 : (o.d == 1) = false := by assumption
    have n1 := beq_eq_false_iff_ne.1 e1
    have e2 : (o.d == 2) = false := by assumption
    have n2 := beq_eq_false_iff_ne.1 e2
    have e3 : (o.d == 3) = true := by assumption
    have d3 := beq_iff_eq.1 e3
    have HD : Hid (doK T o = moveR T o.id o.p) := Kit.hid (by unfold doK; rw [if_neg n1, if_neg n2, if_pos d3])
    have HJ := Kit.hid (move_any HT1.out hn o.id o.p hi1 hi2 hj1 hj2)
    clear d3 n1 n2
    (with_reducible refine HJ.out.mono ?_); rintro e w2 ⟨rfl, h2, k2⟩
    have H2 := Kit.hid h2
    have K2 := Kit.hid ((Kp.of_below HB1.out).trans k2)
    clear h2 k2
    go_wp2
    go_ret
    rw [HD.out]
    exact ⟨rfl, H2.out.more (by omega) (by omega), K2.out⟩
  · have e1 : (o.d == 1) = false := by assumption
    have n1 := beq_eq_false_iff_ne.1 e1
    have e2 : (o.d == 2) = false := by assumption
    have n2 := beq_eq_false_iff_ne.1 e2
    have e3 : (o.d == 3) = false := by assumption
    have n3 := beq_eq_false_iff_ne.1 e3
    have HD : Hid (doK T o = (0, T)) := Kit.hid (by unfold doK; rw [if_neg n1, if_neg n2, if_neg n3])
    clear n1 n2 n3
    go_ret
    rw [HD.out]
    exact ⟨rfl, HT1.out.more (by omega) (by omega), Kp.of_below HB1.out⟩
end
/-! ### rows of what is done -/
def KRow (w : World) (A : Option Addr) (l : List KOp) : Prop :=
  ∀ i (h : i < l.length), ∃ ad : Addr, A = some ad ∧ w.cell? (ad.add (i * 3)) = some (.int .i64 l[i].d) ∧ w.cell? (ad.add (i * 3 + 1)) = some (.int .i64 l[i].id) ∧ w.cell? (ad.add (i * 3 + 2)) = some (.int .i64 l[i].p) ∧ (-9223372036854775808 ≤ l[i].id ∧ l[i].id ≤ 9223372036854775807) ∧ (-9223372036854775808 ≤ l[i].p ∧ l[i].p ≤ 9223372036854775807)
theorem krow_below {w w1 : World} {A : Option Addr} {l : List KOp} (h : Hid (KRow w A l)) (hb : Below w.heap.size w w1) : Hid (KRow w1 A l) := by
  intro i hi
  obtain ⟨ad, rfl, h0, h1, h2, h3⟩ := h.out i hi
  exact ⟨ad, rfl, (hb.cell (cell_lt h0)).trans h0, (hb.cell (cell_lt h1)).trans h1, (hb.cell (cell_lt h2)).trans h2, h3⟩
theorem add_part (ad : Addr) (n j : Nat) (hj : 0 < j) : ad.add (n + j) = ⟨(ad.add n).block, (ad.add n).off + j, none⟩ := by
  unfold Addr.add
  by_cases hn : n = 0
  · subst hn
    simp [show j ≠ 0 by omega]
  · simp [hn, Nat.add_assoc]
theorem kop_at {w : World} {A : Option Addr} {l : List KOp} {i : Nat} {o : KOp} (h : Hid (KRow w A l)) (hi : l[i]? = some o) :
    ∃ ad : Addr, A = some ad ∧ w.cell? (ad.add (i * 3)) = some (.int .i64 o.d) ∧ w.cell? ⟨(ad.add (i * 3)).block, (ad.add (i * 3)).off + 1, none⟩ = some (.int .i64 o.id) ∧ w.cell? ⟨(ad.add (i * 3)).block, (ad.add (i * 3)).off + 2, none⟩ = some (.int .i64 o.p) ∧ (-9223372036854775808 ≤ o.id ∧ o.id ≤ 9223372036854775807) ∧ (-9223372036854775808 ≤ o.p ∧ o.p ≤ 9223372036854775807) := by
  obtain ⟨h1, rfl⟩ := List.getElem?_eq_some_iff.1 hi
  obtain ⟨ad, rfl, c0, c1, c2, c3⟩ := h.out i h1
  rw [add_part _ _ _ (by decide)] at c1 c2
  exact ⟨ad, rfl, c0, c1, c2, c3⟩
/-- A tree laid behind w0. -/
def Kt (w0 w : World) (p mb : Nat) (T : Tr) (n : Nat) : Prop := KT w p mb T n ∧ w0.heap.size ≤ p ∧ w0.heap.size ≤ mb ∧ Below w0.heap.size w0 w
theorem Kt.step {w0 w w' : World} {p mb n n' : Nat} {T T' : Tr} (h : Kt w0 w p mb T n) (h' : KT w' p mb T' n') (hk : Kp mb w w') : Kt w0 w' p mb T' n' :=
  ⟨h', h.2.1, h.2.2.1, hk.below h.2.2.2 h.2.2.1 h.2.2.2.size⟩
theorem Kt.below {w0 w w' : World} {p mb n : Nat} {T : Tr} (h : Kt w0 w p mb T n) (hb : Below w.heap.size w w') : Kt w0 w' p mb T n :=
  h.step (h.1.below hb) (Kp.of_below hb)
theorem Kt.op {Q : Ending → World → Prop} {f : Nat} {args : Array Value} {w0 w : World} {p mb n n' : Nat} {T T' : Tr} (h : Kt w0 w p mb T n)
    (H : Calls Try.prog f args w fun e w' => Q e w' ∧ KT w' p mb T' n' ∧ Kp mb w w') : Calls Try.prog f args w fun e w' => Q e w' ∧ Kt w0 w' p mb T' n' :=
  H.mono fun e w' g => ⟨g.1, h.step g.2.1 g.2.2⟩
theorem Kt.new (w : World) : Calls Try.prog 10 #[] w fun e w' => ∃ p mb, e = .returned (.pointer (some ⟨p, 0, none⟩)) ∧ Kt w w' p mb [] 1 :=
  (kin_new w).mono fun e w' g => by
    obtain ⟨p, mb, h1, h2, h3, h4, h5⟩ := g
    exact ⟨p, mb, h1, h4, h2, h3, h5⟩
set_option maxRecDepth 8000 in
set_option maxHeartbeats 1600000 in
theorem walked_any (A : Option Addr) (ops : List KOp) (cap : Nat) (w : World) (hr : Hid (KRow w A ops)) (hl : ops.length ≤ 1000) :
    Calls Try.prog 30 #[.slice A ops.length cap] w fun e w' => ∃ p mb, e = .returned (.pointer (some ⟨p, 0, none⟩)) ∧ Kt w w' p mb (walkedK ops) (3 * ops.length + 1) := by
  have HN := Kit.hid (Kt.new w)
  have HD : Hid (∀ (o : KOp) p mb T n w', Kt w w' p mb T n → n ≤ 4000 → (-9223372036854775808 ≤ o.id ∧ o.id ≤ 9223372036854775807) → (-9223372036854775808 ≤ o.p ∧ o.p ≤ 9223372036854775807) →
      Calls Try.prog 14 #[.pointer (some ⟨p, 0, none⟩), .agg #[.int .i64 o.d, .int .i64 o.id, .int .i64 o.p]] w' fun e w'' => e = .returned (.int .i64 (doK T o).1) ∧ Kt w w'' p mb (doK T o).2 (n + 3)) :=
    Kit.hid (fun o p mb T n w' h hn h1 h2 => h.op (do_any o h.1 hn h1.1 h1.2 h2.1 h2.2))
  go_enter Try.func30, Try.ntmps30
  go_wp2_with fail
  (with_reducible refine HN.out.mono ?_); rintro e w1 ⟨p, mb, rfl, hq⟩
  have HQ := Kit.hid hq
  clear hq HN
  go_wp2_with fail
  go_loopw [4] (fun v4 wr => ∃ i : Nat, i ≤ ops.length ∧ v4 = .int .i64 i ∧ Hid (Kt w wr p mb (walkedK (ops.take i)) (3 * i + 1))) (fun i _ => ops.length - (intOf i).toNat)
  case atStart => exact ⟨0, by omega, rfl, HQ⟩
  case round =>
    obtain ⟨i, hi, rfl, hI⟩ := hrel
    by_cases hlt : i < ops.length
    · obtain ⟨o, ho⟩ : ∃ o, ops[i]? = some o := ⟨_, List.getElem?_eq_getElem hlt⟩
      have hk := hI.out.2.2.2
      obtain ⟨ad, hA, c0, c1, c2, hi1, hi2⟩ := kop_at (krow_below hr hk) ho
      have HS := Kit.hid (runK_snoc [] ops i o ho)
      subst hA
      clear ho hk
      go_wp2_with fail
      (with_reducible refine (HD.out o _ _ _ _ _ hI.out (by omega) hi1 hi2).mono ?_); rintro e w2 ⟨rfl, hi2⟩
      have HI2 : Hid (Kt w w2 p mb (walkedK (ops.take (i + 1))) (3 * (i + 1) + 1)) := Kit.hid (by
        have e : walkedK (ops.take (i + 1)) = (doK (walkedK (ops.take i)) o).2 := HS.out
        rw [e]; exact hi2)
      clear hi2
      go_wp2_with fail
      go_roundw
      case rel => exact ⟨i + 1, by omega, by go_num, HI2⟩
      case measure => simp [intOf]; omega
    · obtain rfl : i = ops.length := by omega
      rw [List.take_length] at hI
      go_wp2
      go_ret
      exact ⟨p, mb, rfl, hI.out⟩

open Go.ChangeShapes Go.WideShapes Go.ChangeAt Go.Joins Go.Deep in
theorem open_kops {H : Type} {enc : TypeId × Value → H} {P : Program} {W : World} {r : Reach} {b0 base : Nat} {held : Bool} {t e : TypeId} {f0 f1 f2 : Field} {v : Value} {d : DataW H} {ps : List MemPlace}
    (ht : P.underlying t = some (.slice e)) (he : P.underlying e = some (.struct #[f0, f1, f2])) (ce : P.cellsOf e = 3) (o0 : f0.offset = 0) (o1 : f1.offset = 1) (o2 : f2.offset = 2) (c0 : P.cellsOf f0.type = 1) (c1 : P.cellsOf f1.type = 1) (c2 : P.cellsOf f2.type = 1)
    (u0 : P.underlying f0.type = some (.int .i64)) (u1 : P.underlying f1.type = some (.int .i64)) (u2 : P.underlying f2.type = some (.int .i64))
    (hv : Value.okWide P W r b0 t v) (h : DataW.Trod enc P W base (fun _ => true) held t v d ps) :
    ∃ (A : Option Addr) (l : List KOp) (cap : Nat), v = .slice A l.length cap ∧ Hid (KRow W A l) ∧ l.length ≤ cap ∧ cap ≤ maxLen := by
  haveI : Inhabited KOp := ⟨⟨0, 0, 0⟩⟩
  obtain ⟨A, len, cap, rfl⟩ := okWide_slice ht hv
  obtain ⟨fuel, hf⟩ := h
  rcases open_slice ht hf with ⟨hcs, _⟩ | ⟨x, l, c, m, n, D, Pl, hcs, _, hl, hm, hmm, _, hx⟩
  · simp [Value.cells] at hcs
    obtain ⟨rfl, rfl, rfl⟩ := hcs
    exact ⟨none, [], 0, rfl, (fun i hi => by cases hi), Nat.le_refl _, Nat.zero_le _⟩
  · simp [Value.cells] at hcs
    obtain ⟨rfl, rfl, rfl⟩ := hcs
    simp only [if_true] at hmm
    subst hmm
    have each : ∀ i, i < m → ∃ o : KOp, W.cell? (x.add (i * 3)) = some (.int .i64 o.d) ∧ W.cell? (x.add (i * 3 + 1)) = some (.int .i64 o.id) ∧ W.cell? (x.add (i * 3 + 2)) = some (.int .i64 o.p) ∧ (-9223372036854775808 ≤ o.id ∧ o.id ≤ 9223372036854775807) ∧ (-9223372036854775808 ≤ o.p ∧ o.p ≤ 9223372036854775807) := by
      intro i hi
      obtain ⟨cs', h1, h2⟩ := hx i hi
      rw [ce] at h1
      obtain ⟨_, hlen, hcell⟩ := World.cells?_some h1
      obtain ⟨xs, k, hk, hxy, _, hxl, hfd⟩ := DataW.trod_struct he h2
      match xs, hxl, cs', hlen with
      | [y0, y1, y2], _, [v0, v1, v2], _ =>
        have g0 := hfd 0 f0 rfl
        have g1 := hfd 1 f1 rfl
        have g2 := hfd 2 f2 rfl
        simp [o0, o1, o2, c0, c1, c2] at g0 g1 g2
        have e0 := hcell 0 (by omega)
        have e1 := hcell 1 (by omega)
        have e2 := hcell 2 (by omega)
        rw [Kit.add_add] at e0 e1 e2
        obtain ⟨a, q0, _, wa⟩ := DataW.trod_int u0 g0
        obtain ⟨b, q1, _, wb⟩ := DataW.trod_int u1 g1
        obtain ⟨c, q2, _, wc⟩ := DataW.trod_int u2 g2
        simp only [List.cons.injEq, and_true] at q0 q1 q2
        subst q0 q1 q2
        have bb := Go.bounds_i64 wb
        have bc := Go.bounds_i64 wc
        exact ⟨⟨a, b, c⟩, by simpa using e0, by simpa using e1, by simpa using e2, bb, bc⟩
    obtain ⟨O, hO⟩ := choose_lt each
    refine ⟨some x, (List.range len).map O, m, by simp, ?_, by simpa using hl, hm⟩
    intro i hi
    have hi' : i < m := by simp at hi; omega
    obtain ⟨h0, h1, h2, h3⟩ := hO i hi'
    refine ⟨x, rfl, ?_⟩
    simp only [List.getElem_map, List.getElem_range]
    exact ⟨h0, h1, h2, h3⟩
/-! ### rows of numbers, compared and looked through -/
theorem ext_upto {la lb : List Int} (hl : la.length = lb.length) (h : ∀ j, j < la.length → la[j]? = lb[j]?) : la = lb := by
  apply List.ext_getElem?
  intro j
  by_cases hj : j < la.length
  · exact h j hj
  · rw [List.getElem?_eq_none (by omega), List.getElem?_eq_none (by omega)]
set_option maxHeartbeats 800000 in
theorem same_any (A B : Option Addr) (la lb : List Int) (ca cb : Nat) (w : World) (ha : Hid (Cells w A (iv la))) (hb : Hid (Cells w B (iv lb))) (h1 : la.length ≤ 1000000) (h2 : lb.length ≤ 1000000) :
    Calls Try.prog 18 #[.slice A la.length ca, .slice B lb.length cb] w fun e w' => e = .returned (.bool (decide (la = lb))) ∧ ∃ m, w' = w.drewN m := by
  by_cases hl : la.length = lb.length
  · have hln : ((la.length : Int) != (lb.length : Int)) = false := by simp [hl]
    go_enter Try.func18, Try.ntmps18
    go_wp2
    go_loopw [5] (fun v5 wr => ∃ i m : Nat, i ≤ la.length ∧ v5 = .int .i64 i ∧ wr = w.drewN m ∧ Hid (∀ j, j < i → la[j]? = lb[j]?)) (fun i _ => la.length - (intOf i).toNat)
    case atStart => exact ⟨0, 0, by omega, rfl, rfl, Kit.hid (fun j h => absurd h (Nat.not_lt_zero _))⟩
    case round =>
      obtain ⟨i, m, hi, rfl, rfl, hE⟩ := hrel
      by_cases hlt : i < la.length
      · obtain ⟨x, hx⟩ : ∃ x, la[i]? = some x := ⟨_, List.getElem?_eq_getElem hlt⟩
        obtain ⟨y, hy⟩ : ∃ y, lb[i]? = some y := ⟨_, List.getElem?_eq_getElem (by omega)⟩
        obtain ⟨ad, rfl, c0⟩ := cells_at ha.out hx
        obtain ⟨bd, rfl, d0⟩ := cells_at hb.out hy
        have hltb : (i : Int) < (lb.length : Int) := by omega
        have HX := Kit.hid hx
        have HY := Kit.hid hy
        have HL := Kit.hid hl
        clear hx hy hl
        by_cases hxy : x = y
        · have g1 : (x != y) = false := by simp [hxy]
          have HE : Hid (∀ j, j < i + 1 → la[j]? = lb[j]?) := Kit.hid (fun j hj => by
            by_cases h : j = i
            · subst h; rw [HX.out, HY.out, hxy]
            · exact hE.out j (by omega))
          clear hxy
          go_wp2_with fail
          go_quiet (fail)
          go_wp2
          go_roundw
          case rel => exact ⟨i + 1, _, by omega, by go_num, rfl, HE⟩
          case measure => simp [intOf]; omega
        · have g1 : (x != y) = true := by simp [hxy]
          have HD : Hid (decide (la = lb) = false) := Kit.hid (decide_eq_false (fun e => hxy (by have := HX.out; rw [e, HY.out] at this; exact (Option.some.inj this).symm)))
          clear hxy
          go_wp2_with fail
          go_quiet (fail)
          go_wp2
          go_ret
          exact ⟨by rw [HD.out]; rfl, _, World.drewN_drewN _ _ _⟩
      · obtain rfl : i = la.length := by omega
        have HD : Hid (decide (la = lb) = true) := Kit.hid (decide_eq_true (ext_upto hl hE.out))
        clear hl
        go_wp2
        go_ret
        exact ⟨by rw [HD.out]; rfl, _, rfl⟩
  · have hln : ((la.length : Int) != (lb.length : Int)) = true := by simp; omega
    have HD : Hid (decide (la = lb) = false) := Kit.hid (decide_eq_false (fun e => hl (by rw [e])))
    clear hl
    go_enter Try.func18, Try.ntmps18
    go_wp2
    go_ret
    exact ⟨by rw [HD.out]; rfl, 0, rfl⟩
/-- Two rows, compared. -/
theorem rsame_any {B B' : Nat} {w : World} {v v' : Value} {l l' : List Int} (h : Row B w v l) (h' : Row B' w v' l') (h1 : l.length ≤ 1000000) (h2 : l'.length ≤ 1000000) :
    Calls Try.prog 18 #[v, v'] w fun e w' => e = .returned (.bool (decide (l = l'))) ∧ Below w.heap.size w w' := by
  obtain ⟨A, c, rfl, hc, _⟩ := h.reads
  obtain ⟨A', c', rfl, hc', _⟩ := h'.reads
  refine (same_any A A' l l' c c' w hc hc' h1 h2).mono ?_
  rintro e w' ⟨rfl, m, rfl⟩
  exact ⟨rfl, below_drewN (Below.refl _ _) m⟩
set_option maxHeartbeats 800000 in
theorem in_any (A : Option Addr) (l : List Int) (c : Nat) (x : Int) (w : World) (ha : Hid (Cells w A (iv l))) (h1 : l.length ≤ 1000000) :
    Calls Try.prog 31 #[.slice A l.length c, .int .i64 x] w fun e w' => e = .returned (.bool (decide (x ∈ l))) ∧ Below w.heap.size w w' := by
  go_enter Try.func31, Try.ntmps31
  go_wp2
  go_loopw [5] (fun v5 wr => ∃ i : Nat, i ≤ l.length ∧ v5 = .int .i64 i ∧ wr = w ∧ Hid (x ∉ l.take i)) (fun i _ => l.length - (intOf i).toNat)
  case atStart => exact ⟨0, by omega, rfl, rfl, Kit.hid (by simp)⟩
  case round =>
    obtain ⟨i, hi, rfl, rfl, hE⟩ := hrel
    by_cases hlt : i < l.length
    · obtain ⟨y, hy⟩ : ∃ y, l[i]? = some y := ⟨_, List.getElem?_eq_getElem hlt⟩
      obtain ⟨ad, rfl, c0⟩ := cells_at ha.out hy
      have HY := Kit.hid hy
      clear hy
      by_cases hxy : y = x
      · have g1 : (y == x) = true := by simp [hxy]
        have HD : Hid (decide (x ∈ l) = true) := Kit.hid (decide_eq_true (by rw [← hxy]; exact List.mem_of_getElem? HY.out))
        clear hxy
        go_wp2
        go_ret
        exact ⟨by rw [HD.out]; rfl, Below.refl _ _⟩
      · have g1 : (y == x) = false := by simp [hxy]
        have HE : Hid (x ∉ l.take (i + 1)) := Kit.hid (by
          rw [List.take_add_one, HY.out]
          simp only [Option.toList_some, List.mem_append, List.mem_singleton, not_or]
          exact ⟨hE.out, fun e => hxy e.symm⟩)
        clear hxy
        go_wp2
        go_roundw
        case rel => exact ⟨i + 1, by omega, by go_num, trivial, HE⟩
        case measure => simp [intOf]; omega
    · obtain rfl : i = l.length := by omega
      have HD : Hid (decide (x ∈ l) = false) := Kit.hid (decide_eq_false (by have := hE.out; rwa [List.take_length] at this))
      go_wp2
      go_ret
      exact ⟨by rw [HD.out]; rfl, Below.refl _ _⟩
theorem rin_any {B : Nat} {w : World} {v : Value} {l : List Int} (h : Row B w v l) (x : Int) (h1 : l.length ≤ 1000000) :
    Calls Try.prog 31 #[v, .int .i64 x] w fun e w' => e = .returned (.bool (decide (x ∈ l))) ∧ Below w.heap.size w w' := by
  obtain ⟨A, c, rfl, hc, _⟩ := h.reads
  exact in_any A l c x w hc h1
/-- Any of a row's first numbers: is a number among them? -/
theorem rin_take {B : Nat} {w : World} {A : Option Addr} {k c : Nat} {l : List Int} (h : Row B w (.slice A k c) l) (i c2 : Nat) (x : Int) (h1 : l.length ≤ 1000000) (hi : i ≤ l.length) :
    Calls Try.prog 31 #[.slice A i c2, .int .i64 x] w fun e w' => e = .returned (.bool (decide (x ∈ l.take i))) ∧ Below w.heap.size w w' := by
  obtain ⟨A', c', e, hc, _⟩ := h.reads
  cases e
  have hl : (l.take i).length = i := by simp; omega
  have := in_any A (l.take i) c2 x w (fun j hj => by
    have hj2 : j < i := by rw [iv_len, hl] at hj; exact hj
    obtain ⟨ad, h2, h3⟩ := hc j (by rw [iv_len]; omega)
    refine ⟨ad, h2, ?_⟩
    rw [h3]; simp [iv]) (by rw [hl]; omega)
  rw [hl] at this
  exact this
set_option maxRecDepth 8000 in
set_option maxHeartbeats 1600000 in
theorem awake_any (w : World) : Calls Try.prog 9 #[] w fun e w' => e = .returned (.bool true) ∧ Below w.heap.size w w' := by
  have HN := Kit.hid (Kt.new w)
  have HA1 : Hid (∀ p mb w', Kt w w' p mb [] 1 → Calls Try.prog 11 #[.pointer (some ⟨p, 0, none⟩), .int .i64 1, .int .i64 0] w' fun e w'' => e = .returned (.int .i64 0) ∧ Kt w w'' p mb [(1, 0)] 3) := Kit.hid (fun p mb w' h => h.op (add_any h.1 (by omega) 1 0 (by omega) (by omega) (by omega) (by omega)))
  have HA2 : Hid (∀ p mb w', Kt w w' p mb [(1, 0)] 3 → Calls Try.prog 11 #[.pointer (some ⟨p, 0, none⟩), .int .i64 2, .int .i64 1] w' fun e w'' => e = .returned (.int .i64 0) ∧ Kt w w'' p mb [(1, 0), (2, 1)] 5) := Kit.hid (fun p mb w' h => h.op (add_any h.1 (by omega) 2 1 (by omega) (by omega) (by omega) (by omega)))
  have HA3 : Hid (∀ p mb w', Kt w w' p mb [(1, 0), (2, 1)] 5 → Calls Try.prog 11 #[.pointer (some ⟨p, 0, none⟩), .int .i64 3, .int .i64 1] w' fun e w'' => e = .returned (.int .i64 0) ∧ Kt w w'' p mb [(1, 0), (2, 1), (3, 1)] 7) := Kit.hid (fun p mb w' h => h.op (add_any h.1 (by omega) 3 1 (by omega) (by omega) (by omega) (by omega)))
  have HU : Hid (∀ p mb w', Kt w w' p mb [(1, 0), (2, 1), (3, 1)] 7 → Calls Try.prog 19 #[.pointer (some ⟨p, 0, none⟩), .int .i64 1] w' fun e w'' => ∃ v, e = .returned v ∧ Row w'.heap.size w'' v [1, 2, 3] ∧ Below w'.heap.size w' w'') := Kit.hid (fun p mb w' h => under_any h.1 1 (by omega) (by omega))
  have HM : Hid (∀ p mb w', Kt w w' p mb [(1, 0), (2, 1), (3, 1)] 7 → Calls Try.prog 12 #[.pointer (some ⟨p, 0, none⟩), .int .i64 1, .int .i64 3] w' fun e w'' => e = .returned (.int .i64 11) ∧ Kt w w'' p mb [(1, 0), (2, 1), (3, 1)] 10) := Kit.hid (fun p mb w' h => h.op (move_any h.1 (by omega) 1 3 (by omega) (by omega) (by omega) (by omega)))
  have HP : Hid (∀ p mb w', Kt w w' p mb [(1, 0), (2, 1), (3, 1)] 10 → Calls Try.prog 23 #[.pointer (some ⟨p, 0, none⟩), .int .i64 0] w' fun e w'' => e = .returned (.int .i64 (-1)) ∧ Below w'.heap.size w' w'') := Kit.hid (fun p mb w' h => kt_parent h.1 0 (by omega) (by omega))
  go_enter Try.func9, Try.ntmps9
  go_wp2_with fail
  (with_reducible refine HN.out.mono ?_); rintro e w1 ⟨p, mb, rfl, hq⟩
  have HQ1 := Kit.hid hq
  clear hq HN
  go_wp2_with fail
  (with_reducible refine (HA1.out _ _ _ HQ1.out).mono ?_); rintro e w2 ⟨rfl, hq⟩
  have HQ2 := Kit.hid hq
  clear hq
  go_wp2_with fail
  (with_reducible refine (HA2.out _ _ _ HQ2.out).mono ?_); rintro e w3 ⟨rfl, hq⟩
  have HQ3 := Kit.hid hq
  clear hq
  go_wp2_with fail
  (with_reducible refine (HA3.out _ _ _ HQ3.out).mono ?_); rintro e w4 ⟨rfl, hq⟩
  have HQ4 := Kit.hid hq
  clear hq
  go_wp2_with fail
  (with_reducible refine (HU.out _ _ _ HQ4.out).mono ?_); rintro e w5 ⟨v, rfl, hv, hb⟩
  have HQ5 := Kit.hid (HQ4.out.below hb)
  obtain ⟨A, c, rfl, hc, _⟩ := hv.reads
  have HB : Hid (Below w5.heap.size w5 (w5.alloc (.cells #[.int .i64 1, .int .i64 2, .int .i64 3] 3))) := Kit.hid ((Below.refl _ _).alloc (Nat.le_refl _) _)
  have HS := Kit.hid (same_any A (some ⟨w5.heap.size, 0, none⟩) [1, 2, 3] [1, 2, 3] c 3 (w5.alloc (.cells #[.int .i64 1, .int .i64 2, .int .i64 3] 3)) (Kit.hid (cells_over hc HB.out)) (Kit.hid (fun j hj => by
    refine ⟨_, rfl, ?_⟩
    rw [add_lit, blk_cell (blk_new w5 _)]
    have : j = 0 ∨ j = 1 ∨ j = 2 := by simp [iv] at hj; omega
    rcases this with rfl | rfl | rfl <;> rfl)) (by decide) (by decide))
  have HS2 : Hid (Calls Try.prog 18 #[.slice A 3 c, .slice (some ⟨w5.heap.size, 0, none⟩) 3 3] (w5.alloc (.cells #[.int .i64 1, .int .i64 2, .int .i64 3] 3)) fun e w' => e = .returned (.bool true) ∧ ∃ m, w' = (w5.alloc (.cells #[.int .i64 1, .int .i64 2, .int .i64 3] 3)).drewN m) := Kit.hid (HS.out)
  have HQ6 := Kit.hid (HQ5.out.below HB.out)
  clear hv hb hc
  go_wp2_with fail
  (with_reducible refine HS2.out.mono ?_); rintro e w6 ⟨rfl, m, rfl⟩
  have HQ7 := Kit.hid (HQ6.out.below (below_drewN (Below.refl _ _) m))
  clear HS HS2
  go_wp2_with fail
  (with_reducible refine (HM.out _ _ _ HQ7.out).mono ?_); rintro e w7 ⟨rfl, hq⟩
  have HQ8 := Kit.hid hq
  clear hq
  go_wp2_with fail
  (with_reducible refine (HP.out _ _ _ HQ8.out).mono ?_); rintro e w8 ⟨rfl, hb⟩
  have HQ9 := Kit.hid (HQ8.out.below hb)
  clear hb
  go_wp2
  go_ret
  exact ⟨rfl, HQ9.out.2.2.2⟩
end Go.Proofs.Ytkhoiiinifdhcaa.Ki

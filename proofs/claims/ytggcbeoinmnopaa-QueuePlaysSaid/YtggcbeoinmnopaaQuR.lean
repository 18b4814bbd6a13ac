/- A queue behind things that were done; the example; rows of members, compared; rows of what is done, as arguments. -/
import Derived.Test.YtggcbeoinmnopaaQuO
import Derived.Laws.StructEq
import Derived.Deep.SlicePairs
namespace Go.Proofs.Ytggcbeoinmnopaa.QuM
theorem doR_wq {L : List Mem} (h : WQ L) (base : Int) (o : QOp) : WQ (stL (doR L base o)) := by
  unfold doR stL
  split
  · exact join_wq h _ _
  split
  · exact del_wq h _
  split
  · exact run_wq h _ _ _
  split
  · exact weigh_wq h _ _
  split
  · split
    · exact h
    · exact run_wq h _ _ _
  · exact h
theorem walkedQ_ok (ops : List QOp) : WQ (walkedQ ops).1 ∧ QB (walkedQ ops).1 (walkedQ ops).2 := by
  have key : ∀ (ops : List QOp) (s : List Mem × Int), WQ s.1 → QB s.1 s.2 → WQ (ops.foldl (fun s o => (stL (doR s.1 s.2 o), stB (doR s.1 s.2 o))) s).1 ∧ QB (ops.foldl (fun s o => (stL (doR s.1 s.2 o), stB (doR s.1 s.2 o))) s).1 (ops.foldl (fun s o => (stL (doR s.1 s.2 o), stB (doR s.1 s.2 o))) s).2 := by
    intro ops
    induction ops with
    | nil => intro s h1 h2; exact ⟨h1, h2⟩
    | cons o ops ih => intro s h1 h2; exact ih _ (doR_wq h1 _ _) (h2.doR h1 o)
  exact key ops ([], 0) WQ.nil QB.nil
/-- Members as they are told. -/
def told (base : Int) (L : List Mem) : List Mem := L.map fun m => { m with v := m.v - base }
end Go.Proofs.Ytggcbeoinmnopaa.QuM
namespace Go.Proofs.Ytggcbeoinmnopaa.Qu
open Go.RowKit Go.Proofs.Ytggcbeoinmnopaa.Kit Go.Proofs.Ytggcbeoinmnopaa.ShM Go.Proofs.Ytggcbeoinmnopaa.Sh Go.Proofs.Ytggcbeoinmnopaa.QuM
set_option linter.unusedVariables false
set_option linter.unusedSimpArgs false
theorem Qu.op {Q : Ending → Prop} {f : Nat} {args : Array Value} {w0 w : World} {F0 : Nat → Prop} {p n n' : Nat} {L L' : List Mem} {base base' : Int} (h : Qu w0 F0 w p L base n)
    (H : ∀ F, QF F w p L base n → Calls Try.prog f args w fun e w' => Q e ∧ Qu w F w' p L' base' n') : Calls Try.prog f args w fun e w' => Q e ∧ Qu w0 F0 w' p L' base' n' := by
  obtain ⟨F, h1, h2, h3⟩ := h
  exact (H F h1).mono fun e w' g => ⟨g.1, g.2.trans h2 h3⟩
theorem Qu.get {w0 w : World} {F0 : Nat → Prop} {p n : Nat} {L : List Mem} {base : Int} (h : Qu w0 F0 w p L base n) : ∃ F, QF F w p L base n := by
  obtain ⟨F, h1, h2, h3⟩ := h
  exact ⟨F, h1⟩
/-! ### rows of what is done -/
def QRow (w : World) (A : Option Addr) (l : List QOp) : Prop :=
  ∀ i (h : i < l.length), ∃ ad : Addr, A = some ad ∧ w.cell? (ad.add (i * 6)) = some (.int .i64 l[i].d) ∧ w.cell? (ad.add (i * 6 + 1)) = some (.int .i64 l[i].m.id) ∧ w.cell? (ad.add (i * 6 + 2)) = some (.int .i64 l[i].m.wt) ∧ w.cell? (ad.add (i * 6 + 3)) = some (.int .i64 l[i].m.v) ∧ w.cell? (ad.add (i * 6 + 4)) = some (.int .i64 l[i].m.rem) ∧ w.cell? (ad.add (i * 6 + 5)) = some (.int .i64 l[i].n) ∧ -9223372036854775808 ≤ l[i].m.id ∧ l[i].m.id ≤ 9223372036854775807
theorem qrow_below {w w1 : World} {A : Option Addr} {l : List QOp} (h : Hid (QRow w A l)) (hb : Below w.heap.size w w1) : Hid (QRow w1 A l) := by
  intro i hi
  obtain ⟨ad, rfl, h0, h1, h2, h3, h4, h5, h6⟩ := h.out i hi
  exact ⟨ad, rfl, (hb.cell (cell_lt h0)).trans h0, (hb.cell (cell_lt h1)).trans h1, (hb.cell (cell_lt h2)).trans h2, (hb.cell (cell_lt h3)).trans h3, (hb.cell (cell_lt h4)).trans h4, (hb.cell (cell_lt h5)).trans h5, h6⟩
theorem qop_at {w : World} {A : Option Addr} {l : List QOp} {i : Nat} {o : QOp} (h : Hid (QRow w A l)) (hi : l[i]? = some o) :
    ∃ ad : Addr, A = some ad ∧ w.cell? (ad.add (i * 6)) = some (.int .i64 o.d) ∧ w.cell? ⟨(ad.add (i * 6)).block, (ad.add (i * 6)).off + 1, none⟩ = some (.int .i64 o.m.id) ∧ w.cell? ⟨(ad.add (i * 6)).block, (ad.add (i * 6)).off + 2, none⟩ = some (.int .i64 o.m.wt) ∧ w.cell? ⟨(ad.add (i * 6)).block, (ad.add (i * 6)).off + 3, none⟩ = some (.int .i64 o.m.v) ∧ w.cell? ⟨(ad.add (i * 6)).block, (ad.add (i * 6)).off + 4, none⟩ = some (.int .i64 o.m.rem) ∧ w.cell? ⟨(ad.add (i * 6)).block, (ad.add (i * 6)).off + 5, none⟩ = some (.int .i64 o.n) ∧ -9223372036854775808 ≤ o.m.id ∧ o.m.id ≤ 9223372036854775807 := by
  obtain ⟨h1, rfl⟩ := List.getElem?_eq_some_iff.1 hi
  obtain ⟨ad, rfl, c0, c1, c2, c3, c4, c5, c6⟩ := h.out i h1
  rw [add_part _ _ _ (by decide)] at c1 c2 c3 c4 c5
  exact ⟨ad, rfl, c0, c1, c2, c3, c4, c5, c6⟩
set_option maxRecDepth 8000 in
set_option maxHeartbeats 1600000 in
theorem qwalked_any (A : Option Addr) (ops : List QOp) (cap : Nat) (w : World) (hr : Hid (QRow w A ops)) (hl : ops.length ≤ 2000) :
    Calls Try.prog 17 #[.slice A ops.length cap] w fun e w' => ∃ p, e = .returned (.pointer (some ⟨p, 0, none⟩)) ∧ w.heap.size ≤ p ∧ Qu w (fun _ => False) w' p (walkedQ ops).1 (walkedQ ops).2 (ops.length + 1) := by
  have HN := Kit.hid (qnew_any w)
  have HD : Hid (∀ (o : QOp) p L b n w', Qu w (fun _ => False) w' p L b n → QB L b → n ≤ 3000 → -9223372036854775808 ≤ o.m.id → o.m.id ≤ 9223372036854775807 →
      Calls Try.prog 18 #[.pointer (some ⟨p, 0, none⟩), .agg #[.int .i64 o.d, .int .i64 o.m.id, .int .i64 o.m.wt, .int .i64 o.m.v, .int .i64 o.m.rem, .int .i64 o.n]] w' fun e w'' => (∃ u v, e = .returned (.tuple #[u, v])) ∧ Qu w (fun _ => False) w'' p (stL (doR L b o)) (stB (doR L b o)) (n + 1)) :=
    Kit.hid (fun o p L b n w' h hq hn h1 h2 => h.op fun F hf => (do_any o hf hq hn h1 h2).mono fun e w'' g => ⟨⟨_, _, g.1⟩, g.2⟩)
  go_enter Try.func17, Try.ntmps17
  go_wp2_with fail
  (with_reducible refine HN.out.mono ?_); rintro e w1 ⟨p, rfl, hp, hq⟩
  have HQ := Kit.hid hq
  clear hq HN
  go_wp2_with fail
  go_loopw [4] (fun v4 wr => ∃ i : Nat, i ≤ ops.length ∧ v4 = .int .i64 i ∧ Hid (Qu w (fun _ => False) wr p (walkedQ (ops.take i)).1 (walkedQ (ops.take i)).2 (i + 1))) (fun i _ => ops.length - (intOf i).toNat)
  case atStart => exact ⟨0, by omega, rfl, HQ⟩
  case round =>
    obtain ⟨i, hi, rfl, hI⟩ := hrel
    by_cases hlt : i < ops.length
    · obtain ⟨o, ho⟩ : ∃ o, ops[i]? = some o := ⟨_, List.getElem?_eq_getElem hlt⟩
      have hk := hI.out.kept.toBelow (fun k h => h.elim)
      obtain ⟨ad, hA, c0, c1, c2, c3, c4, c5, hi1, hi2⟩ := qop_at (qrow_below hr hk) ho
      have HS := Kit.hid (walkedQ_snoc ops i o ho)
      have HOK := Kit.hid (walkedQ_ok (ops.take i)).2
      subst hA
      clear ho hk
      go_wp2_with fail
      (with_reducible refine (HD.out o _ _ _ _ _ hI.out HOK.out (by omega) hi1 hi2).mono ?_); rintro e w2 ⟨⟨u, v, rfl⟩, hi2⟩
      have HI2 : Hid (Qu w (fun _ => False) w2 p (walkedQ (ops.take (i + 1))).1 (walkedQ (ops.take (i + 1))).2 (i + 1 + 1)) := Kit.hid (by rw [HS.out]; exact hi2)
      clear hi2
      go_wp2_with fail
      go_roundw
      case rel => exact ⟨i + 1, by omega, by go_num, HI2⟩
      case measure => simp [intOf]; omega
    · obtain rfl : i = ops.length := by omega
      rw [List.take_length] at hI
      go_wp2
      go_ret
      exact ⟨p, rfl, hp, hI.out⟩
set_option maxRecDepth 8000 in
set_option maxHeartbeats 1600000 in
theorem qawake_any (w : World) :
    Calls Try.prog 10 #[] w fun e w' => e = .returned (.bool true) ∧ Below w.heap.size w w' := by
  have HN := Kit.hid (qnew_any w)
  have q0 : QB [] 0 := QB.nil
  have q1 : QB [⟨1, 1, 0, 0⟩] 0 := q0.join ⟨1, 1, 0, 0⟩
  have q2 : QB [⟨1, 1, 0, 0⟩, ⟨2, 2, 0, 0⟩] 0 := q1.join ⟨2, 2, 0, 0⟩
  have w2 : WQ [⟨1, 1, 0, 0⟩, ⟨2, 2, 0, 0⟩] := join_wq (join_wq WQ.nil ⟨1, 1, 0, 0⟩ 0) ⟨2, 2, 0, 0⟩ 0
  have q3 : QB [⟨2, 2, 0, 0⟩, ⟨1, 1, 1048576, 0⟩] 0 := q2.run w2 1 1
  have w3 : WQ [⟨2, 2, 0, 0⟩, ⟨1, 1, 1048576, 0⟩] := run_wq w2 0 1 1
  have q4 : QB [⟨2, 2, 524288, 0⟩, ⟨1, 1, 1048576, 0⟩] 524288 := q3.run w3 2 1
  have HJ1 : Hid (∀ p w', Qu w (fun _ => False) w' p [] 0 1 → Calls Try.prog 12 #[.pointer (some ⟨p, 0, none⟩), .agg #[.int .i64 1, .int .i64 1, .int .i64 0, .int .i64 0]] w' fun e w'' => e = .returned (.int .i64 0) ∧ Qu w (fun _ => False) w'' p [⟨1, 1, 0, 0⟩] 0 2) := Kit.hid (fun p w' h => h.op fun F hf => join_any ⟨1, 1, 0, 0⟩ hf q0 (by omega) (by decide) (by decide))
  have HJ2 : Hid (∀ p w', Qu w (fun _ => False) w' p [⟨1, 1, 0, 0⟩] 0 2 → Calls Try.prog 12 #[.pointer (some ⟨p, 0, none⟩), .agg #[.int .i64 2, .int .i64 2, .int .i64 0, .int .i64 0]] w' fun e w'' => e = .returned (.int .i64 0) ∧ Qu w (fun _ => False) w'' p [⟨1, 1, 0, 0⟩, ⟨2, 2, 0, 0⟩] 0 3) := Kit.hid (fun p w' h => h.op fun F hf => join_any ⟨2, 2, 0, 0⟩ hf q1 (by omega) (by decide) (by decide))
  have HR1 : Hid (∀ p w', Qu w (fun _ => False) w' p [⟨1, 1, 0, 0⟩, ⟨2, 2, 0, 0⟩] 0 3 → Calls Try.prog 14 #[.pointer (some ⟨p, 0, none⟩), .int .i64 1, .int .i64 1] w' fun e w'' => e = .returned (.int .i64 0) ∧ Qu w (fun _ => False) w'' p [⟨2, 2, 0, 0⟩, ⟨1, 1, 1048576, 0⟩] 0 4) := Kit.hid (fun p w' h => h.op fun F hf => qrun_any 1 1 hf q2 (by omega) (by decide) (by decide))
  have HR2 : Hid (∀ p w', Qu w (fun _ => False) w' p [⟨2, 2, 0, 0⟩, ⟨1, 1, 1048576, 0⟩] 0 4 → Calls Try.prog 14 #[.pointer (some ⟨p, 0, none⟩), .int .i64 2, .int .i64 1] w' fun e w'' => e = .returned (.int .i64 0) ∧ Qu w (fun _ => False) w'' p [⟨2, 2, 524288, 0⟩, ⟨1, 1, 1048576, 0⟩] 524288 5) := Kit.hid (fun p w' h => h.op fun F hf => qrun_any 2 1 hf q3 (by omega) (by decide) (by decide))
  have HBS : Hid (∀ p L b n w', Qu w (fun _ => False) w' p L b n → Calls Try.prog 16 #[.pointer (some ⟨p, 0, none⟩)] w' fun e w'' => e = .returned (.int .i64 b) ∧ Below w'.heap.size w' w'') := Kit.hid (fun p L b n w' h => by
    obtain ⟨F, hf⟩ := h.get
    exact base_any hf)
  have HG : Hid (∀ p w', Qu w (fun _ => False) w' p [⟨2, 2, 524288, 0⟩, ⟨1, 1, 1048576, 0⟩] 524288 5 → Calls Try.prog 15 #[.pointer (some ⟨p, 0, none⟩), .int .i64 1] w' fun e w'' => e = .returned (.tuple #[.agg #[.int .i64 1, .int .i64 1, .int .i64 524288, .int .i64 0], .bool true]) ∧ Below w'.heap.size w' w'') := Kit.hid (fun p w' h => by
    obtain ⟨F, hf⟩ := h.get
    exact get_any 1 hf q4 (by decide) (by decide))
  clear q0 q1 q2 w2 q3 w3 q4
  go_enter Try.func10, Try.ntmps10
  go_wp2_with fail
  (with_reducible refine HN.out.mono ?_); rintro e w1 ⟨p, rfl, hp, hq⟩
  have HQ1 := Kit.hid hq
  clear hq HN hp
  go_wp2_with fail
  (with_reducible refine (HJ1.out _ _ HQ1.out).mono ?_); rintro e w2 ⟨rfl, hq⟩
  have HQ2 := Kit.hid hq
  clear hq
  go_wp2_with fail
  (with_reducible refine (HJ2.out _ _ HQ2.out).mono ?_); rintro e w3 ⟨rfl, hq⟩
  have HQ3 := Kit.hid hq
  clear hq
  go_wp2_with fail
  (with_reducible refine (HR1.out _ _ HQ3.out).mono ?_); rintro e w4 ⟨rfl, hq⟩
  have HQ4 := Kit.hid hq
  clear hq
  go_wp2_with fail
  (with_reducible refine (HBS.out _ _ _ _ _ HQ4.out).mono ?_); rintro e w5 ⟨rfl, hb⟩
  have HQ5 := Kit.hid (HQ4.out.below hb)
  clear hb
  go_wp2_with fail
  (with_reducible refine (HR2.out _ _ HQ5.out).mono ?_); rintro e w6 ⟨rfl, hq⟩
  have HQ6 := Kit.hid hq
  clear hq
  go_wp2_with fail
  (with_reducible refine (HG.out _ _ HQ6.out).mono ?_); rintro e w7 ⟨rfl, hb⟩
  have HQ7 := Kit.hid ((HQ6.out.below hb).below ((Below.refl _ w7).alloc (Nat.le_refl _) (.cells #[.int .i64 1, .int .i64 1, .int .i64 524288, .int .i64 0] 32)))
  have hm7 := blk_new w7 (.cells #[.int .i64 1, .int .i64 1, .int .i64 524288, .int .i64 0] 32)
  clear hb
  go_wp2_with fail
  (with_reducible refine (HBS.out _ _ _ _ _ HQ7.out).mono ?_); rintro e w8 ⟨rfl, hb⟩
  have HQ8 := Kit.hid (HQ7.out.below hb)
  have hm8 := blk_below hm7 hb
  have m2 := blk_cell hm8 2
  have lm := blk_lt hm8
  clear hb hm7 hm8
  go_wp2
  go_ret
  exact ⟨rfl, HQ8.out.kept.toBelow (fun k h => h.elim)⟩
end Go.Proofs.Ytggcbeoinmnopaa.Qu

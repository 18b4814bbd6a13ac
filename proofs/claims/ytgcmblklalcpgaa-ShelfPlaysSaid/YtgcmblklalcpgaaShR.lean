/- What is done to a shelf, as a row in memory; the walks of walked, awake, and the reference's Less and Digits. -/
import Derived.Test.YtgcmblklalcpgaaShQ
import Derived.Deep.SlicePairs
namespace Go.Proofs.Ytgcmblklalcpgaa.Sh
open Go.RowKit Go.Proofs.Ytgcmblklalcpgaa.Kit Go.Proofs.Ytgcmblklalcpgaa.ShM
set_option linter.unusedVariables false
set_option linter.unusedSimpArgs false
/-- One thing that is done. -/
structure OpM where
  x : It
  out : Bool
  deriving Inhabited
def OpRow (w : World) (A : Option Addr) (l : List OpM) : Prop :=
  ∀ i (h : i < l.length), ∃ ad : Addr, A = some ad ∧ w.cell? (ad.add (i * 3)) = some (.int .i64 l[i].x.key) ∧ w.cell? (ad.add (i * 3 + 1)) = some (.int .i64 l[i].x.id) ∧ w.cell? (ad.add (i * 3 + 2)) = some (.bool l[i].out)
theorem oprow_below {w w1 : World} {A : Option Addr} {l : List OpM} (h : Hid (OpRow w A l)) (hb : Below w.heap.size w w1) : Hid (OpRow w1 A l) := by
  intro i hi
  obtain ⟨ad, rfl, h0, h1, h2⟩ := h.out i hi
  exact ⟨ad, rfl, (hb.cell (cell_lt h0)).trans h0, (hb.cell (cell_lt h1)).trans h1, (hb.cell (cell_lt h2)).trans h2⟩
theorem add_part (ad : Addr) (n j : Nat) (hj : 0 < j) : ad.add (n + j) = ⟨(ad.add n).block, (ad.add n).off + j, none⟩ := by
  unfold Addr.add
  by_cases hn : n = 0
  · subst hn
    rw [if_neg (by omega), if_pos rfl, Nat.zero_add]
  · rw [if_neg (by omega), if_neg hn]
    simp [Nat.add_assoc]
/-- One row, in the form that a walk reads. -/
theorem op_at {w : World} {A : Option Addr} {l : List OpM} {i : Nat} {o : OpM} (h : Hid (OpRow w A l)) (hi : l[i]? = some o) :
    ∃ ad : Addr, A = some ad ∧ w.cell? (ad.add (i * 3)) = some (.int .i64 o.x.key) ∧ w.cell? ⟨(ad.add (i * 3)).block, (ad.add (i * 3)).off + 1, none⟩ = some (.int .i64 o.x.id) ∧ w.cell? ⟨(ad.add (i * 3)).block, (ad.add (i * 3)).off + 2, none⟩ = some (.bool o.out) := by
  obtain ⟨h1, rfl⟩ := List.getElem?_eq_some_iff.1 hi
  obtain ⟨ad, rfl, c0, c1, c2⟩ := h.out i h1
  rw [add_part _ _ _ (by decide)] at c1 c2
  exact ⟨ad, rfl, c0, c1, c2⟩
open Go.ChangeShapes Go.WideShapes Go.ChangeAt Go.Joins Go.Deep in
theorem open_ops {H : Type} {enc : TypeId × Value → H} {P : Program} {W : World} {r : Reach} {b0 base : Nat} {held : Bool} {t e : TypeId} {f0 f1 g0 g1 : Field} {v : Value} {d : DataW H} {ps : List MemPlace}
    (ht : P.underlying t = some (.slice e)) (he : P.underlying e = some (.struct #[f0, f1])) (ce : P.cellsOf e = 3) (o0 : f0.offset = 0) (o1 : f1.offset = 2) (c0 : P.cellsOf f0.type = 2) (c1 : P.cellsOf f1.type = 1)
    (u0 : P.underlying f0.type = some (.struct #[g0, g1])) (p0 : g0.offset = 0) (p1 : g1.offset = 1) (d0 : P.cellsOf g0.type = 1) (d1 : P.cellsOf g1.type = 1) (v0 : P.underlying g0.type = some (.int .i64)) (v1 : P.underlying g1.type = some (.int .i64)) (u1 : P.underlying f1.type = some .bool)
    (hv : Value.okWide P W r b0 t v) (h : DataW.Trod enc P W base (fun _ => true) held t v d ps) :
    ∃ (A : Option Addr) (l : List OpM) (cap : Nat), v = .slice A l.length cap ∧ Hid (OpRow W A l) ∧ l.length ≤ cap ∧ cap ≤ maxLen := by
  obtain ⟨A, len, cap, rfl⟩ := okWide_slice ht hv
  obtain ⟨fuel, hf⟩ := h
  rcases open_slice ht hf with ⟨hcs, _⟩ | ⟨x, l, c, m, n, D, Pl, hcs, _, hl, hm, hmm, _, hx⟩
  · simp [Value.cells] at hcs
    obtain ⟨rfl, rfl, rfl⟩ := hcs
    exact ⟨none, [], 0, rfl, (fun i hi => by cases hi), Nat.le_refl _, Nat.zero_le _⟩
  · simp [Value.cells] at hcs
    obtain ⟨rfl, rfl, rfl⟩ := hcs
    simp only [if_true] at hmm
    subst hmm
    have each : ∀ i, i < m → ∃ o : OpM, W.cell? (x.add (i * 3)) = some (.int .i64 o.x.key) ∧ W.cell? (x.add (i * 3 + 1)) = some (.int .i64 o.x.id) ∧ W.cell? (x.add (i * 3 + 2)) = some (.bool o.out) := by
      intro i hi
      obtain ⟨cs', h1, h2⟩ := hx i hi
      rw [ce] at h1
      obtain ⟨_, hlen, hcell⟩ := World.cells?_some h1
      obtain ⟨xs, k, hk, hxy, _, hxl, hfd⟩ := DataW.trod_struct he h2
      match xs, hxl, cs', hlen with
      | [y0, y1], _, [w0, w1, w2], _ =>
        have q0 := hfd 0 f0 rfl
        have q1 := hfd 1 f1 rfl
        simp [o0, o1, c0, c1] at q0 q1
        obtain ⟨zs, k2, hk2, hzy, _, hzl, hgd⟩ := DataW.trod_struct u0 q0
        match zs, hzl with
        | [z0, z1], _ =>
          have r0 := hgd 0 g0 rfl
          have r1 := hgd 1 g1 rfl
          simp [p0, p1, d0, d1] at r0 r1
          have e0 := hcell 0 (by omega)
          have e1 := hcell 1 (by omega)
          have e2 := hcell 2 (by omega)
          rw [Kit.add_add] at e0 e1 e2
          obtain ⟨a, s0, _, _⟩ := DataW.trod_int v0 r0
          obtain ⟨b, s1, _, _⟩ := DataW.trod_int v1 r1
          obtain ⟨c, s2, _⟩ := DataW.trod_bool u1 q1
          simp only [List.cons.injEq, and_true] at s0 s1 s2
          subst s0 s1 s2
          exact ⟨⟨⟨a, b⟩, c⟩, by simpa using e0, by simpa using e1, by simpa using e2⟩
    obtain ⟨O, hO⟩ := choose_lt each
    refine ⟨some x, (List.range len).map O, m, by simp, ?_, by simpa using hl, hm⟩
    intro i hi
    have hi' : i < m := by simp at hi; omega
    obtain ⟨h0, h1, h2⟩ := hO i hi'
    refine ⟨x, rfl, ?_⟩
    simp only [List.getElem_map, List.getElem_range]
    exact ⟨h0, h1, h2⟩
/-- What a thing that is done does to the items. -/
def playL (l : List It) (o : OpM) : List It := if o.out = true then dropL o.x l else putL o.x l
def walkedL (ops : List OpM) : List It := ops.foldl playL []
theorem walkedL_snoc (ops : List OpM) (i : Nat) (o : OpM) (h : ops[i]? = some o) : walkedL (ops.take (i + 1)) = playL (walkedL (ops.take i)) o := by
  obtain ⟨h1, rfl⟩ := List.getElem?_eq_some_iff.1 h
  rw [List.take_succ_eq_append_getElem h1]
  unfold walkedL
  rw [List.foldl_append]
  rfl
theorem rless_any (a b : It) (w : World) :
    Calls Try.prog 15 #[.agg #[.int .i64 a.key, .int .i64 a.id], .agg #[.int .i64 b.key, .int .i64 b.id]] w fun e w' => e = .returned (.bool (less a b)) ∧ Below w.heap.size w w' := by
  have hb : Below w.heap.size w ((w.alloc (.cells #[.int .i64 a.key, .int .i64 a.id] 24)).alloc (.cells #[.int .i64 b.key, .int .i64 b.id] 24)) := ((Below.refl _ w).alloc (Nat.le_refl _) _).alloc (by simp) _
  have HB := Kit.hid hb
  clear hb
  by_cases h2 : a.key = b.key
  · have E : Hid (less a b = decide (a.id < b.id)) := Kit.hid (by unfold less; rw [decide_eq_false (show ¬ a.key < b.key by omega), decide_eq_true h2, Bool.false_or, Bool.true_and])
    have g2 : (a.key != b.key) = false := by simpa using h2
    clear h2
    go_enter Try.func15, Try.ntmps15
    go_wp2
    go_ret
    exact ⟨by rw [E.out]; rfl, HB.out⟩
  · have E : Hid (less a b = decide (a.key < b.key)) := Kit.hid (by unfold less; rw [decide_eq_false h2, Bool.false_and, Bool.or_false])
    have g2 : (a.key != b.key) = true := by simpa using h2
    clear h2
    go_enter Try.func15, Try.ntmps15
    go_wp2
    go_ret
    exact ⟨by rw [E.out]; rfl, HB.out⟩
/-- A shelf behind things that were done. -/
def WalkedPost (w0 : World) (S0 : Nat → Prop) (w : World) (l : List It) (n : Nat) (e : Ending) (w' : World) : Prop := ∃ g, e = .returned (.pointer (some ⟨g, 0, none⟩)) ∧ w.heap.size ≤ g ∧ Items w0 S0 w' g l n
set_option maxHeartbeats 800000 in
theorem walked_any (A : Option Addr) (ops : List OpM) (cap : Nat) (w : World) (hr : Hid (OpRow w A ops)) (hl : ops.length ≤ 1000000) :
    Calls Try.prog 11 #[.slice A ops.length cap] w (WalkedPost w (fun _ => False) w (walkedL ops) (ops.length + 1)) := by
  have HN := Kit.hid (items_new (Kept.refl (fun _ => False) w))
  have HP : Hid (∀ x p l n w', Items w (fun _ => False) w' p l n → n ≤ 549755813888 → Calls Try.prog 17 #[.pointer (some ⟨p, 0, none⟩), .agg #[.int .i64 (ShM.It.key x), .int .i64 (ShM.It.id x)]] w' fun e w'' => e = .returned (.bool (decide (x ∉ l))) ∧ Items w (fun _ => False) w'' p (putL x l) (n + 1)) := Kit.hid (fun x p l n w' h hn => items_put x h hn)
  have HD : Hid (∀ x p l n w', Items w (fun _ => False) w' p l n → n ≤ 549755813888 → Calls Try.prog 21 #[.pointer (some ⟨p, 0, none⟩), .agg #[.int .i64 (ShM.It.key x), .int .i64 (ShM.It.id x)]] w' fun e w'' => e = .returned (.bool (decide (x ∈ l))) ∧ Items w (fun _ => False) w'' p (dropL x l) n) := Kit.hid (fun x p l n w' h hn => items_drop x h hn)
  go_enter Try.func11, Try.ntmps11
  go_wp2_with fail
  (with_reducible refine HN.out.mono ?_); rintro e w1 ⟨g, rfl, hg, hi, hb⟩
  have HI := Kit.hid hi
  clear hi hb HN
  go_wp2_with fail
  go_loopw [4] (fun v4 wr => ∃ i : Nat, i ≤ ops.length ∧ v4 = .int .i64 i ∧ Hid (Items w (fun _ => False) wr g (walkedL (ops.take i)) (i + 1))) (fun i _ => ops.length - (intOf i).toNat)
  case atStart => exact ⟨0, by omega, rfl, HI⟩
  case round =>
    obtain ⟨i, hi, rfl, hI⟩ := hrel
    by_cases hlt : i < ops.length
    · obtain ⟨o, ho⟩ : ∃ o, ops[i]? = some o := ⟨_, List.getElem?_eq_getElem hlt⟩
      have hk := hI.out.kept.toBelow (fun k h => h.elim)
      obtain ⟨ad, rfl, c0, c1, c2⟩ := op_at (oprow_below hr hk) ho
      have HS := Kit.hid (walkedL_snoc ops i o ho)
      clear ho hk
      obtain ⟨x, out⟩ := o
      cases out
      · have HQ : Hid (walkedL (ops.take (i + 1)) = putL x (walkedL (ops.take i))) := Kit.hid (by rw [HS.out]; rfl)
        clear HS
        go_wp2_with fail
        (with_reducible refine (HP.out x g _ _ _ hI.out (by omega)).mono ?_); rintro e w2 ⟨rfl, hi2⟩
        have HI2 : Hid (Items w (fun _ => False) w2 g (walkedL (ops.take (i + 1))) (i + 1 + 1)) := Kit.hid (by rw [HQ.out]; exact hi2)
        clear hi2
        go_wp2_with fail
        go_roundw
        case rel => exact ⟨i + 1, by omega, by go_num, HI2⟩
        case measure => simp [intOf]; omega
      · have HQ : Hid (walkedL (ops.take (i + 1)) = dropL x (walkedL (ops.take i))) := Kit.hid (by rw [HS.out]; rfl)
        clear HS
        go_wp2_with fail
        (with_reducible refine (HD.out x g _ _ _ hI.out (by omega)).mono ?_); rintro e w2 ⟨rfl, hi2⟩
        have HI2 : Hid (Items w (fun _ => False) w2 g (walkedL (ops.take (i + 1))) (i + 1 + 1)) := Kit.hid (by rw [HQ.out]; exact hi2.more (Nat.le_succ _))
        clear hi2
        go_wp2_with fail
        go_roundw
        case rel => exact ⟨i + 1, by omega, by go_num, HI2⟩
        case measure => simp [intOf]; omega
    · obtain rfl : i = ops.length := by omega
      have HQ : Hid (walkedL (ops.take ops.length) = walkedL ops) := Kit.hid (by rw [List.take_length])
      rw [HQ.out] at hI
      go_wp2
      go_ret
      exact ⟨g, rfl, hg, hI.out⟩
set_option maxHeartbeats 800000 in
theorem awake_any (w : World) :
    Calls Try.prog 10 #[] w fun e w' => e = .returned (.bool true) ∧ Below w.heap.size w w' := by
  have HN := Kit.hid (items_new (Kept.refl (fun _ => False) w))
  have HP1 : Hid (∀ p w', Items w (fun _ => False) w' p [] 1 → Calls Try.prog 17 #[.pointer (some ⟨p, 0, none⟩), .agg #[.int .i64 2, .int .i64 7]] w' fun e w'' => e = .returned (.bool true) ∧ Items w (fun _ => False) w'' p [⟨2, 7⟩] 2) := Kit.hid (fun p w' h => items_put ⟨2, 7⟩ h (by omega))
  have HP2 : Hid (∀ p w', Items w (fun _ => False) w' p [⟨2, 7⟩] 2 → Calls Try.prog 17 #[.pointer (some ⟨p, 0, none⟩), .agg #[.int .i64 1, .int .i64 9]] w' fun e w'' => e = .returned (.bool true) ∧ Items w (fun _ => False) w'' p [⟨1, 9⟩, ⟨2, 7⟩] 3) := Kit.hid (fun p w' h => items_put ⟨1, 9⟩ h (by omega))
  have HP3 : Hid (∀ p w', Items w (fun _ => False) w' p [⟨1, 9⟩, ⟨2, 7⟩] 3 → Calls Try.prog 17 #[.pointer (some ⟨p, 0, none⟩), .agg #[.int .i64 2, .int .i64 3]] w' fun e w'' => e = .returned (.bool true) ∧ Items w (fun _ => False) w'' p [⟨1, 9⟩, ⟨2, 3⟩, ⟨2, 7⟩] 4) := Kit.hid (fun p w' h => items_put ⟨2, 3⟩ h (by omega))
  have HA : Hid (∀ p w', Items w (fun _ => False) w' p [⟨1, 9⟩, ⟨2, 3⟩, ⟨2, 7⟩] 4 → Calls Try.prog 14 #[.pointer (some ⟨p, 0, none⟩), .int .i64 1] w' (AtPost w' ⟨2, 3⟩ true)) := Kit.hid (fun p w' h => items_at 1 ⟨2, 3⟩ h (by omega) rfl)
  have HR : Hid (∀ p w', Items w (fun _ => False) w' p [⟨1, 9⟩, ⟨2, 3⟩, ⟨2, 7⟩] 4 → Calls Try.prog 12 #[.pointer (some ⟨p, 0, none⟩), .agg #[.int .i64 2, .int .i64 4]] w' fun e w'' => e = .returned (.int .i64 2) ∧ Below w'.heap.size w' w'') := Kit.hid (fun p w' h => items_rank ⟨2, 4⟩ h (by omega))
  have HL : Hid (∀ p w', Items w (fun _ => False) w' p [⟨1, 9⟩, ⟨2, 3⟩, ⟨2, 7⟩] 4 → Calls Try.prog 13 #[.pointer (some ⟨p, 0, none⟩)] w' fun e w'' => e = .returned (.int .i64 3) ∧ ∃ m, w'' = w'.drewN m) := Kit.hid (fun p w' h => items_len h)
  have HEQ : ∀ w', (binOp .eql 24 (.agg #[.int .i64 2, .int .i64 3]) (.agg #[.int .i64 2, .int .i64 3])).run Try.prog w' = .ok (.bool true) w' := fun w' => eql_item ⟨2, 3⟩ ⟨2, 3⟩ w'
  unfold AtPost at HA
  go_enter Try.func10, Try.ntmps10
  go_wp2_with fail
  (with_reducible refine HN.out.mono ?_); rintro e w1 ⟨g, rfl, hg, hi, hb⟩
  have HI1 := Kit.hid hi
  clear hi hb
  go_wp2_with fail
  (with_reducible refine (HP1.out _ _ HI1.out).mono ?_); rintro e w2 ⟨rfl, hi⟩
  have HI2 := Kit.hid hi
  clear hi
  go_wp2_with fail
  (with_reducible refine (HP2.out _ _ HI2.out).mono ?_); rintro e w3 ⟨rfl, hi⟩
  have HI3 := Kit.hid hi
  clear hi
  go_wp2_with fail
  (with_reducible refine (HP3.out _ _ HI3.out).mono ?_); rintro e w4 ⟨rfl, hi⟩
  have HI4 := Kit.hid hi
  clear hi
  go_wp2_with fail
  (with_reducible refine (HA.out _ _ HI4.out).mono ?_); rintro e w5 ⟨rfl, hb5⟩
  have HI5 := Kit.hid ((HI4.out.below hb5).below ((Below.refl _ _).alloc (Nat.le_refl _) (.cells #[.int .i64 2, .int .i64 3] 24)))
  clear hb5
  go_wp2_with fail
  (with_reducible refine (HR.out _ _ HI5.out).mono ?_); rintro e w6 ⟨rfl, hb6⟩
  have HI6 := Kit.hid (HI5.out.below hb6)
  clear hb6
  go_wp2_with fail
  (with_reducible refine (HL.out _ _ HI6.out).mono ?_); rintro e w7 ⟨rfl, m7, rfl⟩
  have HI7 := Kit.hid (HI6.out.kept.drewN m7)
  go_wp2
  go_ret
  exact ⟨rfl, HI7.out.toBelow (fun k h => h.elim)⟩
end Go.Proofs.Ytgcmblklalcpgaa.Sh

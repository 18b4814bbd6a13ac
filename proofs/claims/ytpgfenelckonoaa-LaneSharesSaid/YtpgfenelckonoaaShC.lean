/- The walks of even as a whole, pace.Less, made and put. -/
import Derived.Test.YtpgfenelckonoaaShB
namespace Go.Proofs.Ytpgfenelckonoaa.Sh
open Go.RowKit Go.Proofs.Ytpgfenelckonoaa.Kit Go.Proofs.Ytpgfenelckonoaa.ShM
set_option linter.unusedVariables false
set_option linter.unusedSimpArgs false
section
variable {w0 w : World} {S0 : Nat → Prop} {p gl cl : Nat} {vf : Value} {L : List Nd} {top : Nat} {F : List Nat}
/-- What even leaves. -/
def EvenPost (w0 : World) (S0 : Nat → Prop) (p gl cl : Nat) (vf : Value) (L : List Nd) (top : Nat) (F : List Nat) (t : T) (I : List Nat) (e : Ending) (w' : World) : Prop :=
  ∃ L', e = .returned (.int .i64 (t.root : Int)) ∧ Sh w0 S0 w' p gl cl vf L' top F ∧ L'.length = L.length ∧ Holds L' t ∧ ∀ j, j ∉ I → L'[j]? = L[j]?
theorem even_any (h : Sh w0 S0 w p gl cl vf L top F) (hz : L[0]? = some zeroN) (hlen : L.length ≤ 1099511627776) (i : Nat) (x : It) (l r : T) (m d : Nat)
    (hi : L[i]? = some ⟨x, l.root, r.root, m, d⟩) (h1 : Fit L l) (h2 : Fit L r) (hnd : (i :: (l.idx ++ r.idx)).Nodup) (pi : 0 < i) :
    Calls Try.prog 86 #[.pointer (some ⟨p, 0, none⟩), .int .i64 (i : Int)] w (EvenPost w0 S0 p gl cl vf L top F (evenT (.node i x l r)) (i :: (l.idx ++ r.idx))) := by
  have li := (List.getElem?_eq_some_iff.1 hi).1
  have hni := List.nodup_cons.1 hnd
  by_cases q2 : (l.deep : Int) - (r.deep : Int) = 2
  · obtain ⟨a, y, ll, lr, rfl⟩ := T.deep_pos (t := l) (by omega)
    by_cases q3 : (ll.deep : Int) - (lr.deep : Int) < 0
    · obtain ⟨b, z, lm, lr, rfl⟩ := T.deep_pos (t := lr) (by omega)
      have ev : evenT (.node i x (.node a y ll (.node b z lm lr)) r) = .node b z (.node a y ll lm) (.node i x lr r) := by
        simp only [evenT]
        rw [if_pos q2, if_pos (show (T.node a y ll (.node b z lm lr)).lean < 0 from q3)]
        rfl
      rw [ev]
      refine (even_two h hz hlen i a b x y z ll lm lr r m d _ hi h1 h2 hnd pi q2 rfl q3).mono ?_
      rintro e w' ⟨L', he, hs, hl, hh, ho⟩
      exact ⟨L', he, hs, hl, hh, fun j hj => by
        simp only [T.idx, List.mem_cons, List.mem_append, not_or] at hj
        exact ho j hj.1 hj.2.1.1 hj.2.1.2.2.1⟩
    · have ev : evenT (.node i x (.node a y ll lr) r) = .node a y ll (.node i x lr r) := by
        simp only [evenT]
        rw [if_pos q2, if_neg (show ¬ (T.node a y ll lr).lean < 0 from q3)]
        rfl
      rw [ev]
      refine (even_one h hz hlen i a x y ll lr r m d _ hi h1 h2 hnd pi q2 rfl q3).mono ?_
      rintro e w' ⟨L', he, hs, hr⟩
      have hnd' := hnd
      simp only [T.idx, List.cons_append, List.append_assoc, List.nodup_cons, List.nodup_append, List.mem_cons, List.mem_append, not_or] at hnd'
      obtain ⟨⟨k0, k1, k2, k3⟩, ⟨k4, k5, k6⟩, _⟩ := hnd'
      exact ⟨L', he, hs, hr.len, ⟨hr.ata, h1.left.holds.off fun j hj => hr.off j (fun e => k1 (e ▸ hj)) (fun e => k4 (e ▸ hj)), hr.ati,
        h1.right.holds.off fun j hj => hr.off j (fun e => k2 (e ▸ hj)) (fun e => k5 (e ▸ hj)), h2.holds.off fun j hj => hr.off j (fun e => k3 (e ▸ hj)) (fun e => k6 (e ▸ hj))⟩, fun j hj => by
        simp only [T.idx, List.mem_cons, List.mem_append, not_or] at hj
        exact hr.off j hj.1 hj.2.1.1⟩
  · by_cases q4 : (l.deep : Int) - (r.deep : Int) = -2
    · obtain ⟨a, y, rl, rr, rfl⟩ := T.deep_pos (t := r) (by omega)
      by_cases q3 : 0 < (rl.deep : Int) - (rr.deep : Int)
      · obtain ⟨b, z, rl, rm, rfl⟩ := T.deep_pos (t := rl) (by omega)
        have ev : evenT (.node i x l (.node a y (.node b z rl rm) rr)) = .node b z (.node i x l rl) (.node a y rm rr) := by
          simp only [evenT]
          rw [if_neg q2, if_pos q4, if_pos (show 0 < (T.node a y (.node b z rl rm) rr).lean from q3)]
          rfl
        rw [ev]
        refine (even_two_r h hz hlen i a b x y z l rl rm rr m d _ hi h1 h2 hnd pi q4 rfl q3).mono ?_
        rintro e w' ⟨L', he, hs, hl, hh, ho⟩
        exact ⟨L', he, hs, hl, hh, fun j hj => by
          simp only [T.idx, List.mem_cons, List.mem_append, not_or] at hj
          exact ho j hj.1 hj.2.2.1 hj.2.2.2.1.1⟩
      · have ev : evenT (.node i x l (.node a y rl rr)) = .node a y (.node i x l rl) rr := by
          simp only [evenT]
          rw [if_neg q2, if_pos q4, if_neg (show ¬ 0 < (T.node a y rl rr).lean from q3)]
          rfl
        rw [ev]
        refine (even_one_r h hz hlen i a x y l rl rr m d _ hi h1 h2 hnd pi q4 rfl q3).mono ?_
        rintro e w' ⟨L', he, hs, hr⟩
        have hnd' := hnd
        simp only [T.idx, List.nodup_cons, List.nodup_append, List.mem_cons, List.mem_append, not_or] at hnd'
        obtain ⟨⟨k1, k0, k2, k3⟩, _, ⟨⟨k5, k6⟩, _⟩, dd⟩ := hnd'
        have k4 : a ∉ l.idx := fun e => dd a e a (.inl rfl) rfl
        exact ⟨L', he, hs, hr.len, ⟨hr.ata, ⟨hr.ati, h1.holds.off fun j hj => hr.off j (fun e => k1 (e ▸ hj)) (fun e => k4 (e ▸ hj)),
          h2.left.holds.off fun j hj => hr.off j (fun e => k2 (e ▸ hj)) (fun e => k5 (e ▸ hj))⟩, h2.right.holds.off fun j hj => hr.off j (fun e => k3 (e ▸ hj)) (fun e => k6 (e ▸ hj))⟩, fun j hj => by
          simp only [T.idx, List.mem_cons, List.mem_append, not_or] at hj
          exact hr.off j hj.1 hj.2.2.1⟩
    · have ev : evenT (.node i x l r) = .node i x l r := by
        simp only [evenT]
        rw [if_neg q2, if_neg q4]
      rw [ev]
      refine (even_flat h hz hlen i x l r m d _ hi h1 h2 hnd pi rfl q2 q4).mono ?_
      rintro e w' ⟨he, hs⟩
      have ho : ∀ j, j ≠ i → (L.set i (ndOf x l r))[j]? = L[j]? := fun j hj => by rw [List.getElem?_set_ne (Ne.symm hj)]
      exact ⟨_, he, hs, by simp, ⟨by rw [List.getElem?_set_self li], h1.holds.off fun j hj => ho j (fun e => hni.1 (by rw [← e]; simp [hj])), h2.holds.off fun j hj => ho j (fun e => hni.1 (by rw [← e]; simp [hj]))⟩,
        fun j hj => ho j (fun e => hj (by rw [e]; simp))⟩
end
def itV (x : It) : Value := .agg #[.int .i64 x.key, .int .i64 x.id]
theorem less_any (a b : It) (w : World) :
    Calls Try.prog 84 #[.agg #[.int .i64 a.key, .int .i64 a.id], .agg #[.int .i64 b.key, .int .i64 b.id]] w fun e w' => e = .returned (.bool (less a b)) ∧ Below w.heap.size w w' := by
  have hb : Below w.heap.size w ((w.alloc (.cells #[.int .i64 a.key, .int .i64 a.id] 107)).alloc (.cells #[.int .i64 b.key, .int .i64 b.id] 107)) := ((Below.refl _ w).alloc (Nat.le_refl _) _).alloc (by simp) _
  have HB := Kit.hid hb
  clear hb
  by_cases h1 : a.key < b.key
  · have E : Hid (less a b = true) := Kit.hid (by unfold less; rw [decide_eq_true h1, Bool.true_or])
    go_enter Try.func84, Try.ntmps84
    go_wp2
    go_ret
    exact ⟨by rw [E.out]; rfl, HB.out⟩
  · by_cases h2 : a.key = b.key
    · have E : Hid (less a b = decide (a.id < b.id)) := Kit.hid (by unfold less; rw [decide_eq_false h1, decide_eq_true h2, Bool.false_or, Bool.true_and])
      have g1 : decide (a.key < b.key) = false := decide_eq_false h1
      have g2 : (a.key == b.key) = true := beq_iff_eq.2 h2
      clear h2
      go_enter Try.func84, Try.ntmps84
      go_wp2
      go_ret
      exact ⟨by rw [E.out]; rfl, HB.out⟩
    · have E : Hid (less a b = false) := Kit.hid (by unfold less; rw [decide_eq_false h1, decide_eq_false h2, Bool.false_or, Bool.false_and])
      have g1 : decide (a.key < b.key) = false := decide_eq_false h1
      have g2 : (a.key == b.key) = false := beq_eq_false_iff_ne.2 h2
      clear h2
      go_enter Try.func84, Try.ntmps84
      go_wp2
      go_ret
      exact ⟨by rw [E.out]; rfl, HB.out⟩
end Go.Proofs.Ytpgfenelckonoaa.Sh

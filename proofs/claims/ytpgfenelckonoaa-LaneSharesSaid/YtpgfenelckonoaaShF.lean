/- The walk of least. -/
import Derived.Test.YtpgfenelckonoaaShE
namespace Go.Proofs.Ytpgfenelckonoaa.Sh
open Go.RowKit Go.Proofs.Ytpgfenelckonoaa.Kit Go.Proofs.Ytpgfenelckonoaa.ShM
set_option linter.unusedVariables false
set_option linter.unusedSimpArgs false
def LeastPost (w0 : World) (S0 : Nat → Prop) (p gl cl : Nat) (vf : Value) (L : List Nd) (top : Nat) (F : List Nat) (q : Nat × It × T) (I : List Nat) (e : Ending) (w' : World) : Prop :=
  ∃ L', e = .returned (.tuple #[.int .i64 (q.1 : Int), .int .i64 (q.2.2.root : Int)]) ∧ Sh w0 S0 w' p gl cl vf L' top F ∧ L'.length = L.length ∧ Holds L' q.2.2 ∧ L'[q.1]? = L[q.1]? ∧ (∃ nd, L[q.1]? = some nd ∧ nd.x = q.2.1) ∧ ∀ j, j ∉ I → L'[j]? = L[j]?
section
variable {w0 : World} {S0 : Nat → Prop} {p gl cl : Nat} {vf : Value} {L : List Nd} {top : Nat} {F : List Nat}
theorem least_leaf (k : Nat) (x : It) (r : T) (w : World) (h : Sh w0 S0 w p gl cl vf L top F) (ft : Fit L (.node k x .nil r)) :
    Calls Try.prog 85 #[.pointer (some ⟨p, 0, none⟩), .int .i64 (k : Int)] w (LeastPost w0 S0 p gl cl vf L top F (leastT (.node k x .nil r)) (T.node k x .nil r).idx) := by
  obtain ⟨p0, p1, p2, _, _, _⟩ := h.pcells
  obtain ⟨a0, a1, a2, a3, a4, a5⟩ := h.ncells ft.holds.node
  replace a2 : w.cell? ⟨gl, k * 6 + 2, none⟩ = some (.int .i64 0) := a2
  replace a3 : w.cell? ⟨gl, k * 6 + 3, none⟩ = some (.int .i64 (r.root : Int)) := a3
  have hk := (List.getElem?_eq_some_iff.1 ft.holds.node).1
  have z1 : (0 : Int) ≤ (k : Int) := by omega
  have y1 : (k : Int) < (L.length : Int) := by omega
  have HS := Kit.hid h
  have HR := Kit.hid ft.holds.2.2
  have HN := Kit.hid ft.holds.node
  clear h ft a0 a1 a4 a5
  go_enter Try.func85, Try.ntmps85
  go_wp2
  go_quiet (fail)
  go_wp2
  go_ret2
  exact ⟨L, rfl, HS.out.drewN _, rfl, HR.out, rfl, ⟨_, HN.out, rfl⟩, fun j _ => rfl⟩
set_option maxHeartbeats 800000 in
theorem least_node (k : Nat) (x : It) (l r : T) (w : World) (h : Sh w0 S0 w p gl cl vf L top F) (hz : L[0]? = some zeroN) (hlen : L.length ≤ 1099511627776) (ft : Fit L (.node k x l r)) (hl : l ≠ .nil)
    (IH : Hid (∀ w', Sh w0 S0 w' p gl cl vf L top F → Calls Try.prog 85 #[.pointer (some ⟨p, 0, none⟩), .int .i64 (l.root : Int)] w' (LeastPost w0 S0 p gl cl vf L top F (leastT l) l.idx))) :
    Calls Try.prog 85 #[.pointer (some ⟨p, 0, none⟩), .int .i64 (k : Int)] w (LeastPost w0 S0 p gl cl vf L top F ((leastT l).1, (leastT l).2.1, evenT (.node k x (leastT l).2.2 r)) (T.node k x l r).idx) := by
  have hp := leastT_idx l hl
  obtain ⟨q, hq⟩ : ∃ q, q = leastT l := ⟨_, rfl⟩
  rw [← hq] at IH hp ⊢
  clear hq
  have pk := ft.pos k (by simp [T.idx])
  have rl0 : l.root ≠ 0 := by
    cases l with
    | nil => exact absurd rfl hl
    | node a y ll lr => have := ft.pos a (by simp [T.idx]); exact fun e => by simp only [T.root] at e; omega
  have hk := (List.getElem?_eq_some_iff.1 ft.holds.node).1
  have hdd := ft.nodup
  simp only [T.idx, List.nodup_cons, List.nodup_append, List.mem_append, not_or] at hdd
  obtain ⟨⟨kl, kr⟩, _, _, hdd⟩ := hdd
  have q1l : q.1 ∈ l.idx := hp.mem_iff.1 List.mem_cons_self
  have hkq : k ≠ q.1 := fun e => kl (by rw [e]; exact q1l)
  have HE : Hid (∀ w' L', Sh w0 S0 w' p gl cl vf (L'.set k ⟨x, q.2.2.root, r.root, l.many + r.many + 1, max l.deep r.deep + 1⟩) top F → L'.length = L.length → Holds L' q.2.2 → L'[q.1]? = L[q.1]? → (∃ nd, L[q.1]? = some nd ∧ nd.x = q.2.1) → (∀ j, j ∉ l.idx → L'[j]? = L[j]?) →
      Calls Try.prog 86 #[.pointer (some ⟨p, 0, none⟩), .int .i64 (k : Int)] w' fun e w'' => ∃ L'', e = .returned (.int .i64 ((evenT (.node k x q.2.2 r)).root : Int)) ∧ LeastPost w0 S0 p gl cl vf L top F (q.1, q.2.1, evenT (.node k x q.2.2 r)) (T.node k x l r).idx (.returned (.tuple #[.int .i64 (q.1 : Int), .int .i64 ((evenT (.node k x q.2.2 r)).root : Int)])) w'' ∧ L'' = L') := Kit.hid (fun w' L' hs l1 hh hq1 hq2 ho => by
    have hnq : (q.1 :: q.2.2.idx).Nodup := hp.nodup_iff.2 ft.left.nodup
    have fl1 : Fit L' q.2.2 := ⟨hh, (List.nodup_cons.1 hnq).2, fun j hj => ft.left.pos j (hp.mem_iff.1 (List.mem_cons_of_mem _ hj))⟩
    have hkp : k ∉ q.2.2.idx := fun e => kl (hp.mem_iff.1 (List.mem_cons_of_mem _ e))
    have fl2 := fl1.set hkp ⟨x, q.2.2.root, r.root, l.many + r.many + 1, max l.deep r.deep + 1⟩
    have fo2 := (ft.right.off fun j hj => ho j (fun e => hdd j e j hj rfl)).set kr ⟨x, q.2.2.root, r.root, l.many + r.many + 1, max l.deep r.deep + 1⟩
    have hq1r : q.1 ∉ (k :: (q.2.2.idx ++ r.idx)) := by
      simp only [List.mem_cons, List.mem_append, not_or]
      exact ⟨Ne.symm hkq, (List.nodup_cons.1 hnq).1, fun e => hdd q.1 q1l q.1 e rfl⟩
    have hnd : (k :: (q.2.2.idx ++ r.idx)).Nodup := by
      have h1 : (q.1 :: k :: (q.2.2.idx ++ r.idx)).Perm (T.node k x l r).idx := by
        refine List.perm_iff_count.2 fun c => ?_
        have := List.perm_iff_count.1 hp c
        simp only [T.idx, List.count_cons, List.count_append] at this ⊢
        omega
      exact (List.nodup_cons.1 (h1.nodup_iff.2 ft.nodup)).2
    refine (even_any hs (by rw [List.getElem?_set_ne (by omega), ho 0 (fun e => Nat.lt_irrefl _ (ft.left.pos 0 e))]; exact hz) (by simp; omega) k x q.2.2 r _ _ (by rw [List.getElem?_set_self (by omega)]) fl2 fo2 hnd pk).mono ?_
    rintro e w'' ⟨L'', he, hs', hl', hh', ho'⟩
    refine ⟨L', he, ⟨L'', rfl, hs', by rw [hl']; simp; omega, hh', ?_, hq2, fun j hj => ?_⟩, rfl⟩
    · show L''[q.1]? = L[q.1]?
      rw [ho' q.1 hq1r, List.getElem?_set_ne hkq, hq1]
    · simp only [T.idx, List.mem_cons, List.mem_append, not_or] at hj
      rw [ho' j (fun e => ?_), List.getElem?_set_ne (Ne.symm hj.1), ho j hj.2.1]
      simp only [List.mem_cons, List.mem_append] at e
      rcases e with e | e | e
      · exact hj.1 e
      · exact hj.2.1 (hp.mem_iff.1 (List.mem_cons_of_mem _ e))
      · exact hj.2.2 e)
  have HK : Hid (∀ L' : List Nd, (∀ j, j ∉ l.idx → L'[j]? = L[j]?) → L'[k]? = some (ndOf x l r)) := Kit.hid (fun L' ho => by rw [ho k kl]; exact ft.holds.node)
  obtain ⟨p0, p1, p2, _, _, _⟩ := h.pcells
  obtain ⟨a0, a1, a2, a3, a4, a5⟩ := h.ncells ft.holds.node
  replace a2 : w.cell? ⟨gl, k * 6 + 2, none⟩ = some (.int .i64 (l.root : Int)) := a2
  have z1 : (0 : Int) ≤ (k : Int) := by omega
  have y1 : (k : Int) < (L.length : Int) := by omega
  have g0 : ((l.root : Int) == 0) = false := beq_eq_false_iff_ne.2 (by omega)
  have HS := Kit.hid h
  clear h ft a0 a1 a3 a4 a5 hdd kl kr hkq q1l hp rl0 hl hz
  go_enter Try.func85, Try.ntmps85
  go_wp2_with fail
  (with_reducible refine (IH.out _ HS.out).mono ?_); rintro e w4 ⟨L4, rfl, hs4, l4, hh4, hq4, hx4, ho4⟩
  have HS4 := Kit.hid hs4
  have HH4 := Kit.hid hh4
  have HQ4 := Kit.hid hq4
  have HX4 := Kit.hid hx4
  have HO4 := Kit.hid ho4
  have HL4 := Kit.hid l4
  have y4 : (k : Int) < (L4.length : Int) := by omega
  clear hs4 hh4 hq4 hx4 ho4 l4 p0 p1 p2 a2
  obtain ⟨p0, p1, p2, _, _, _⟩ := HS4.out.pcells
  obtain ⟨a0, a1, a2, a3, a4, a5⟩ := HS4.out.ncells (HK.out L4 HO4.out)
  have fr4 := HS4.out.row.frozenAt (k * 6 + 2)
  have S5 := Kit.hid (HS4.out.nset (n' := ⟨x, q.2.2.root, r.root, l.many + r.many + 1, max l.deep r.deep + 1⟩) (v := .int .i64 (q.2.2.root : Int)) (HK.out L4 HO4.out) (k := 2) (by decide) rfl)
  go_wp2_with fail
  (with_reducible refine (HE.out _ _ S5.out HL4.out HH4.out HQ4.out HX4.out HO4.out).mono ?_); rintro e w5 ⟨L5, rfl, hp5, _⟩
  have HP5 := Kit.hid hp5
  clear hp5
  go_wp2
  go_ret2
  exact HP5.out
theorem least_any (t : T) : ∀ (w : World), t ≠ .nil → Sh w0 S0 w p gl cl vf L top F → L[0]? = some zeroN → L.length ≤ 1099511627776 → Fit L t →
    Calls Try.prog 85 #[.pointer (some ⟨p, 0, none⟩), .int .i64 (t.root : Int)] w (LeastPost w0 S0 p gl cl vf L top F (leastT t) t.idx) := by
  induction t with
  | nil => exact fun _ h => absurd rfl h
  | node k x l r ihl _ =>
    intro w _ h hz hlen ft
    cases l with
    | nil => exact least_leaf k x r w h ft
    | node a y ll lr => exact least_node k x (.node a y ll lr) r w h hz hlen ft (fun e => by cases e) (Kit.hid fun w' hs => ihl w' (fun e => by cases e) hs hz hlen ft.left)
end
end Go.Proofs.Ytpgfenelckonoaa.Sh
